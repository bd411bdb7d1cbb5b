/- slices.Backward over texts, a range over it; list.Push. -/
import Derived.Test.YtmhdpjifhfoabaaGreatDoorClNamB
import Derived.Test.YtmhdpjifhfoabaaGreatDoorClNamF
import Derived.Test.YtmhdpjifhfoabaaGreatDoorClNamG
import Derived.Test.YtmhdpjifhfoabaaGreatDoorRows
import Derived.Test.YtmhdpjifhfoabaaGreatDoorClNamD
import Derived.Laws.StructEq
import Derived.Test.YtmhdpjifhfoabaaGreatDoorClNamE
import Derived.Test.YtmhdpjifhfoabaaGreatDoorClNamC
set_option maxRecDepth 100000
set_option maxHeartbeats 16000000
set_option synthInstance.maxSize 4096
set_option synthInstance.maxHeartbeats 400000
namespace Go.Proofs.YtmhdpjifhfoabaaGreatDoor
open Go.RowKit Go.Pm
def bkEnc (x : Nat × List UInt8) : Array Value := #[vI (x.1 : Int), strV x.2]
def BkStep (ss : Tx) (pre : List (Nat × List UInt8)) (x : Nat × List UInt8) : Prop := x.1 + pre.length + 1 = ss.length ∧ ss[x.1]? = some x.2
theorem bk_next {ss : Tx} {pre : List (Nat × List UInt8)} {j : Nat} {x : List UInt8} (hp : pre.map (·.2) = ss.reverse.take pre.length) (hj : j + pre.length + 1 = ss.length) (hx : ss[j]? = some x) : (pre ++ [(j, x)]).map (·.2) = ss.reverse.take (pre ++ [(j, x)]).length := by
 rw [List.map_append, hp, List.length_append, List.length_singleton]
 refine (take_next ?_).symm
 rw [List.getElem?_reverse (by omega), show ss.length - 1 - pre.length = j by omega]
 exact hx
theorem backIt (m : Nat) (B : Base) (bx : Nat) (a : Option Addr) (cap : Nat) (ss : Tx) (hr : RdV B [] a (textCells ss)) (hm : ss.length ≤ 1000000) :
  SeqP m Tryz.prog 106 #[vP bx] [Res.cell bx [.slice a ss.length cap] 22] bkEnc (BkStep ss) (fun xs => xs.map (·.2) = ss.reverse) B := by
 intro ll W K R1 hK1 hv hY
 refine callsIn_of_wp Tryz.func106 rfl trivial ?_ rfl
 simp only [Tryz.ntmps106, List.size_toArray, List.length_cons, List.length_nil, Nat.reduceAdd, Nat.reduceSub, Array.replicate_succ, Array.replicate_zero, List.push_toArray, List.append_toArray, List.nil_append, List.cons_append]
 replace hv : Inv B (Res.cell bx [.slice a ss.length cap] 22 :: R1) W := hv
 refine sK fun _ k1 => rL (uL _ rfl (run_load1 s1na22 (hv.load 0 0 rfl rfl)) ?_)
 refine uG (vI (ss.length : Int)) rfl (ex_len0 Tryz.underlying22 rfl rfl) ?_
 refine uG (vI ((ss.length : Int) - 1)) rfl (ex_sub rfl rfl rfl (by rw [i64_in (by omega)])) (uA rfl ?_)
 refine uW k1 (bB ?_)
 gi_loopw [3] (fun x3 wr => ∃ (pre : List (Nat × List UInt8)) (R : List Res), x3 = vI ((ss.length : Int) - 1 - pre.length) ∧ pre.length ≤ ss.length ∧ pre.map (·.2) = ss.reverse.take pre.length ∧ K pre R ∧ Inv B (Res.cell bx [.slice a ss.length cap] 22 :: R) wr) (fun x3 _ => ((intOf x3) + 1).toNat)
 case atStart => exact ⟨[], R1, by simp, Nat.zero_le _, rfl, hK1, hv⟩
 case round =>
  obtain ⟨pre, R, rfl, hpl, hpm, hK, hv⟩ := hrel
  refine sK fun _ k3 => sK fun _ k4 => rL (uM rfl ?_)
  by_cases hb5 : ((ss.length : Int) - 1 - pre.length) ≥ 0
  ·refine uG (.bool true) rfl (ex_geq rfl rfl rfl (qT hb5)) (uW k4 ?_)
   refine cT rfl (kS ?_)
   refine tK k3 (sK fun _ k6 => ?_)
   refine bB (sK fun _ k7 => ?_)
   have hjl : ss.length - 1 - pre.length < ss.length := by omega
   obtain ⟨x, hx⟩ : ∃ x, ss[ss.length - 1 - pre.length]? = some x := ⟨_, List.getElem?_eq_getElem hjl⟩
   obtain ⟨bb, bo, had, hrdx⟩ := text_reads hr hx
   subst had
   have hJ : ((ss.length : Int) - 1 - pre.length) = ((ss.length - 1 - pre.length : Nat) : Int) := by omega
   rw [hJ]
   refine rL (uM rfl ?_)
   refine uM rfl ?_
   refine uL _ rfl (run_load1 s1na22 (hv.load 0 0 rfl rfl)) (uM rfl ?_)
   refine uG (.pointer (some ⟨bb, bo + (ss.length - 1 - pre.length : Nat), none⟩)) rfl (ex_index rfl rfl rfl (run_idx1 (k := (ss.length - 1 - pre.length : Nat)) Tryz.underlying22 s9es22 (by omega))) ?_
   refine uL _ rfl (run_load1 s9na9 (hrdx _ _ _ (Base.Le.refl _) no_res hv 0 _ rfl)) ?_
   have hyl := hY pre ((ss.length - 1 - pre.length : Nat), x) _ [Res.cell bx [.slice (some ⟨bb, bo, none⟩) ss.length cap] 22] R ⟨by show (ss.length - 1 - pre.length) + pre.length + 1 = ss.length; omega, hx⟩ hK hv
   refine wpi_yield (args := #[vI ((ss.length - 1 - pre.length : Nat) : Int), vS x]) tV rfl rfl rfl rfl (by simp only [List.map_toArray, List.map_cons, List.map_nil]; rfl) hyl ?_
   rintro e W3 ⟨rfl, R', hK3, hv3⟩
   refine ⟨_, rfl, ?_⟩
   replace hv : Inv B (Res.cell bx [.slice (some ⟨bb, bo, none⟩) ss.length cap] 22 :: R') W3 := hv3
   refine uG (.bool false) rfl (ex_not rfl rfl rfl) (uW k7 ?_)
   refine cF rfl (kS ?_)
   refine bN (tK k6 ?_)
   refine rL (uM rfl ?_)
   refine uG (vI (((ss.length - 1 - pre.length : Nat) : Int) - 1)) rfl (ex_sub rfl rfl rfl (by rw [i64_in (by omega)])) (uA rfl ?_)
   refine uZ (then_normal ?_)
   go_roundw
   case rel => exact ⟨pre ++ [((ss.length - 1 - pre.length : Nat), x)], R', by rw [List.length_append, List.length_singleton]; congr 1; omega, by rw [List.length_append, List.length_singleton]; omega, bk_next hpm (by omega) hx, hK3, hv⟩
   case measure => show (((ss.length - 1 - pre.length : Nat) : Int) - 1 + 1).toNat < (((ss.length : Int) - 1 - pre.length) + 1).toNat; omega
  refine uG (.bool false) rfl (ex_geq rfl rfl rfl (qF hb5)) (uW k4 ?_)
  refine cF rfl (xE ?_)
  refine tX (tX ?_)
  refine bH ?_
  go_end0
  exact ⟨⟨_, rfl⟩, pre, R, by rw [hpm, List.take_of_length_le (by rw [List.length_reverse]; omega)], hK, hv.drop⟩
theorem backSl (B : Base) (H : List Res) (w : World) (a : Option Addr) (cap : Nat) (ss : Tx) (hv : Inv B H w) :
  Calls Tryz.prog 96 #[.slice a ss.length cap] w fun e w' => ∃ bx, e = .returned (.func (.func 106) #[] #[vP bx]) ∧ Inv B (Res.cell bx [.slice a ss.length cap] 22 :: H) w' := by
 refine cW Tryz.func96 rfl Tryz.ntmps96 ?_
 simp only [al]
 refine sK fun _ k1 => rL (sl_box (L := [.slice a ss.length cap]) tV (wn rfl) rfl rfl hv (fun w => by kernel_rfl) (fun b2 w3 hv => ?_))
 refine uA rfl (uW k1 ?_)
 refine sK fun _ k4 => rL (uG (.func (.func 106) #[] #[vP b2]) rfl (ex_makeFunc (c' := #[vP b2]) rfl (by simp only [List.map_toArray, List.map_nil]) (by simp only [List.map_toArray, List.map_cons, List.map_nil]; rfl)) ?_)
 refine uA rfl (uW k4 ?_)
 refine rR (bR rfl rfl ?_)
 exact ⟨_, rfl, hv⟩
theorem i5mk9 : (Tryz.prog.info? 9).map (fun i => (i.zero, i.size, i.bytes)) = some (some (vS []), 1, 16) := by kernel_rfl
theorem i5el22 : Elem Tryz.prog 22 9 (vS []) 1 16 := elem_of Tryz.underlying22 i5mk9 (by rfl) (by decide)
theorem i5al22 : AL Tryz.prog 22 [vN] := fun w => by kernel_rfl
theorem i5callable96 : Callable Tryz.prog 96 := cb Tryz.func96 (by kernel_rfl)
theorem listPush (B : Base) (H : List Res) (w : World) (la : Option Addr) (lc : Nat) (l : Tx) (hokl : SliceOk la l.length lc) (hrl : RdV B [] la (textCells l)) (hml : l.length ≤ 1000000) (front : Bool) (sa : Option Addr) (sc : Nat) (ss : Tx) (hoks : SliceOk sa ss.length sc) (hrs : RdV B [] sa (textCells ss)) (hms : ss.length ≤ 1000000) (hv : Inv B H w) :
  Calls Tryz.prog 75 #[.slice la l.length lc, .bool front, .slice sa ss.length sc] w fun e w' => ∃ C oa oc out ec, B.Le C ∧ e = .returned (.tuple #[.slice oa out.length oc, .int .i64 ec]) ∧ SliceOk oa out.length oc ∧ RdV C [] oa (textCells out) ∧ PushI l front ss out ec ∧ Inv C H w' := by
 refine (callsIn_wide (n := 5)).1 ?_
 refine callsIn_of_wp_marks Tryz.func75 rfl trivial ?_ rfl
 simp only [Tryz.ntmps75, List.size_toArray, List.length_cons, List.length_nil, Nat.reduceAdd, Nat.reduceSub, Array.replicate_succ, Array.replicate_zero, List.push_toArray, List.append_toArray, List.nil_append, List.cons_append]
 refine wpIn_seq_k (fun K1 hK1 => ?_)
 refine wpIn_region_lit ?_
 refine wpi_exG (v := .slice none 0 0) (fun _ => trivial) (wn rfl) rfl (ex_assign rfl rfl) ?_
 refine wpi_exG (v := .int .i64 0) (fun _ => trivial) (wn rfl) rfl (ex_assign rfl rfl) ?_
 refine wpListIn_nil ?_
 simp only [Act.put, List.setIfInBounds_toArray, List.set_cons_succ, List.set_cons_zero]
 refine then_normal (hK1 _ _ ?_)
 clear hK1 K1
 refine wpIn_seq_k (fun K2 hK2 => ?_)
 refine wpIn_seq_k (fun K3 hK3 => ?_)
 refine wpIn_region_lit ?_
 refine wpi_exG (v := .slice sa ss.length sc) (fun _ => trivial) (wn rfl) rfl (ex_move rfl rfl) ?_
 refine wpi_callG s9callable95 (fun _ => trivial) wideC rfl (wn rfl) rfl (args := #[.slice sa ss.length sc, .func (.func 92) #[] #[]]) (by simp only [List.map_toArray, List.map_cons, List.map_nil]; rfl) ((containsFuncText B _ _ 92 #[] sa sc ss (fun s : List UInt8 => decide (s.length > 4096)) hrs hms s9callable92 (fun x _ w hv => listLong B _ w x hv) hv).mono ?_)
 rintro e w4 ⟨rfl, hv⟩
 refine ⟨_, rfl, ?_⟩
 cases hany : ss.any (fun s : List UInt8 => decide (s.length > 4096))
 ·refine wpListIn_nil ?_
  simp only [Act.put, List.setIfInBounds_toArray, List.set_cons_succ, List.set_cons_zero]
  refine then_normal (hK3 _ _ ?_)
  clear hK3 K3
  refine wpIn_cond_false rfl ?_
  refine wpIn_skip ?_
  refine then_normal (hK2 _ _ ?_)
  clear hK2 K2
  refine wpIn_seq_k (fun K5 hK5 => ?_)
  refine wpIn_seq_k (fun K6 hK6 => ?_)
  refine wpIn_region_lit ?_
  refine wpi_exG (v := .slice la l.length lc) (fun _ => trivial) (wn rfl) rfl (ex_move rfl rfl) ?_
  refine wpi_exG (v := .int .i64 (l.length : Int)) (fun _ => trivial) (wn rfl) rfl (ex_len0 Tryz.underlying22 rfl rfl) ?_
  refine wpi_exG (v := .slice sa ss.length sc) (fun _ => trivial) (wn rfl) rfl (ex_move rfl rfl) ?_
  simp only [Act.put, List.setIfInBounds_toArray, List.set_cons_succ, List.set_cons_zero]
  refine wpi_exG (v := .int .i64 (ss.length : Int)) (fun _ => trivial) (wn rfl) rfl (ex_len0 Tryz.underlying22 rfl rfl) ?_
  refine wpi_exG (v := .int .i64 ((l.length + ss.length : Nat) : Int)) (fun _ => trivial) (wn rfl) rfl (ex_add (m := (l.length : Int)) (n := (ss.length : Int)) rfl rfl rfl (by rw [i64_in (by omega)]; omega)) ?_
  by_cases hb7 : ((l.length + ss.length : Nat) : Int) > 512
  ·refine wpi_exG (v := .bool true) (fun _ => trivial) (wn rfl) rfl (ex_gtr (k := .i64) (m := ((l.length + ss.length : Nat) : Int)) (n := 512) rfl rfl rfl (decide_eq_true hb7)) ?_
   refine wpListIn_nil ?_
   simp only [Act.put, List.setIfInBounds_toArray, List.set_cons_succ, List.set_cons_zero]
   refine then_normal (hK6 _ _ ?_)
   clear hK6 K6
   refine wpIn_cond_true rfl ?_
   refine wpIn_seq_k (fun K8 hK8 => ?_)
   refine wpIn_region_lit ?_
   refine wpi_exG (v := .slice none 0 0) (fun _ => trivial) (wn rfl) rfl (ex_assign rfl rfl) ?_
   refine wpi_exG (v := .int .i64 22) (fun _ => trivial) (wn rfl) rfl (ex_assign rfl rfl) ?_
   refine wpListIn_nil ?_
   simp only [Act.put, List.setIfInBounds_toArray, List.set_cons_succ, List.set_cons_zero]
   refine then_normal (hK8 _ _ ?_)
   clear hK8 K8
   refine wpIn_ret ?_
   refine then_ret ?_
   clear hK5 K5
   refine sl_end0 (results_tmp2 rfl _ _ _) ?_
   exact ⟨B, none, 0, [], 22, Base.Le.refl _, rfl, ⟨Nat.le_refl _, Nat.zero_le _, fun _ => rfl⟩, rdV_nil, .inl ⟨by decide, rfl, .inr (by omega)⟩, hv⟩
  refine wpi_exG (v := .bool false) (fun _ => trivial) (wn rfl) rfl (ex_gtr (k := .i64) (m := ((l.length + ss.length : Nat) : Int)) (n := 512) rfl rfl rfl (decide_eq_false hb7)) ?_
  refine wpListIn_nil ?_
  simp only [Act.put, List.setIfInBounds_toArray, List.set_cons_succ, List.set_cons_zero]
  refine then_normal (hK6 _ _ ?_)
  clear hK6 K6
  refine wpIn_cond_false rfl ?_
  refine wpIn_skip ?_
  refine then_normal (hK5 _ _ ?_)
  clear hK5 K5
  refine wpIn_seq_k (fun K9 hK9 => ?_)
  refine wpIn_region_lit ?_
  refine wpi_exG (v := .slice la l.length lc) (fun _ => trivial) (wn rfl) rfl (ex_move rfl rfl) ?_
  refine wpi_exG (v := .int .i64 (l.length : Int)) (fun _ => trivial) (wn rfl) rfl (ex_len0 Tryz.underlying22 rfl rfl) ?_
  refine wpi_exG (v := .slice sa ss.length sc) (fun _ => trivial) (wn rfl) rfl (ex_move rfl rfl) ?_
  simp only [Act.put, List.setIfInBounds_toArray, List.set_cons_succ, List.set_cons_zero]
  refine wpi_exG (v := .int .i64 (ss.length : Int)) (fun _ => trivial) (wn rfl) rfl (ex_len0 Tryz.underlying22 rfl rfl) ?_
  refine wpi_exG (v := .int .i64 ((l.length + ss.length : Nat) : Int)) (fun _ => trivial) (wn rfl) rfl (ex_add (m := (l.length : Int)) (n := (ss.length : Int)) rfl rfl rfl (by rw [i64_in (by omega)]; omega)) ?_
  refine sl_makeRow (cap := (l.length + ss.length : Nat)) (fun _ => trivial) (wn rfl) rfl rfl rfl i5el22 (by unfold maxLen; omega) (by omega) hv (fun b10 w11 hv => ?_)
  simp only [Act.put, List.setIfInBounds_toArray, List.set_cons_succ, List.set_cons_zero]
  refine sl_alloc (fun _ => trivial) (wn rfl) rfl hv i5al22 (fun b12 w13 hv => ?_)
  refine sl_storeAt 0 (v := .slice (some ⟨b10, 0, none⟩) 0 (l.length + ss.length : Nat)) (L' := [.slice (some ⟨b10, 0, none⟩) 0 (l.length + ss.length : Nat)]) (fun _ => trivial) (wn rfl) rfl rfl rfl hv rfl s1sz22 (by simp) rfl rfl rfl (fun w14 hv => ?_)
  simp only [List.set_cons_zero] at hv
  refine wpListIn_nil ?_
  simp only [Act.put, List.setIfInBounds_toArray, List.set_cons_succ, List.set_cons_zero]
  refine then_normal (hK9 _ _ ?_)
  clear hK9 K9
  refine wpIn_seq_k (fun K15 hK15 => ?_)
  refine wpIn_seq_k (fun K16 hK16 => ?_)
  refine wpIn_region_lit ?_
  refine wpi_exG (v := .bool front) (fun _ => trivial) (wn rfl) rfl (ex_move rfl rfl) ?_
  refine wpi_exG (v := .bool (!front)) (fun _ => trivial) (wn rfl) rfl (ex_not (b := front) rfl rfl rfl) ?_
  refine wpListIn_nil ?_
  simp only [Act.put, List.setIfInBounds_toArray, List.set_cons_succ, List.set_cons_zero]
  refine then_normal (hK16 _ _ ?_)
  clear hK16 K16
  refine wpIn_cond_split (t := !front) rfl (fun hc17 => ?_) (fun hc17 => ?_)
  ·refine wpIn_seq_k (fun K18 hK18 => ?_)
   refine wpIn_region_lit ?_
   refine wpi_exG (v := .slice (some ⟨b10, 0, none⟩) 0 (l.length + ss.length : Nat)) (fun _ => trivial) (wn rfl) rfl (ex_load rfl rfl (run_load1 s1na22 (hv.load 0 0 rfl rfl))) ?_
   refine wpi_exG (v := .slice la l.length lc) (fun _ => trivial) (wn rfl) rfl (ex_move rfl rfl) ?_
   replace hv := hv.front 1 rfl
   simp only [List.eraseIdx_cons_succ, List.eraseIdx_cons_zero] at hv
   refine sl_append (news := textCells l) (fun _ => trivial) (wn rfl) rfl rfl rfl i5el22 hv hokl (by rw [textCells_len]) ((hrl.rdW []).src (fun r9 hr9 => absurd hr9 List.not_mem_nil) hv) (textCells_one _) (by unfold maxLen; omega) (by omega) (fun rv19 w22 hv => ?_)
   obtain ⟨ra20, rc21, rfl⟩ := row_slice hv.head
   simp only [Act.put, List.setIfInBounds_toArray, List.set_cons_succ, List.set_cons_zero]
   refine sl_storeAt 1 (v := .slice ra20 (0 + l.length) rc21) (L' := [.slice ra20 (0 + l.length) rc21]) (fun _ => trivial) (wn rfl) rfl rfl rfl hv rfl s1sz22 (by simp) rfl rfl rfl (fun w23 hv => ?_)
   simp only [List.set_cons_succ, List.set_cons_zero] at hv
   refine wpListIn_nil ?_
   simp only [Act.put]
   refine then_normal (hK18 _ _ ?_)
   clear hK18 K18
   refine wpIn_seq_k (fun K24 hK24 => ?_)
   refine wpIn_region_lit ?_
   refine wpi_exG (v := .slice ra20 (0 + l.length) rc21) (fun _ => trivial) (wn rfl) rfl (ex_load rfl rfl (run_load1 s1na22 (hv.load 1 0 rfl rfl))) ?_
   refine wpi_exG (v := .slice sa ss.length sc) (fun _ => trivial) (wn rfl) rfl (ex_move rfl rfl) ?_
   refine sl_append (news := textCells ss) (fun _ => trivial) (wn rfl) rfl rfl rfl i5el22 hv hoks (by rw [textCells_len]) ((hrs.rdW []).src (fun r9 hr9 => absurd hr9 List.not_mem_nil) hv) (textCells_one _) (by unfold maxLen; omega) (by omega) (fun rv25 w28 hv => ?_)
   obtain ⟨ra26, rc27, rfl⟩ := row_slice hv.head
   simp only [Act.put, List.setIfInBounds_toArray, List.set_cons_succ, List.set_cons_zero]
   refine wpi_exG (v := .slice ra26 ((0 + l.length) + ss.length) rc27) (fun _ => trivial) (wn rfl) rfl (ex_assign rfl rfl) ?_
   refine wpi_exG (v := .int .i64 0) (fun _ => trivial) (wn rfl) rfl (ex_assign rfl rfl) ?_
   refine wpListIn_nil ?_
   simp only [Act.put, List.setIfInBounds_toArray, List.set_cons_succ, List.set_cons_zero]
   refine then_normal (hK24 _ _ ?_)
   clear hK24 K24
   refine wpIn_ret ?_
   refine then_ret ?_
   clear hK15 K15
   refine sl_end0 (results_tmp2 rfl _ _ _) ?_
   have hln : (l ++ ss).length = (0 + l.length) + ss.length := by simp only [List.length_append] <;> omega
   have h9 := (hv.sub (List.Sublist.cons_cons _ (List.Sublist.cons _ (List.Sublist.refl _))))
   rw [show (([] : List Value) ++ (textCells l)) ++ (textCells ss) = textCells (l ++ ss) by simp [textCells]] at h9
   obtain ⟨D, hD, hv, hro, hoko, -⟩ := h9.rowBy
   exact ⟨D, _, _, l ++ ss, 0, hD, by show Ending.returned (Value.tuple #[.slice ra26 ((0 + l.length) + ss.length) rc27, Value.int .i64 0]) = _; rw [hln], by rw [hln]; exact hoko, hro, .inr ⟨rfl, fun s hs => by have h9 := List.any_eq_false.1 hany s hs; simp only [decide_eq_true_eq] at h9; omega, by omega, by simp_all⟩, hv⟩
  refine wpIn_skip ?_
  refine then_normal (hK15 _ _ ?_)
  clear hK15 K15
  refine wpIn_seq_k (fun K29 hK29 => ?_)
  refine wpIn_seq_k (fun K30 hK30 => ?_)
  refine wpIn_region_lit ?_
  refine wpi_exG (v := .slice sa ss.length sc) (fun _ => trivial) (wn rfl) rfl (ex_move rfl rfl) ?_
  refine wpi_callG i5callable96 (fun _ => trivial) wideC rfl (wn rfl) rfl (args := #[.slice sa ss.length sc]) (by simp only [List.map_toArray, List.map_cons, List.map_nil]; rfl) ((backSl B _ _ sa sc ss hv).mono ?_)
  rintro e w32 ⟨bx31, rfl, hv⟩
  refine ⟨_, rfl, ?_⟩
  refine wpListIn_nil ?_
  simp only [Act.put, List.setIfInBounds_toArray, List.set_cons_succ, List.set_cons_zero]
  refine then_normal (hK30 _ _ ?_)
  clear hK30 K30
  refine wpIn_block ?_
  replace hv := hv.front 1 rfl
  simp only [List.eraseIdx_cons_succ, List.eraseIdx_cons_zero] at hv
  replace hv := hv.front 2 rfl
  simp only [List.eraseIdx_cons_succ, List.eraseIdx_cons_zero] at hv
  replace hv := hv.front 2 rfl
  simp only [List.eraseIdx_cons_succ, List.eraseIdx_cons_zero] at hv
  obtain ⟨TT, hTT⟩ : ∃ TT : List Res, TT = (H) := ⟨_, rfl⟩
  rw [← hTT] at hv
  refine sl_rangeP (by omega) rfl (enters_of Tryz.func106 (by kernel_rfl) rfl) (R0 := [Res.cell bx31 [.slice sa ss.length sc] 22]) (backIt _ B bx31 sa sc ss hrs hms) (fun x => rfl) (fun pre R => ∃ va vc, R = Res.row 9 1 (.slice va pre.length vc) pre.length (textCells (pre.map (·.2))) :: Res.cell b12 [.slice va pre.length vc] 22 :: TT) (fun x => { tmps := List.toArray (.slice la l.length lc :: .bool front :: .slice sa ss.length sc :: undef :: undef :: undef :: .slice none 0 0 :: .int .i64 0 :: .pointer (some ⟨b12, 0, none⟩) :: undef :: .string ⟨x.2.toArray⟩ :: .slice sa ss.length sc :: .bool false :: .slice la l.length lc :: .int .i64 (l.length : Int) :: .slice sa ss.length sc :: .int .i64 (ss.length : Int) :: .int .i64 ((l.length + ss.length : Nat) : Int) :: .bool false :: .slice la l.length lc :: .int .i64 (l.length : Int) :: .slice sa ss.length sc :: .int .i64 (ss.length : Int) :: .int .i64 ((l.length + ss.length : Nat) : Int) :: .slice (some ⟨b10, 0, none⟩) 0 (l.length + ss.length : Nat) :: .bool front :: .bool (!front) :: undef :: undef :: undef :: undef :: undef :: undef :: .slice sa ss.length sc :: .func (.func 106) #[] #[.pointer (some ⟨bx31, 0, none⟩)] :: .int .i64 (x.1 : Int) :: .string ⟨x.2.toArray⟩ :: undef :: undef :: undef :: undef :: undef :: undef :: undef :: []), defers := [] }) ⟨_, _, rfl⟩ hv ?assign ?body ?done
  case assign =>
   rintro ll pre x R T W hst hR hv
   simp only [bkEnc, List.zip_toArray, List.zip_cons_cons, List.zip_nil_right, List.foldl_toArray', List.foldl_cons, List.foldl_nil, List.setIfInBounds_toArray, List.set_cons_succ, List.set_cons_zero]
   refine wpIn_region_lit ?_
   refine wpi_exG (v := .string ⟨x.2.toArray⟩) (fun _ => trivial) (wn rfl) rfl (ex_assign rfl rfl) ?_
   refine wpListIn_nil ?_
   simp only [Act.put, List.setIfInBounds_toArray, List.set_cons_succ, List.set_cons_zero]
   exact ⟨by trivial, by trivial, hv⟩
  case body =>
   rintro ll pre x _ T W hst ⟨va, vc, rfl⟩ hv
   obtain ⟨TU, hTU⟩ : ∃ TU : List Res, TU = TT ++ T := ⟨_, rfl⟩
   simp only [List.cons_append] at hv; rw [← hTU] at hv
   have hpl9 : pre.length < 1000000 := by have := hst.1; omega
   refine wpIn_block ?_
   refine wpIn_region_lit ?_
   refine wpi_exG (v := .slice va pre.length vc) (fun _ => trivial) (wn rfl) rfl (ex_load rfl rfl (run_load1 s1na22 (hv.load 1 0 rfl rfl))) ?_
   refine wpi_exG (v := .string ⟨x.2.toArray⟩) (fun _ => trivial) (wn rfl) rfl (ex_move rfl rfl) ?_
   refine sl_rowOne (v := .string ⟨x.2.toArray⟩) (fun _ => trivial) (wn rfl) rfl rfl hv i5el22 rfl (fun b33 w34 hv => ?_)
   simp only [Act.put, List.setIfInBounds_toArray, List.set_cons_succ, List.set_cons_zero]
   replace hv := hv.front 1 rfl
   simp only [List.eraseIdx_cons_succ, List.eraseIdx_cons_zero] at hv
   refine sl_append (news := [.string ⟨x.2.toArray⟩]) (fun _ => trivial) (wn rfl) rfl rfl rfl i5el22 hv (ok_full (by omega)) rfl (rd_all (hv.get 1 rfl)) (by intro u hu; simp only [List.mem_cons, List.not_mem_nil, or_false] at hu; rcases hu with rfl <;> rfl) (by unfold maxLen; omega) (by omega) (fun rv35 w38 hv => ?_)
   obtain ⟨ra36, rc37, rfl⟩ := row_slice hv.head
   refine sl_storeAt 2 (v := .slice ra36 (pre.length + 1) rc37) (L' := [.slice ra36 (pre.length + 1) rc37]) (fun _ => trivial) (wn rfl) rfl rfl rfl hv rfl s1sz22 (by simp) rfl rfl rfl (fun w39 hv => ?_)
   simp only [List.set_cons_succ, List.set_cons_zero] at hv
   refine wpListIn_nil ?_
   simp only [Act.put, List.setIfInBounds_toArray, List.set_cons_succ, List.set_cons_zero]
   refine blk_normal ?_
   have hv9 := (((hv.front 2 rfl).front 1 rfl).sub (List.Sublist.cons_cons _ (List.Sublist.cons_cons _ (List.Sublist.cons _ (List.Sublist.refl _)))))
   rw [hTU] at hv9
   refine ⟨by trivial, _, ⟨ra36, rc37, rfl⟩, ?_⟩
   rw [List.length_append, List.length_singleton, List.map_append, show textCells (pre.map (·.2) ++ [x].map (·.2)) = textCells (pre.map (·.2)) ++ [strV x.2] by simp [textCells]]
   exact hv9
  case done =>
   rintro d40 xs _ w41 hS ⟨va, vc, rfl⟩ hv
   have hxl : xs.length = ss.length := by have := congrArg List.length hS; simpa using this
   rw [hTT, hS, hxl] at hv
   refine blk_normal ?_
   refine then_normal (hK29 _ _ ?_)
   clear hK29 K29
   refine wpIn_seq_k (fun K42 hK42 => ?_)
   refine wpIn_region_lit ?_
   refine wpi_exG (v := .slice va ss.length vc) (fun _ => trivial) (wn rfl) rfl (ex_load rfl rfl (run_load1 s1na22 (hv.load 2 0 rfl rfl))) ?_
   refine wpi_exG (v := .slice la l.length lc) (fun _ => trivial) (wn rfl) rfl (ex_move rfl rfl) ?_
   replace hv := hv.front 1 rfl
   simp only [List.eraseIdx_cons_succ, List.eraseIdx_cons_zero] at hv
   refine sl_append (news := textCells l) (fun _ => trivial) (wn rfl) rfl rfl rfl i5el22 hv hokl (by rw [textCells_len]) ((hrl.rdW []).src (fun r9 hr9 => absurd hr9 List.not_mem_nil) hv) (textCells_one _) (by unfold maxLen; omega) (by omega) (fun rv43 w46 hv => ?_)
   obtain ⟨ra44, rc45, rfl⟩ := row_slice hv.head
   simp only [Act.put, List.setIfInBounds_toArray, List.set_cons_succ, List.set_cons_zero]
   refine wpi_exG (v := .slice ra44 (ss.length + l.length) rc45) (fun _ => trivial) (wn rfl) rfl (ex_assign rfl rfl) ?_
   refine wpi_exG (v := .int .i64 0) (fun _ => trivial) (wn rfl) rfl (ex_assign rfl rfl) ?_
   refine wpListIn_nil ?_
   simp only [Act.put, List.setIfInBounds_toArray, List.set_cons_succ, List.set_cons_zero]
   refine then_normal (hK42 _ _ ?_)
   clear hK42 K42
   refine wpIn_ret ?_
   replace hv := hv.front 1 rfl
   simp only [List.eraseIdx_cons_succ, List.eraseIdx_cons_zero] at hv
   refine sl_end1 hv (fun w47 hv => ⟨_, results_tmp2 rfl _ _ _, ?_⟩)
   have hln : (ss.reverse ++ l).length = ss.length + l.length := by simp only [List.length_append, List.length_reverse] <;> omega
   have h9 := (hv.sub (List.Sublist.cons_cons _ (List.Sublist.cons _ (List.Sublist.refl _))))
   rw [show (textCells ss.reverse) ++ (textCells l) = textCells (ss.reverse ++ l) by simp [textCells]] at h9
   obtain ⟨D, hD, hv, hro, hoko, -⟩ := h9.rowBy
   exact ⟨D, _, _, ss.reverse ++ l, 0, hD, by show Ending.returned (Value.tuple #[.slice ra44 (ss.length + l.length) rc45, Value.int .i64 0]) = _; rw [hln], by rw [hln]; exact hoko, hro, .inr ⟨rfl, fun s hs => by have h9 := List.any_eq_false.1 hany s hs; simp only [decide_eq_true_eq] at h9; omega, by omega, by simp_all⟩, hv⟩
 refine wpListIn_nil ?_
 simp only [Act.put, List.setIfInBounds_toArray, List.set_cons_succ, List.set_cons_zero]
 refine then_normal (hK3 _ _ ?_)
 clear hK3 K3
 refine wpIn_cond_true rfl ?_
 refine wpIn_seq_k (fun K48 hK48 => ?_)
 refine wpIn_region_lit ?_
 refine wpi_exG (v := .slice none 0 0) (fun _ => trivial) (wn rfl) rfl (ex_assign rfl rfl) ?_
 refine wpi_exG (v := .int .i64 12) (fun _ => trivial) (wn rfl) rfl (ex_assign rfl rfl) ?_
 refine wpListIn_nil ?_
 simp only [Act.put, List.setIfInBounds_toArray, List.set_cons_succ, List.set_cons_zero]
 refine then_normal (hK48 _ _ ?_)
 clear hK48 K48
 refine wpIn_ret ?_
 refine then_ret ?_
 clear hK2 K2
 refine sl_end0 (results_tmp2 rfl _ _ _) ?_
 obtain ⟨s9, hs9, hs8⟩ := List.any_eq_true.1 hany
 exact ⟨B, none, 0, [], 12, Base.Le.refl _, rfl, ⟨Nat.le_refl _, Nat.zero_le _, fun _ => rfl⟩, rdV_nil, .inl ⟨by decide, rfl, .inl ⟨s9, hs9, by simp only [decide_eq_true_eq] at hs8; omega⟩⟩, hv⟩
end Go.Proofs.YtmhdpjifhfoabaaGreatDoor
namespace Go.Pm
open Go.RowKit
def DW2 (P : Program) (ops : Array Oper) (mem : List Nat) (R : Act → World → Prop) (l1 l2 : List (Nat × Oper)) : List (Nat × Oper) → List (Nat × (World → Prop)) → (World → Prop) → Act → Prop
 | [], Fl, J, a => DW P ops mem R l1 Fl J a ∧ DW P ops mem R l2 Fl J a
 | x :: is, Fl, J, a =>
  (Region.wanted x.2 (yielded ops a.tmps) = false ∧ DW2 P ops mem R l1 l2 is Fl J (a.put x.2.dst undef)) ∨ (Region.wanted x.2 (yielded ops a.tmps) = true ∧
  ∃ v, ((∀ w, Adds P x.2 a w v) ∧ DW2 P ops mem R l1 l2 is Fl J (a.put x.2.dst v)) ∨ ∃ f : World → Prop, (∀ w, f w → Adds P x.2 a w v) ∧ (∀ w, J w → f w) ∧ DW2 P ops mem R l1 l2 is ((x.1, f) :: Fl) J (a.put x.2.dst v))
structure Rd (ops : Array Oper) (listed : Array Bool) (i : Nat) (o : Oper) : Prop where
 ho : ops[i]? = some o
 lt : i < ops.size
 lf : listed.getD i false = false
 prT : ∀ j, ahead ops j i = true → listed.getD j false = true
 not_ : ∀ q, ahead ops i q = true → listed.getD q false = false
 ct : toCome ops (listed.setIfInBounds i true) < toCome ops listed
 ls : ∀ q, (listed.setIfInBounds i true).getD q false = true ↔ q = i ∨ listed.getD q false = true
 closed : ∀ (j : Nat) (oj : Oper), ops[j]? = some oj → (listed.setIfInBounds i true).getD j false = true → ∀ k, binder oj k = true → (listed.setIfInBounds i true).getD k false = true
theorem rd_of {ops : Array Oper} {listed : Array Bool} {i : Nat} (hs : listed.size = ops.size) (hcl : ∀ (j : Nat) (o : Oper), ops[j]? = some o → listed.getD j false = true → ∀ k, binder o k = true → listed.getD k false = true) (hi : i ∈ Region.ready .any ops listed) : ∃ o, Rd ops listed i o := by
 obtain ⟨o, ho, hi2, hl, hpr⟩ := mem_ready hi
 have hlf : listed.getD i false = false := by
  simp only [Array.getD_eq_getD_getElem?] at hl ⊢
  rw [Array.getElem?_eq_getElem (by rw [hs]; exact hi2)] at hl ⊢
  simpa using hl
 have hls : ∀ q, (listed.setIfInBounds i true).getD q false = true ↔ q = i ∨ listed.getD q false = true := by
  intro q
  constructor
  ·exact getD_false_set
  rintro (rfl | h)
  ·simp only [Array.getD_eq_getD_getElem?]
   rw [Array.getElem?_setIfInBounds_self_of_lt (by rw [hs]; exact hi2)]
   rfl
  exact getD_set_true h
 refine ⟨o, ho, hi2, hlf, fun j hj => ?_, fun q hq => ?_, by have := toCome_set hi2 hl; omega, hls, fun j oj hj hlj k hk => ?_⟩
 ·cases ahead_reach hj with
  | one h hb => rw [ho] at h; cases h; exact hpr _ hb
  | step h hb hr => rw [ho] at h; cases h; exact hr.listed hcl (hpr _ hb)
 ·cases hlq : listed.getD q false with
  | false => rfl
  | true => rw [(ahead_reach hq).listed hcl hlq] at hlf; cases hlf
 rcases (hls j).1 hlj with e | e
 ·subst e; rw [ho] at hj; cases hj
  exact (hls k).2 (.inr (hpr k hk))
 exact (hls k).2 (.inr (hcl j oj hj e k hk))
section
variable {P : Program} {ops : Array Oper} {mem perm pre is : List Nat} {R : Act → World → Prop} {Q : Exit → Act → World → Prop} {a0 a aS : Act} {listed : Array Bool} {w w' : World} {val : Nat → Value} {Fl : List (Nat × (World → Prop))} {J : World → Prop} {i : Nat} {o : Oper} {K : Act → World → Prop}
theorem Rd.lf2 (r : Rd ops listed i o) (q : Nat) (hq : (listed.setIfInBounds i true).getD q false = false) : q ≠ i ∧ listed.getD q false = false := by
 refine ⟨fun e => ?_, ?_⟩
 ·rw [(r.ls q).2 (.inl e)] at hq; cases hq
 cases h : listed.getD q false with
 | false => rfl
 | true => rw [(r.ls q).2 (.inr h)] at hq; cases hq
theorem DI.agr (hsel : ∀ (j : Nat) (o : Oper), ops[j]? = some o → notSel o = true) (hlook : ∀ (i : Nat) (o : Oper), ops[i]? = some o → ∀ t ∈ o.looksAt ops, ∀ (q : Nat) (o' : Oper), ops[q]? = some o' → o'.dst = some t → q = i ∨ ahead ops q i = true ∨ ahead ops i q = true)
  (I : DI P ops mem R a0 perm listed a w pre is val Fl J aS) (r : Rd ops listed i o) (ai : Act) (L : Nat → Prop) (hT : Tk ops L val a0 ai) (h1 : ∀ q, ahead ops q i = true → L q) (h2 : ∀ q, L q → q ≠ i ∧ ahead ops i q = false) :
  execOp ai.eval o = execOp a.eval o ∧ Region.wanted o (yielded ops ai.tmps) = Region.wanted o (yielded ops a.tmps) := by
 refine same_of (by rw [hT.size, I.tk.size]) (hsel i o r.ho) fun t ht => hT.agree I.tk t fun q o' hq hd => ?_
 rcases hlook i o r.ho t ht q o' hq hd with h | h | h
 ·subst h
  exact ⟨fun h => ((h2 _ h).1 rfl).elim, fun h => by rw [r.lf] at h; cases h⟩
 ·exact ⟨fun _ => r.prT q h, fun _ => h1 q h⟩
 exact ⟨fun h3 => (by rw [(h2 q h3).2] at h; cases h), fun h3 => by rw [r.not_ q h] at h3; cases h3⟩
theorem DI.fired (hnd : onceDst ops = true) (hfit : ∀ (j : Nat) (o : Oper) (d : Tmp), ops[j]? = some o → o.dst = some d → d < a0.tmps.size) (I : DI P ops mem R a0 perm listed a w pre is val Fl J aS) (r : Rd ops listed i o) (hip : i ∈ pre) (hx : Ext w w') :
  DI P ops mem R a0 perm (listed.setIfInBounds i true) (a.put o.dst (val i)) w' pre is val Fl J aS := by
 refine ⟨by simpa using I.lsize, r.closed, (Tk.put hnd hfit I.tk r.ho (by rw [r.lf]; decide) rfl).iff (fun q => (r.ls q).symm) (fun _ _ => rfl), I.perm, I.tkS, I.dw, I.st, I.st _ _ I.inv hx, fun f hf hq => I.fl f hf (r.lf2 _ hq).2, fun q hq => ?_, fun q hq h => (r.ls q).2 (.inr (I.memd q hq h)), fun q hq h => I.pend q hq (r.lf2 q h).2⟩
 rcases (r.ls q).1 hq with h | h
 ·subst h; exact hip
 exact I.sub q h
theorem DI.fire (hsel : ∀ (j : Nat) (o : Oper), ops[j]? = some o → notSel o = true) (hlook : ∀ (i : Nat) (o : Oper), ops[i]? = some o → ∀ t ∈ o.looksAt ops, ∀ (q : Nat) (o' : Oper), ops[q]? = some o' → o'.dst = some t → q = i ∨ ahead ops q i = true ∨ ahead ops i q = true)
  (I : DI P ops mem R a0 perm listed a w pre is val Fl J aS) (r : Rd ops listed i o) (hip : i ∈ pre) (hK : ∀ w', Ext w w' → K (a.put o.dst (val i)) w') : wpOp P ops Q i K a w := by
 obtain ⟨o', ai, L, h1, h2, h3, h4, h5, h6⟩ := I.pend i hip r.lf
 rw [r.ho] at h1; cases h1
 obtain ⟨he, hw⟩ := I.agr hsel hlook r ai L h2 h3 h4
 unfold wpOp
 rw [r.ho]
 simp only []
 rcases h6 with ⟨h6, h7⟩ | ⟨h6, h7⟩
 ·rw [← hw, h6]
  simp only [Bool.false_eq_true, if_false]
  have := hK w (Ext.rfl' _)
  rw [h7] at this
  exact this
 rw [← hw, h6]
 simp only [if_true]
 have hA : Adds P o ai w (val i) := by
  rcases h7 with h7 | ⟨h7, -⟩ | ⟨f, h7, h8⟩
  ·exact h7 w
  ·exact h7 w I.inv
  exact h8 w (I.fl _ h7 r.lf w I.inv)
 refine .inl (Oper.wp_mono (fun a' w' ⟨v, ha, hv, hx⟩ => ?_) (wp_move he (by rw [h2.size, I.tk.size]) hA))
 rw [ha, hv]
 exact hK w' hx
theorem DI.step (hnd : onceDst ops = true) (hfit : ∀ (j : Nat) (o : Oper) (d : Tmp), ops[j]? = some o → o.dst = some d → d < a0.tmps.size) (hsel : ∀ (j : Nat) (o : Oper), ops[j]? = some o → notSel o = true) (hlook : ∀ (i : Nat) (o : Oper), ops[i]? = some o → ∀ t ∈ o.looksAt ops, ∀ (q : Nat) (o' : Oper), ops[q]? = some o' → o'.dst = some t → q = i ∨ ahead ops q i = true ∨ ahead ops i q = true)
  (hnp : perm.Nodup) (hpo : pwOk ops [] perm = true) (I : DI P ops mem R a0 perm listed a w pre (i :: is) val Fl J aS) (hm : i ∈ mem) (r : Rd ops listed i o)
  (hK : ∀ a' w' val' J' aS', DI P ops mem R a0 perm (listed.setIfInBounds i true) a' w' (pre ++ [i]) is val' Fl J' aS' → K a' w') : wpOp P ops Q i K a w := by
 have hnp2 : (pre ++ i :: is).Nodup := I.perm ▸ hnp
 have hpw2 : pwOk ops [] (pre ++ i :: is) = true := I.perm ▸ hpo
 have hmp2 : i ∉ pre := fun h => by
  rw [List.nodup_append] at hnp2
  exact hnp2.2.2 i h i (by simp) rfl
 have hpb : ∀ q, q ∈ pre → q ≠ i ∧ ahead ops i q = false := by
  intro q hq
  refine ⟨fun e => hmp2 (e ▸ hq), ?_⟩
  obtain ⟨p1, p2, rfl⟩ := List.append_of_mem hq
  rw [List.append_assoc, List.cons_append] at hpw2
  exact (pwOk_at hpw2 i (by simp)).1
 obtain ⟨he, hw⟩ := I.agr hsel hlook r aS (· ∈ pre) I.tkS (fun q hq => I.sub q (r.prT q hq)) hpb
 have hdw := I.dw
 simp only [pm, List.map_cons, DWE] at hdw
 rw [if_pos (by simpa using hm)] at hdw
 have hoo : ops.getD i default = o := by simp [Array.getD_eq_getD_getElem?, r.ho]
 rw [hoo] at hdw
 unfold wpOp
 rw [r.ho]
 simp only []
 suffices nx : ∀ v J' w', (∀ w w', J' w → Ext w w' → J' w') → J' w' → (∀ f ∈ Fl, ahead ops f.1 i = false → ∀ w, listed.getD f.1 false = false → J' w → f.2 w) → DW P ops mem R (pm ops is) Fl J' (aS.put o.dst v) → K (a.put o.dst v) w' by
  rcases hdw with ⟨h1, h2⟩ | ⟨h1, h2⟩
  ·rw [← hw, h1]
   simp only [Bool.false_eq_true, if_false]
   exact nx undef J w I.st I.inv (fun f hf _ w hl hJ => I.fl f hf hl w hJ) h2
  rw [← hw, h1]
  simp only [if_true]
  refine .inl (Oper.wp_mono (fun a' w' ⟨v, ha, J', hst, hJ', hfl, hdw'⟩ => ?_) (wp_move he (by rw [I.tkS.size, I.tk.size]) (h2 w I.inv)))
  rw [ha]
  exact nx v J' w' hst hJ' (fun f hf ha w _ => hfl.at f hf ha w) hdw'
 intro v J' w' hst hJ' hfl hdw'
 have hval : ∀ q, q ∈ pre → val q = if q = i then v else val q := fun q hq => by rw [if_neg (hpb q hq).1]
 refine hK _ _ (fun q => if q = i then v else val q) J' (aS.put o.dst v) ⟨by simpa using I.lsize, r.closed, ?_, by rw [I.perm]; simp, ?_, hdw', hst, hJ', ?_, ?_, ?_, ?_⟩
 ·exact (Tk.put hnd hfit (I.tk.iff (fun _ => Iff.rfl) fun q hq => hval q (I.sub q hq)) r.ho (by rw [r.lf]; decide) (if_pos rfl)).iff (fun q => (r.ls q).symm) (fun _ _ => rfl)
 ·refine (Tk.put hnd hfit (I.tkS.iff (fun _ => Iff.rfl) hval) r.ho hmp2 (if_pos rfl)).iff (fun q => ?_) (fun _ _ => rfl)
  simp [or_comm]
 ·intro f hf hq
  refine fun w => hfl f hf ?_ w (r.lf2 _ hq).2
  cases ha : ahead ops f.1 i with
  | false => rfl
  | true => have h9 := (r.lf2 _ hq).2; rw [r.prT _ ha] at h9; cases h9
 ·intro q hq
  rcases (r.ls q).1 hq with h | h
  ·subst h; simp
  simp [I.sub q h]
 ·intro q hq hqp
  rcases List.mem_append.1 hqp with h | h
  ·exact (r.ls q).2 (.inr (I.memd q hq h))
  exact (r.ls q).2 (.inl (List.mem_singleton.1 h))
 intro q hq hlq
 obtain ⟨hqi, hlq⟩ := r.lf2 q hlq
 have hqp : q ∈ pre := by
  rcases List.mem_append.1 hq with h | h
  ·exact h
  exact (hqi (List.mem_singleton.1 h)).elim
 obtain ⟨o2, ai, L, h1, h2, h3, h4, h5, h6⟩ := I.pend q hqp hlq
 have hqv := hval q hqp
 refine ⟨o2, ai, L, h1, h2.iff (fun _ => Iff.rfl) (fun r hr => hval r (h5 r hr)), h3, h4, fun r hr => by simp [h5 r hr], ?_⟩
 simp only [← hqv]
 rcases h6 with h6 | ⟨h6, h7⟩
 ·exact .inl h6
 refine .inr ⟨h6, ?_⟩
 rcases h7 with h7 | ⟨h7, h8⟩ | ⟨f, h7, h8⟩
 ·exact .inl h7
 ·exfalso
  simp only [pm, List.map_cons, tied] at h8
  rw [show mem.contains i = true by simpa using hm] at h8
  rw [r.prT q h8] at hlq; cases hlq
 exact .inr (.inr ⟨f, h7, h8⟩)
end
structure Pre2 (P : Program) (ops : Array Oper) (a0 : Act) (pre : List Nat) (val : Nat → Value) (Fl : List (Nat × (World → Prop))) (J : World → Prop) (aS : Act) : Prop where
 tkS : Tk ops (· ∈ pre) val a0 aS
 fl : ∀ f ∈ Fl, ∀ w, J w → f.2 w
 pend : ∀ i, i ∈ pre → ∃ (o : Oper) (ai : Act) (L : Nat → Prop), ops[i]? = some o ∧ Tk ops L val a0 ai ∧ (∀ q, ahead ops q i = true → L q) ∧ (∀ q, L q → q ≠ i ∧ ahead ops i q = false) ∧ (∀ q, L q → q ∈ pre) ∧
  ((Region.wanted o (yielded ops ai.tmps) = false ∧ val i = undef) ∨ (Region.wanted o (yielded ops ai.tmps) = true ∧ ((∀ w, Adds P o ai w (val i)) ∨ ∃ f : World → Prop, (i, f) ∈ Fl ∧ ∀ w, f w → Adds P o ai w (val i))))
theorem walk2 {P : Program} {ops : Array Oper} {mem perm r0 : List Nat} {R : Act → World → Prop} {a0 : Act} {J : World → Prop} {l1 l2 : List (Nat × Oper)} (hnd : onceDst ops = true) (hfit : ∀ (j : Nat) (o : Oper) (d : Tmp), ops[j]? = some o → o.dst = some d → d < a0.tmps.size) (hno : ∀ i, ahead ops i i = false)
  (hnp : perm.Nodup) (hlt : ∀ i ∈ perm, i < ops.size) (hpo : pwOk ops [] perm = true) (hpre : ∀ i q, i ∈ perm → ahead ops q i = true → q ∈ perm) :
  ∀ (is pre : List Nat) (val : Nat → Value) (Fl : List (Nat × (World → Prop))) (aS : Act), perm = pre ++ (is ++ r0) → Pre2 P ops a0 pre val Fl J aS → DW2 P ops mem R l1 l2 (pm ops is) Fl J aS →
  ∃ val' Fl' aS', Pre2 P ops a0 (pre ++ is) val' Fl' J aS' ∧ DW P ops mem R l1 Fl' J aS' ∧ DW P ops mem R l2 Fl' J aS' := by
 intro is
 induction is with
 | nil => intro pre val Fl aS hp I h; exact ⟨val, Fl, aS, by rw [List.append_nil]; exact I, h.1, h.2⟩
 | cons i is ih =>
  intro pre val Fl aS hp I hdw
  have hip : i ∈ perm := by rw [hp]; simp
  have hi := hlt i hip
  have hp' : perm = pre ++ i :: (is ++ r0) := hp
  have hnd2 : (pre ++ i :: (is ++ r0)).Nodup := hp' ▸ hnp
  have hpo2 : pwOk ops [] (pre ++ i :: (is ++ r0)) = true := hp' ▸ hpo
  have hipre : i ∉ pre := fun h => by
   rw [List.nodup_append] at hnd2
   exact hnd2.2.2 i h i (by simp) rfl
  have hio : ops[i]? = some (ops.getD i default) := by simp [Array.getD, hi]
  have hpa : ∀ q, ahead ops q i = true → q ∈ pre := by
   intro q hq
   have hqp := hpre i q hip hq
   rw [hp'] at hqp
   rcases List.mem_append.1 hqp with h | h
   ·exact h
   rcases List.mem_cons.1 h with h | h
   ·subst h; rw [hno] at hq; cases hq
   have := (pwOk_at hpo2 q h).1
   rw [this] at hq; cases hq
  have hpb : ∀ q, q ∈ pre → q ≠ i ∧ ahead ops i q = false := by
   intro q hq
   refine ⟨fun e => hipre (e ▸ hq), ?_⟩
   obtain ⟨p1, p2, rfl⟩ := List.append_of_mem hq
   have h2 := hpo2
   rw [List.append_assoc, List.cons_append] at h2
   exact (pwOk_at h2 i (by simp)).1
  have next : ∀ v Fl', (∀ f ∈ Fl, f ∈ Fl') → (∀ f ∈ Fl', f ∈ Fl ∨ ∀ w, J w → f.2 w) → DW2 P ops mem R l1 l2 (pm ops is) Fl' J (aS.put (ops.getD i default).dst v) →
    ((Region.wanted (ops.getD i default) (yielded ops aS.tmps) = false ∧ v = undef) ∨ (Region.wanted (ops.getD i default) (yielded ops aS.tmps) = true ∧
     ((∀ w, Adds P (ops.getD i default) aS w v) ∨ ∃ f : World → Prop, (i, f) ∈ Fl' ∧ ∀ w, f w → Adds P (ops.getD i default) aS w v))) →
    ∃ val' Fl' aS', Pre2 P ops a0 (pre ++ i :: is) val' Fl' J aS' ∧ DW P ops mem R l1 Fl' J aS' ∧ DW P ops mem R l2 Fl' J aS' := by
   intro v Fl' hF1 hF2 hdw hob
   have hval : ∀ q, q ∈ pre → val q = if q = i then v else val q := fun q hq => by rw [if_neg (hpb q hq).1]
   have hg := ih (pre ++ [i]) (fun q => if q = i then v else val q) Fl' _ (by rw [hp]; simp) ⟨?_, ?_, ?_⟩ hdw
   ·rw [List.append_assoc] at hg; exact hg
   ·refine (Tk.put hnd hfit (I.tkS.iff (fun _ => Iff.rfl) hval) hio hipre (if_pos rfl)).iff (fun q => ?_) (fun _ _ => rfl)
    simp [or_comm]
   ·intro f hf
    rcases hF2 f hf with h | h
    ·exact I.fl f h
    exact h
   intro q hq
   rcases List.mem_append.1 hq with h | h
   ·obtain ⟨o, ai, L, h1, h2, h3, h4, h5, h6⟩ := I.pend q h
    have hqv := hval q h
    refine ⟨o, ai, L, h1, h2.iff (fun _ => Iff.rfl) (fun r hr => hval r (h5 r hr)), h3, h4, fun r hr => by simp [h5 r hr], ?_⟩
    simp only [← hqv]
    rcases h6 with h6 | ⟨h6, h7⟩
    ·exact .inl h6
    refine .inr ⟨h6, ?_⟩
    rcases h7 with h7 | ⟨f, h7, h8⟩
    ·exact .inl h7
    exact .inr ⟨f, hF1 _ h7, h8⟩
   have := List.mem_singleton.1 h
   subst this
   refine ⟨_, aS, (· ∈ pre), hio, I.tkS.iff (fun _ => Iff.rfl) hval, hpa, hpb, fun r hr => by simp [hr], ?_⟩
   simpa using hob
  simp only [pm, List.map_cons, DW2] at hdw
  rcases hdw with ⟨h1, h2⟩ | ⟨h1, v, ⟨h2, h3⟩ | ⟨f, h2, h3, h4⟩⟩
  ·exact next undef Fl (fun _ h => h) (fun _ h => .inl h) h2 (.inl ⟨h1, rfl⟩)
  ·exact next v Fl (fun _ h => h) (fun _ h => .inl h) h3 (.inr ⟨h1, .inl h2⟩)
  refine next v ((i, f) :: Fl) (fun _ h => List.mem_cons_of_mem _ h) (fun g hg => ?_) h4 (.inr ⟨h1, .inr ⟨f, by simp, h2⟩⟩)
  rcases List.mem_cons.1 hg with rfl | hg
  ·exact .inr h3
  exact .inl hg
def okT (ops : Array Oper) (mem pre r1 r2 : List Nat) (x y k : Nat) : Bool :=
 backward ops && (onceDst ops && (fitsDst ops k && (ops.all notSel && (lookOk ops && (pre.all (fun i => !mem.contains i) && (mem.contains x && (mem.contains y && (r1.all (fun i => i == y || ahead ops x i) &&
 (pwOk ops mem r1 && (pwOk ops mem r2 && (decide (pre ++ (x :: r1)).Nodup && (decide (pre ++ (y :: r2)).Nodup && (decide ((pre ++ (x :: r1)).length = ops.size) && (decide ((pre ++ (y :: r2)).length = ops.size) &&
 ((pre ++ (x :: r1)).all (· < ops.size) && ((pre ++ (y :: r2)).all (· < ops.size) && (pwOk ops [] (pre ++ (x :: r1)) && pwOk ops [] (pre ++ (y :: r2)))))))))))))))))))
theorem all_in {n : Nat} {perm : List Nat} (hnp : perm.Nodup) (hpl : perm.length = n) (hlt : ∀ i ∈ perm, i < n) (i : Nat) : i ∈ perm ↔ i < n := ⟨hlt i, fun hi => by
 have hsub : perm ⊆ List.range n := fun x hx => List.mem_range.2 (hlt x hx)
 exact Classical.byContradiction fun hni => by
  have h1 : (i :: perm).Nodup := List.nodup_cons.2 ⟨hni, hnp⟩
  have h2 : (i :: perm).length ≤ (List.range n).length := List.Nodup.length_le_of_subset h1 (fun x hx => by
   rcases List.mem_cons.1 hx with rfl | hx
   ·exact List.mem_range.2 hi
   exact hsub hx)
  simp at h2
  omega⟩
section
variable {n : Nat} {P : Program} {ops : Array Oper} {Q : Exit → Act → World → Prop} {a0 : Act} {w0 : World} {B : Base} {H : List Res}
theorem any_t {J : World → Prop} (mem pre r1 r2 : List Nat) (x y k : Nat) (hsize : a0.tmps.size = k) (hck : okT ops mem pre r1 r2 x y k = true) (hst : ∀ w w', J w → Ext w w' → J w') (hv : J w0)
    (h : DW2 P ops mem (Q .normal) (pm ops (x :: r1)) (pm ops (y :: r2)) (pm ops pre) [] J a0) : wpAny P .any ops Q ops.size (Array.replicate ops.size false) a0 { w0 with drawn := w0.drawn + 1 } := by
  unfold okT at hck
  simp only [Bool.and_eq_true] at hck
  obtain ⟨hbk, hnd, hft, hns, hlk, hpm, hx, hy, hxr, hm1, hm2, hn1, hn2, hl1, hl2, ht1, ht2, ho1, ho2⟩ := hck
  have hn1 := of_decide_eq_true hn1
  have hn2 := of_decide_eq_true hn2
  have hl1 := of_decide_eq_true hl1
  have hl2 := of_decide_eq_true hl2
  have hx : x ∈ mem := by simpa using hx
  have hy : y ∈ mem := by simpa using hy
  have hlt1 : ∀ i ∈ pre ++ (x :: r1), i < ops.size := fun i hi => by simpa using List.all_eq_true.1 ht1 i hi
  have hlt2 : ∀ i ∈ pre ++ (y :: r2), i < ops.size := fun i hi => by simpa using List.all_eq_true.1 ht2 i hi
  have ha1 := all_in hn1 hl1 hlt1
  have ha2 := all_in hn2 hl2 hlt2
  have hfit : ∀ (j : Nat) (o : Oper) (d : Tmp), ops[j]? = some o → o.dst = some d → d < a0.tmps.size := by
    intro j o d hj hd
    have := List.all_eq_true.1 hft o (by rw [List.mem_iff_getElem?]; exact ⟨j, by simpa using hj⟩)
    rw [hd] at this
    rw [hsize]
    simpa using this
  have hsel : ∀ (j : Nat) (o : Oper), ops[j]? = some o → notSel o = true := fun j o hj => by
    obtain ⟨hj2, rfl⟩ := Array.getElem?_eq_some_iff.1 hj
    exact (Array.all_eq_true.1 hns) j hj2
  have hlook : ∀ (i : Nat) (o : Oper), ops[i]? = some o → ∀ t ∈ o.looksAt ops, ∀ (q : Nat) (o' : Oper), ops[q]? = some o' → o'.dst = some t → q = i ∨ ahead ops q i = true ∨ ahead ops i q = true := fun i o hi t ht q o' hq hd => by
    have h1 := List.all_eq_true.1 hlk (o, i) (by rw [List.mem_iff_getElem?]; exact ⟨i, by simp [hi]⟩)
    have h2 := List.all_eq_true.1 h1 t ht
    have h3 := List.all_eq_true.1 h2 (o', q) (by rw [List.mem_iff_getElem?]; exact ⟨q, by simp [hq]⟩)
    simpa [hd] using h3
  have hno : ∀ i, ahead ops i i = false := fun i => by
    cases h : ahead ops i i with
    | false => rfl
    | true => have := ahead_lt hbk h; omega
  have hpre1 : ∀ i q, i ∈ pre ++ (x :: r1) → ahead ops q i = true → q ∈ pre ++ (x :: r1) := fun i q hi hq => (ha1 q).2 (Nat.lt_trans (ahead_lt hbk hq) (hlt1 i hi))
  obtain ⟨val, Fl, aS, I0, hd1, hd2⟩ := walk2 (r0 := x :: r1) hnd hfit hno hn1 hlt1 ho1 hpre1 pre [] (fun _ => undef) [] a0 rfl ⟨(Tk.start (val := fun _ => undef)).iff (fun q => by simp) (fun _ _ => rfl), fun f hf => (by cases hf), fun i hi => (by cases hi)⟩ h
  rw [List.nil_append] at I0
  have hxp : x ∉ pre := fun h => by
    rw [List.nodup_append] at hn1
    exact hn1.2.2 x h x (by simp) rfl
  have two : ∀ (fuel : Nat) (listed : Array Bool) (a : Act) (w : World), toCome ops listed ≤ fuel → DI P ops mem (Q .normal) a0 (pre ++ (x :: r1)) listed a w pre (x :: r1) val Fl J aS → DI P ops mem (Q .normal) a0 (pre ++ (y :: r2)) listed a w pre (y :: r2) val Fl J aS → wpAny P .any ops Q fuel listed a w := by
    have emp : ∀ (listed : Array Bool) (a : Act) (w : World), DI P ops mem (Q .normal) a0 (pre ++ (x :: r1)) listed a w pre (x :: r1) val Fl J aS → Region.ready .any ops listed = [] → False := fun listed a w I hr =>
      hxp (I.sub x (all_listed hbk I.lsize hr x ((ha1 x).1 (by simp))))
    intro fuel
    induction fuel with
    | zero =>
      intro listed a w hc I _
      have hr : Region.ready .any ops listed = [] := by
        rw [List.eq_nil_iff_forall_not_mem]
        intro i hi
        obtain ⟨o, _, hi2, hl, _⟩ := mem_ready hi
        have := toCome_set hi2 hl
        omega
      exact (emp _ _ _ I hr).elim
    | succ fuel ih =>
      intro listed a w hc I1 I2
      refine ⟨fun hr => (emp _ _ _ I1 hr).elim, fun i hi => ?_⟩
      obtain ⟨o, r⟩ := rd_of I1.lsize I1.closed hi
      have hct : toCome ops (listed.setIfInBounds i true) ≤ fuel := by have := r.ct; omega
      by_cases hip : i ∈ pre
      · exact I1.fire hsel hlook r hip fun w' hx => ih _ _ _ hct (I1.fired hnd hfit r hip hx) (I2.fired hnd hfit r hip hx)
      by_cases hix : i = x
      · subst hix
        exact I1.step hnd hfit hsel hlook hn1 ho1 hx r fun a' w' val' J' aS' I' => any_walk (R := Q .normal) hbk hnd hfit hsel hlook hno hn1 ha1 ho1 (fun _ _ h => h) _ _ _ _ _ _ _ _ _ _ hct I' hm1
      by_cases hiy : i = y
      · subst hiy
        exact I2.step hnd hfit hsel hlook hn2 ho2 hy r fun a' w' val' J' aS' I' => any_walk (R := Q .normal) hbk hnd hfit hsel hlook hno hn2 ha2 ho2 (fun _ _ h => h) _ _ _ _ _ _ _ _ _ _ hct I' hm2
      have hin := (ha1 i).2 r.lt
      simp only [List.mem_append, List.mem_cons] at hin
      rcases hin with h | h | h
      · exact (hip h).elim
      · exact (hix h).elim
      have h9 := List.all_eq_true.1 hxr i h
      rw [Bool.or_eq_true] at h9
      rcases h9 with h9 | h9
      · exact (hiy (by simpa using h9)).elim
      exact (hxp (I1.sub x (r.prT x h9))).elim
  have hnl : ∀ j, (Array.replicate ops.size false).getD j false = true → False := by
    intro j hl
    simp only [Array.getD_eq_getD_getElem?] at hl
    by_cases h : j < ops.size <;> simp [h] at hl
  have mk : ∀ (is : List Nat), DW P ops mem (Q .normal) (pm ops is) Fl J aS → DI P ops mem (Q .normal) a0 (pre ++ is) (Array.replicate ops.size false) a0 { w0 with drawn := w0.drawn + 1 } pre is val Fl J aS := fun is hd =>
    ⟨by simp, fun j o hj hl => (hnl j hl).elim, (Tk.start (val := val)).iff (fun q => ⟨False.elim, hnl q⟩) (fun _ _ => rfl), rfl, I0.tkS, hd, hst, hst _ _ hv (Ext.drew' w0), fun f hf _ => I0.fl f hf, fun q hq => (hnl q hq).elim,
     fun q hq hp => by have := List.all_eq_true.1 hpm q hp; simp [hq] at this, fun i hi _ => by
      obtain ⟨o, ai, L, h1, h2, h3, h4, h5, h6⟩ := I0.pend i hi
      refine ⟨o, ai, L, h1, h2, h3, h4, h5, ?_⟩
      rcases h6 with h6 | ⟨h6, h7 | h7⟩
      · exact .inl h6
      · exact .inr ⟨h6, .inl h7⟩
      exact .inr ⟨h6, .inr (.inr h7)⟩⟩
  refine two _ _ _ _ ?_ (mk _ hd1) (mk _ hd2)
  unfold toCome
  exact Nat.le_trans (List.countP_le_length) (by simp)
theorem rT {l : List Oper} {id : Nat} (hm : P.follows .mixedOrders = true) (R : Act → World → Prop) (mem pre r1 r2 : List Nat) (x y k : Nat) (hsize : a0.tmps.size = k) (hck : okT l.toArray mem pre r1 r2 x y k = true) (hv : Inv B H w0)
  (h0 : ∀ (R' : Act → World → Prop) (l1 l2 : List (Nat × Oper)), (∀ a w, R a w → R' a w) → l1 = qm l (x :: r1) → l2 = qm l (y :: r2) → DW2 P l.toArray mem R' l1 l2 (qm l pre) [] (Inv B H) a0) (hR : ∀ a w, R a w → Q .normal a w) : (Code.region id l.toArray true).wpIn Fence.wide n P Q a0 w0 := by
 have h := h0 R _ _ (fun _ _ h => h) rfl rfl
 have h2 : (Code.region id l.toArray true).wpIn Fence.wide n P (fun e a w => e = .normal ∧ R a w) a0 w0 := by
  refine wpIn_wide.2 (wp_region_any hm (any_t mem pre r1 r2 x y k hsize hck (fun _ _ h he => h.ext he) hv ?_))
  rw [qm_pm, qm_pm, qm_pm] at h
  have : (fun a w => (Exit.normal : Exit) = .normal ∧ R a w) = R := by funext a w; simp
  show DW2 P l.toArray mem (fun a w => (Exit.normal : Exit) = .normal ∧ R a w) _ _ _ _ _ _
  rw [this]; exact h
 exact wpIn_mono h2 (fun e a w ⟨h3, h4⟩ => by subst h3; exact hR a w h4)
end
section
variable {P : Program} {ops : Array Oper} {mem : List Nat} {R : Act → World → Prop} {l1 l2 : List (Nat × Oper)} {i : Nat} {o : Oper} {is : List (Nat × Oper)} {Fl : List (Nat × (World → Prop))} {J : World → Prop} {a : Act} {v : Value} {x y z : Operand}
theorem tB (h1 : DW P ops mem R l1 Fl J a) (h2 : DW P ops mem R l2 Fl J a) : DW2 P ops mem R l1 l2 [] Fl J a := ⟨h1, h2⟩
theorem tG (v : Value) (hw : Region.wanted o (yielded ops a.tmps) = true) (hr : ∀ {w}, Ex P a o w v w) (h : DW2 P ops mem R l1 l2 is Fl J (a.put o.dst v)) : DW2 P ops mem R l1 l2 ((i, o) :: is) Fl J a := by
 unfold DW2; exact .inr ⟨hw, v, .inl ⟨fun w => hr.addsv, h⟩⟩
theorem tF (v : Value) (hw : Region.wanted o (yielded ops a.tmps) = true) (hr : ∀ {w}, J w → Ex P a o w v w) (h : ∀ f : World → Prop, (∀ w, Ex P a o w v w → f w) → DW2 P ops mem R l1 l2 is ((i, f) :: Fl) J (a.put o.dst v)) : DW2 P ops mem R l1 l2 ((i, o) :: is) Fl J a := by
 unfold DW2; exact .inr ⟨hw, v, .inr ⟨fun w => Ex P a o w v w, fun w hx => hx.addsv, fun w hJ => hr hJ, h _ fun _ hx => hx⟩⟩
end
end Go.Pm
namespace Go.Proofs.YtmhdpjifhfoabaaGreatDoor
open Go.RowKit Go.Pm
def others (K : List KeyR) (name : List UInt8) : List KeyR := K.filter fun x => !decide (x.name = name)
end Go.Proofs.YtmhdpjifhfoabaaGreatDoor
namespace Go.Pm
open Go.RowKit
section
variable {P : Program} {a : Act} {w : World} {o : Oper} {t u : TypeId} {x y : Operand}
end
end Go.Pm
namespace Go.Proofs.YtmhdpjifhfoabaaGreatDoor
open Go.RowKit Go.Pm
theorem refWords (B : Base) (H : List Res) (w : World) (ad ad' : Option Addr) (c c' : Nat) (l : List (List UInt8)) (hr : RdV B [] ad (textCells l)) (hr' : RdV B [] ad' (textCells l)) (hm : l.length ≤ 1000000) (hv : Inv B H w) :
  Calls Tryz.prog 13 #[.slice ad l.length c, .slice ad' l.length c'] w fun e w' => e = .returned (.bool true) ∧ Inv B H w' := by
 refine cW Tryz.func13 rfl Tryz.ntmps13 ?_
 simp only [al]
 refine sK fun _ k1 => rL (uA rfl ?_)
 refine uW k1 (sK fun _ k2 => ?_)
 refine sK fun _ k3 => rL (uM rfl ?_)
 refine uG (vI (l.length : Int)) rfl (ex_len0 Tryz.underlying22 rfl rfl) (uM rfl ?_)
 refine uG (vI (l.length : Int)) rfl (ex_len0 Tryz.underlying22 rfl rfl) ?_
 refine uG (.bool false) rfl (ex_neq rfl rfl rfl (qF (fun h => h rfl))) (uW k3 ?_)
 refine cF rfl (kS ?_)
 refine tK k2 (sK fun _ k4 => ?_)
 refine sK fun _ k5 => rL (uA rfl ?_)
 refine uW k5 (bB ?_)
 gi_loopw [5] (fun x5 wr => ∃ (i : Nat), x5 = vI i ∧ i ≤ l.length ∧ Inv B H wr) (fun x5 _ => l.length - (intOf x5).toNat)
 case atStart => exact ⟨0, rfl, Nat.zero_le _, hv⟩
 case round =>
  obtain ⟨i, rfl, hi, hv⟩ := hrel
  refine sK fun _ k7 => sK fun _ k8 => rL (uM rfl ?_)
  refine uM rfl ?_
  refine uG (vI (l.length : Int)) rfl (ex_len0 Tryz.underlying22 rfl rfl) ?_
  by_cases hb9 : (i : Int) < (l.length : Int)
  ·refine uG (.bool true) rfl (ex_lss rfl rfl rfl (qT hb9)) (uW k8 ?_)
   refine cT rfl (kS ?_)
   refine tK k7 (sK fun _ k10 => ?_)
   refine bB (sK fun _ k11 => ?_)
   obtain ⟨x, hx⟩ : ∃ x, l[i]? = some x := ⟨_, List.getElem?_eq_getElem (show i < l.length by omega)⟩
   obtain ⟨bb, bo, had, hrdx⟩ := text_reads hr hx
   subst had
   obtain ⟨b2, o2, hadb2, hrdb2⟩ := text_reads hr' hx
   subst hadb2
   refine rW mixed [] [0,1,2,3,4,5,6,7,8] 26 rfl (by kernel_rfl) hv ?_
   simp only [qm, opAt]
   refine dM (.slice (some ⟨bb, bo, none⟩) l.length c) rfl (dM (vI i) rfl ?_)
   refine dG (.pointer (some ⟨bb, bo + i, none⟩)) rfl (ex_index rfl rfl rfl (run_idx1 (k := i) Tryz.underlying22 s9es22 (by omega))) ?_
   simp only [zP, po]
   refine dL _ rfl (fun hv => ex_load rfl rfl (run_load1 s9na9 (hrdx _ _ _ (Base.Le.refl _) no_res hv 0 _ rfl))) (dM (.slice (some ⟨b2, o2, none⟩) l.length c') rfl ?_)
   refine dM (vI i) rfl ?_
   simp only [zP, po]
   refine dG (.pointer (some ⟨b2, o2 + i, none⟩)) rfl (ex_index rfl rfl rfl (run_idx1 (k := i) Tryz.underlying22 s9es22 (by omega))) (dL _ rfl (fun hv => ex_load rfl rfl (run_load1 s9na9 (hrdb2 _ _ _ (Base.Le.refl _) no_res hv 0 _ rfl))) ?_)
   refine dG (.bool false) rfl (ex_sneq rfl rfl rfl (qF (fun h => h rfl))) (dE fun w12 hv => ?_)
   simp only [zP, po]
   refine tK k11 (cF rfl ?_)
   refine kS (bN ?_)
   refine tK k10 (rL ?_)
   refine uM rfl ?_
   refine uG (vI ((i + 1 : Nat) : Int)) rfl (ex_add rfl rfl rfl (by rw [i64_in (by omega)]; omega)) (uA rfl ?_)
   refine uZ (then_normal ?_)
   go_roundw
   case rel => exact ⟨i + 1, rfl, by omega, hv⟩
   case measure => show l.length - (((i + 1 : Nat) : Int)).toNat < l.length - ((i : Int)).toNat; omega
  refine uG (.bool false) rfl (ex_lss rfl rfl rfl (qF hb9)) (uW k8 ?_)
  refine cF rfl (xE ?_)
  refine tX (tX ?_)
  refine bH (tK k4 ?_)
  refine sK fun _ k13 => rL (uA rfl ?_)
  refine uW k13 (rR ?_)
  refine bR rfl rfl (⟨rfl, hv⟩)
theorem txnNamesB (B : Base) (H : List Res) (w : World) (t m s p wb : Nat) (va : Option Addr) (vc : Nat) (sv : Value) (clk : Int) (es : List (List UInt8 × Value)) (M : List (List UInt8 × Ver)) (hM : VM B es M) (hkl : ∀ k ∈ M.map (·.1), k.length ≤ 256) (hMl : M.length ≤ 1000000) (hv : Inv B (txR t m s p wb va vc sv clk es :: H) w) :
  Calls Tryz.prog 193 #[vP t] w fun e w' => ∃ C a c, B.Le C ∧ e = .returned (.slice a (namesT M clk).length c) ∧ RdV C [] a (textCells (namesT M clk)) ∧ Inv C (txR t m s p wb va vc sv clk es :: H) w' := by
 refine (txnNames B H w t m s p wb va vc sv clk es M hM hkl hMl hv).mono ?_
 rintro e w' ⟨ra, rc, rfl, hv⟩
 obtain ⟨C, hB, hv2, hr2, -, -⟩ := hv.rowBy
 exact ⟨C, ra, rc, hB, rfl, hr2, hv2⟩
end Go.Proofs.YtmhdpjifhfoabaaGreatDoor
namespace Go.Pm
open Go.RowKit
section
variable {P : Program} {t e : TypeId} {w : World}
end
section
variable {P : Program} {ops : Array Oper} {Q : Exit → Act → World → Prop} {a : Act} {w : World} {o : Oper} {B : Base} {H : List Res} {t e u : TypeId} {x y : Operand} {size : Nat} {J : List Value → World → Prop} {vals : List Value}
end
end Go.Pm
namespace Go.Proofs.YtmhdpjifhfoabaaGreatDoor
open Go.RowKit Go.Pm
theorem viewNew (B : Base) (H : List Res) (w : World) (t : Nat) (hv : Inv B H w) :
  Calls Tryz.prog 22 #[.iface 62 (vP t)] w fun e w' => ∃ v, e = .returned (.tuple #[vP v, vI 0]) ∧ Inv B (Res.cell v [.iface 62 (vP t)] 36 :: H) w' := by
 refine cW Tryz.func22 rfl Tryz.ntmps22 ?_
 simp only [al]
 refine sK fun _ k1 => rL (uA rfl ?_)
 refine uA rfl (uW k1 ?_)
 refine sK fun _ k2 => sK fun _ k3 => rL (uM rfl ?_)
 refine uG (.bool false) rfl (ex_ifnil Tryz.underlying34 rfl rfl rfl) (uW k3 ?_)
 refine cF rfl (kS ?_)
 refine tK k2 (sK fun _ k4 => ?_)
 refine rL (uM rfl ?_)
 refine uG (.agg #[.iface 62 (vP t)]) rfl (ex_buildN (vs := #[(0, .iface 62 (vP t))]) rfl (by simp only [List.map_toArray, List.map_cons, List.map_nil]; rfl) (by kernel_rfl)) ?_
 refine sl_box (L := [.iface 62 (vP t)]) tV (wn rfl) rfl rfl hv (fun w => by kernel_rfl) (fun b5 w6 hv => ?_)
 refine uA rfl (uA rfl ?_)
 refine uW k4 (rR ?_)
 refine bodyPost_ret (results_tmp2 rfl _ _ _) rfl (⟨_, rfl, hv⟩)
theorem l0callable19 : Callable Tryz.prog 19 := cb Tryz.func19 (by kernel_rfl)
theorem l0callable18 : Callable Tryz.prog 18 := cb Tryz.func18 (by kernel_rfl)
theorem l0callable20 : Callable Tryz.prog 20 := cb Tryz.func20 (by kernel_rfl)
theorem l0callable21 : Callable Tryz.prog 21 := cb Tryz.func21 (by kernel_rfl)
theorem l0callable22 : Callable Tryz.prog 22 := cb Tryz.func22 (by kernel_rfl)
theorem lawOpened (B : Base) (H : List Res) (w : World) (now : Int) (h0 : 0 ≤ now) (h1 : now ≤ 1099511627776) (hv : Inv B H w) :
  Calls Tryz.prog 7 #[vI now] w fun e w' => ∃ v t m s p wb va vc sv, e = .returned (vP v) ∧ Inv B (Res.cell v [.iface 62 (vP t)] 36 :: txR t m s p wb va vc sv now [] :: H) w' := by
 refine cW Tryz.func7 rfl Tryz.ntmps7 ?_
 simp only [al]
 refine sK fun _ k1 => rL (uA rfl ?_)
 refine uW k1 (sK fun _ k2 => ?_)
 refine rL (xC l0callable19 rfl ((storeNew0 B _ _ hv).mono ?_) rfl)
 rintro e w3 ⟨s, p, rfl, hv⟩
 refine ⟨_, rfl, uG (.agg #[]) rfl (ex_buildN (vs := #[]) rfl (by simp only [List.map_toArray, List.map_nil]) (by kernel_rfl)) ?_⟩
 refine uG (.iface 60 (.agg #[])) rfl (ex_iface Tryz.underlying60 (fun _ h => by cases h) rfl rfl) ?_
 refine xC l0callable18 rfl ((txnNew0 B _ _ s 60 (.agg #[]) hv).mono ?_) rfl
 rintro e w4 ⟨m, rfl, hv⟩
 refine ⟨_, rfl, ?_⟩
 obtain ⟨sv, hsv⟩ : ∃ sv, sv = Value.iface 60 (.agg #[]) := ⟨_, rfl⟩
 rw [← hsv] at hv
 refine uM rfl (uE rfl ?_)
 refine uE rfl (uA rfl ?_)
 refine uA rfl (uW k2 ?_)
 refine sK fun _ k5 => sK fun _ k6 => rL (uM rfl ?_)
 refine uG (.bool false) rfl (ex_pisnil Tryz.underlying53 rfl rfl rfl rfl) (uW k6 ?_)
 refine cF rfl (kS ?_)
 refine tK k5 (sK fun _ k7 => ?_)
 refine rL (uM rfl ?_)
 refine uM rfl ?_
 refine xC l0callable20 rfl ((txnTick0 B _ _ m s sv now h0 h1 hv).mono ?_) rfl
 rintro e w8 ⟨r9, rfl, hv⟩
 refine ⟨_, rfl, uW k7 ?_⟩
 refine sK fun _ k9 => rL (uM rfl ?_)
 replace hv := hv.front 2 rfl
 simp only [eS, eZ] at hv
 replace hv := hv.front 2 rfl
 simp only [eS, eZ] at hv
 replace hv := hv.front 2 rfl
 simp only [eS, eZ] at hv
 refine xC l0callable21 rfl ((txnBegin B _ _ m s p sv now hv).mono ?_) rfl
 rintro e w10 ⟨t, wb, va, vc, rfl, hv⟩
 refine ⟨_, rfl, uM rfl ?_⟩
 refine uE rfl (uE rfl ?_)
 refine uA rfl (uA rfl ?_)
 refine uW k9 (sK fun _ k11 => ?_)
 refine sK fun _ k12 => rL (uM rfl ?_)
 refine uG (.bool false) rfl (ex_pisnil Tryz.underlying62 rfl rfl rfl rfl) (uW k12 ?_)
 refine cF rfl (kS ?_)
 refine tK k11 (sK fun _ k13 => ?_)
 refine rL (uM rfl ?_)
 refine uG (.iface 62 (vP t)) rfl (ex_iface Tryz.underlying62 (fun _ h => by cases h) rfl rfl) ?_
 refine xC l0callable22 rfl ((viewNew B _ _ t hv).mono ?_) rfl
 rintro e w14 ⟨v, rfl, hv⟩
 refine ⟨_, rfl, uM rfl ?_⟩
 refine uE rfl (uE rfl ?_)
 refine uA rfl (uA rfl ?_)
 refine uW k13 (sK fun _ k15 => ?_)
 refine rL (uM rfl ?_)
 refine uA rfl (uW k15 ?_)
 refine rR (bR rfl rfl ?_)
 exact ⟨v, t, m, s, p, wb, va, vc, sv, rfl, ((hv.front 1 rfl).front 1 rfl)⟩
theorem l0al28 : AL Tryz.prog 28 [vI 0, vS [], vI 0, vN] := fun w => by kernel_rfl
theorem ref20Str (B : Base) (H : List Res) (w : World) (s : List UInt8) (hv : Inv B H w) :
  Calls Tryz.prog 23 #[vS s] w fun e w' => e = .returned (.agg #[vI 3, vS s, vI 0, vN]) ∧ Inv B H w' := by
 refine cW Tryz.func23 rfl Tryz.ntmps23 ?_
 simp only [al]
 refine sK fun _ k1 => rL (sl_alloc tV (wn rfl) rfl hv l0al28 (fun b2 w3 hv => ?_))
 refine uW k1 (sK fun _ k4 => ?_)
 refine rL (uM rfl ?_)
 refine uG (.agg #[vI 3, vS s, vI 0, vN]) rfl (ex_buildN (vs := #[(0, vI 3), (1, vS s)]) rfl (by simp only [List.map_toArray, List.map_cons, List.map_nil]; rfl) (by kernel_rfl)) ?_
 refine xS 0 rfl hv rssz28 rfl (by exact ⟨rfl, rfl, rfl, rfl, trivial⟩) (fun w5 hv => ?_)
 simp only [zO, sp] at hv
 refine uW k4 (rR ?_)
 refine bC 0 rswd28 hv rfl rfl rfl rfl (⟨rfl, (hv.kp [] 0 1)⟩)
theorem l0callable23 : Callable Tryz.prog 23 := cb Tryz.func23 (by kernel_rfl)
theorem l0mk28 : (Tryz.prog.info? 28).map (fun i => (i.zero, i.size, i.bytes)) = some (some (.agg #[vI 0, vS [], vI 0, vN]), 4, 56) := by kernel_rfl
theorem l0el26 : Elem Tryz.prog 26 28 (.agg #[vI 0, vS [], vI 0, vN]) 4 56 := elem_of Tryz.underlying26 l0mk28 (by rfl) (by decide)
theorem ref20Strs (B : Base) (H : List Res) (w : World) (sa : Option Addr) (sc : Nat) (ss : List (List UInt8)) (hr : RdV B [] sa (textCells ss)) (hm : ss.length ≤ 1000000) (hv : Inv B H w) :
  Calls Tryz.prog 10 #[.slice sa ss.length sc] w fun e w' => ∃ C v, B.Le C ∧ e = .returned (.agg #[vI 5, vS (([] : List UInt8)), vI 0, v]) ∧ RpAt C (rStrs ss) (rpCells 5 [] 0 v) ∧ Inv C H w' := by
 refine cW Tryz.func10 rfl Tryz.ntmps10 ?_
 simp only [al]
 refine sK fun _ k1 => rL (sl_alloc tV (wn rfl) rfl hv l0al28 (fun b2 w3 hv => ?_))
 refine uW k1 (sK fun _ k4 => ?_)
 refine rL (uG (.agg #[vI 5, vS [], vI 0, vN]) rfl (ex_buildN (vs := #[(0, vI 5)]) rfl (by simp only [List.map_toArray, List.map_cons, List.map_nil]; rfl) (by kernel_rfl)) ?_)
 refine sl_alloc tV (wn rfl) rfl hv l0al28 (fun b5 w6 hv => ?_)
 refine xS 0 rfl hv rssz28 rfl (by exact ⟨rfl, rfl, rfl, rfl, trivial⟩) (fun w7 hv => ?_)
 simp only [zO, sp] at hv
 refine uW k4 (sK fun _ k8 => ?_)
 refine sK fun _ k9 => rL (uA rfl ?_)
 refine uW k9 (bB ?_)
 gi_loopw [4] (fun x4 wr => ∃ (i : Nat) (ra : Option Addr) (rc : Nat), x4 = vI i ∧ i ≤ ss.length ∧ Inv B (Res.row 28 4 (.slice ra i rc) i (strsCells (ss.take i)) :: Res.cell b5 [vI 5, vS [], vI 0, .slice ra i rc] 28 :: Res.cell b2 [vI 0, vS [], vI 0, vN] 28 :: H) wr) (fun x4 _ => ss.length - (intOf x4).toNat)
 case atStart => exact ⟨0, none, 0, rfl, Nat.zero_le _, (((hv.front 1 rfl).front 1 rfl)).rowNil 28 4⟩
 case round =>
  obtain ⟨i, ra, rc, rfl, hi, hv⟩ := hrel
  refine sK fun _ k11 => sK fun _ k12 => rL (uM rfl ?_)
  refine uM rfl ?_
  refine uG (vI (ss.length : Int)) rfl (ex_len0 Tryz.underlying22 rfl rfl) ?_
  by_cases hb13 : (i : Int) < (ss.length : Int)
  ·refine uG (.bool true) rfl (ex_lss rfl rfl rfl (qT hb13)) (uW k12 ?_)
   refine cT rfl (kS ?_)
   refine tK k11 (sK fun _ k14 => ?_)
   refine bB ?_
   obtain ⟨x, hx⟩ : ∃ x, ss[i]? = some x := ⟨_, List.getElem?_eq_getElem (show i < ss.length by omega)⟩
   obtain ⟨bb, bo, had, hrdx⟩ := text_reads hr hx
   subst had
   refine rW mixed [6, 7, 8, 10] [0,1,2,3,4,5,6,7,8,9,10] 23 rfl (by kernel_rfl) hv ?_
   simp only [qm, opAt]
   refine dG (.pointer (some ⟨b5, 3, none⟩)) rfl (ex_field rfl rfl (rtfa28_3 _ _ _)) (dF _ rfl (fun hv => ex_load rfl rfl (run_load1 rtna26 (hv.load 1 3 rfl rfl))) fun f15 hf15 => ?_)
   refine dM (.slice (some ⟨bb, bo, none⟩) ss.length sc) rfl ?_
   simp only [zP, po]
   refine dM (vI i) rfl (dG (.pointer (some ⟨bb, bo + i, none⟩)) rfl (ex_index rfl rfl rfl (run_idx1 (k := i) Tryz.underlying22 s9es22 (by omega))) ?_)
   refine dL _ rfl (fun hv => ex_load rfl rfl (run_load1 s9na9 (hrdx _ _ _ (Base.Le.refl _) no_res hv 0 _ rfl))) ?_
   simp only [zP, po]
   refine dS rfl fun w16 hv => mC l0callable23 rfl ((ref20Str B _ _ x hv).mono ?_) rfl
   rintro e w17 ⟨rfl, hv⟩
   refine ⟨_, rfl, dV hv (fC (fun ww hv => hf15 ww (ex_load rfl rfl (run_load1 rtna26 (hv.load 1 3 rfl rfl)))) fN) ?_⟩
   refine dS rfl fun w18 hv => mem_rowAgg (L := [vI 3, vS x, vI 0, vN]) rfl rfl rfl hv l0el26 rfl (by decide) (fun b19 w20 hv => ?_)
   refine dV hv (fC (fun ww hv => hf15 ww (ex_load rfl rfl (run_load1 rtna26 (hv.load 2 3 rfl rfl)))) fN) (dS rfl fun w21 hv => ?_)
   replace hv := hv.front 1 rfl
   simp only [eS, eZ] at hv
   refine mem_append (news := [vI 3, vS x, vI 0, vN]) rfl rfl rfl rfl l0el26 hv (ok_full (by omega)) rfl (rd_all (hv.get 1 rfl)) (by intro u hu; simp only [List.mem_cons, List.not_mem_nil, or_false] at hu; rcases hu with rfl | rfl | rfl | rfl <;> rfl) (by unfold maxLen; omega) (by omega) (fun rv22 w25 hv => ?_)
   obtain ⟨ra23, rc24, rfl⟩ := row_slice hv.head
   refine dV hv (fK rfl fN) ?_
   simp only [zP, po]
   refine dG (.pointer (some ⟨b5, 3, none⟩)) rfl (ex_field rfl rfl (rtfa28_3 _ _ _)) (dS rfl fun w26 hv => ?_)
   refine mV 2 (.slice ra23 (i + 1) rc24) rfl hv rtsz26 rfl rfl (fun w27 hv => ?_)
   simp only [zS, zO, sp] at hv
   refine dV hv (fK rfl fN) (dE fun w28 hv => ?_)
   simp only [zP, po]
   refine bN (tK k14 ?_)
   refine rL (uM rfl ?_)
   refine uG (vI ((i + 1 : Nat) : Int)) rfl (ex_add rfl rfl rfl (by rw [i64_in (by omega)]; omega)) (uA rfl ?_)
   refine uZ (then_normal ?_)
   go_roundw
   case rel => exact ⟨i + 1, _, _, rfl, by omega, by rw [strsCells_next hx]; exact (hv.kp [3, 3, 2] 3 1)⟩
   case measure => show ss.length - (((i + 1 : Nat) : Int)).toNat < ss.length - ((i : Int)).toNat; omega
  refine uG (.bool false) rfl (ex_lss rfl rfl rfl (qF hb13)) (uW k12 ?_)
  refine cF rfl (xE ?_)
  refine tX (tX ?_)
  refine bH (tK k8 ?_)
  refine sK fun _ k29 => rL (uL (.agg #[vI 5, vS [], vI 0, .slice ra i rc]) rfl (lM 1 rswd28 hv rfl rfl rfl rfl) ?_)
  refine xS 2 rfl hv rssz28 rfl (by exact ⟨rfl, rfl, rfl, rfl, trivial⟩) (fun w30 hv => ?_)
  simp only [zS, zO, sp] at hv
  refine uW k29 (rR ?_)
  refine bC 2 rswd28 hv rfl rfl rfl rfl ?_
  obtain rfl : i = ss.length := by omega
  obtain ⟨C, hC, hv, hro, hoko, -⟩ := ((hv.sub (sC _ (sD _ (sD _ (sR _)))))).rowBy
  rw [List.take_length] at hro
  exact ⟨C, _, hC, rfl, rpAt_of (l := ss.map rStr) ⟨ra, rc, by rw [List.length_map], by rw [List.length_map]; exact hoko, hro⟩ (strsCells_at ss), hv⟩
def SameR (B : Base) (r : Rp) : Prop := ∀ (H : List Res) (w : World) (cs cs' : List Value), RpAt B r cs → RpAt B r cs' → Inv B H w → Calls Tryz.prog 9 #[.agg cs.toArray, .agg cs'.toArray] w fun e w' => e = .returned (.bool true) ∧ Inv B H w'
theorem l0fa28_0 : FA Tryz.prog 28 0 0 := fun w b o => by kernel_rfl
theorem l0fa28_1 : FA Tryz.prog 28 1 1 := fun w b o => by kernel_rfl
theorem l0fa28_2 : FA Tryz.prog 28 2 2 := fun w b o => by kernel_rfl
theorem l0es26 (w : World) : (sizeOf (Tryz.prog.elem 26)).run Tryz.prog w = .ok 4 w := by kernel_rfl
theorem l0callable9 : Callable Tryz.prog 9 := cb Tryz.func9 (by kernel_rfl)
theorem refSameRp0 (B : Base) (H : List Res) (w : World) (k : Int) (s : List UInt8) (n : Int) (l : List Rp) (a a' : Option Addr) (c c' : Nat) (xs xs' : List Value) (hrd : RdV B [] a xs) (hrd' : RdV B [] a' xs') (hat : RpsAt B l xs) (hat' : RpsAt B l xs') (hl : l.length ≤ 1000000) (hIH : ∀ x ∈ l, SameR B x) (hv : Inv B H w) :
  Calls Tryz.prog 9 #[.agg #[vI k, vS s, vI n, .slice a l.length c], .agg #[vI k, vS s, vI n, .slice a' l.length c']] w fun e w' => e = .returned (.bool true) ∧ Inv B H w' := by
 refine cW Tryz.func9 rfl Tryz.ntmps9 ?_
 simp only [al]
 refine sK fun _ k1 => rL (sl_box (L := [vI k, vS s, vI n, .slice a l.length c]) tV (wn rfl) rfl rfl hv (fun w => by kernel_rfl) (fun b2 w3 hv => ?_))
 refine sl_box (L := [vI k, vS s, vI n, .slice a' l.length c']) tV (wn rfl) rfl rfl hv (fun w => by kernel_rfl) (fun b4 w5 hv => ?_)
 refine uA rfl (uW k1 ?_)
 refine sK fun _ k6 => sK fun _ k7 => rL (uF (vP b2) rfl (l0fa28_0 _ _ _) ?_)
 refine uL _ rfl (run_load1 s2na3 (hv.load 1 0 rfl rfl)) ?_
 refine uF (vP b4) rfl (l0fa28_0 _ _ _) ?_
 refine uL _ rfl (run_load1 s2na3 (hv.load 0 0 rfl rfl)) ?_
 refine uG (.bool false) rfl (ex_neq rfl rfl rfl (qF (fun h => h rfl))) (uM rfl ?_)
 refine uF (.pointer (some ⟨b2, 1, none⟩)) rfl (l0fa28_1 _ _ _) ?_
 refine uL _ rfl (run_load1 s9na9 (hv.load 1 1 rfl rfl)) ?_
 refine uF (.pointer (some ⟨b4, 1, none⟩)) rfl (l0fa28_1 _ _ _) ?_
 refine uL _ rfl (run_load1 s9na9 (hv.load 0 1 rfl rfl)) ?_
 refine uG (.bool false) rfl (ex_sneq rfl rfl rfl (qF (fun h => h rfl))) (uK rfl ?_)
 refine uM rfl ?_
 refine uF (.pointer (some ⟨b2, 2, none⟩)) rfl (l0fa28_2 _ _ _) ?_
 refine uL _ rfl (run_load1 s2na3 (hv.load 1 2 rfl rfl)) ?_
 refine uF (.pointer (some ⟨b4, 2, none⟩)) rfl (l0fa28_2 _ _ _) ?_
 refine uL _ rfl (run_load1 s2na3 (hv.load 0 2 rfl rfl)) ?_
 refine uG (.bool false) rfl (ex_neq rfl rfl rfl (qF (fun h => h rfl))) (uK rfl ?_)
 refine uM rfl ?_
 refine uF (.pointer (some ⟨b2, 3, none⟩)) rfl (rtfa28_3 _ _ _) ?_
 refine uL _ rfl (run_load1 rtna26 (hv.load 1 3 rfl rfl)) ?_
 refine uG (vI (l.length : Int)) rfl (ex_len0 Tryz.underlying26 rfl rfl) ?_
 refine uF (.pointer (some ⟨b4, 3, none⟩)) rfl (rtfa28_3 _ _ _) ?_
 refine uL _ rfl (run_load1 rtna26 (hv.load 0 3 rfl rfl)) ?_
 refine uG (vI (l.length : Int)) rfl (ex_len0 Tryz.underlying26 rfl rfl) ?_
 refine uG (.bool false) rfl (ex_neq rfl rfl rfl (qF (fun h => h rfl))) (uK rfl ?_)
 refine uW k7 (cF rfl ?_)
 refine kS (tK k6 ?_)
 refine sK fun _ k8 => sK fun _ k9 => rL (uA rfl ?_)
 refine uW k9 (bB ?_)
 gi_loopw [5] (fun x5 wr => ∃ (i : Nat), x5 = vI i ∧ i ≤ l.length ∧ Inv B (Res.cell b4 [vI k, vS s, vI n, .slice a' l.length c'] 28 :: Res.cell b2 [vI k, vS s, vI n, .slice a l.length c] 28 :: H) wr) (fun x5 _ => l.length - (intOf x5).toNat)
 case atStart => exact ⟨0, rfl, Nat.zero_le _, hv⟩
 case round =>
  obtain ⟨i, rfl, hi, hv⟩ := hrel
  refine sK fun _ k11 => sK fun _ k12 => rL (uM rfl ?_)
  refine uF (.pointer (some ⟨b2, 3, none⟩)) rfl (rtfa28_3 _ _ _) ?_
  refine uL _ rfl (run_load1 rtna26 (hv.load 1 3 rfl rfl)) ?_
  refine uG (vI (l.length : Int)) rfl (ex_len0 Tryz.underlying26 rfl rfl) ?_
  by_cases hb13 : (i : Int) < (l.length : Int)
  ·refine uG (.bool true) rfl (ex_lss rfl rfl rfl (qT hb13)) (uW k12 ?_)
   refine cT rfl (kS ?_)
   refine tK k11 (sK fun _ k14 => ?_)
   refine bB (sK fun _ k15 => ?_)
   obtain ⟨x, hx⟩ : ∃ x, l[i]? = some x := ⟨_, List.getElem?_eq_getElem (show i < l.length by omega)⟩
   obtain ⟨xk, xs, xn, xq⟩ := x
   obtain ⟨q1, o1, v1, y1, h1a, h1b, h1c, h1d⟩ := hat.reads hrd hx
   obtain ⟨q2, o2, v2, y2, h2a, h2b, h2c, h2d⟩ := hat'.reads hrd' hx
   subst h1a
   subst h2a
   have hq1 := rpAt_of (k := xk) (s := xs) (n := xn) h1b h1c
   have hq2 := rpAt_of (k := xk) (s := xs) (n := xn) h2b h2c
   refine rW mixed [10] [0,1,2,3,4,5,6,7,8,9,10,11] 53 rfl (by kernel_rfl) hv ?_
   simp only [qm, opAt]
   refine dG (.pointer (some ⟨b2, 3, none⟩)) rfl (ex_field rfl rfl (rtfa28_3 _ _ _)) (dL _ rfl (fun hv => ex_load rfl rfl (run_load1 rtna26 (hv.load 1 3 rfl rfl))) ?_)
   refine dM (vI i) rfl ?_
   simp only [zP, po]
   refine dG (.pointer (some ⟨q1, o1 + i * 4, none⟩)) rfl (ex_index rfl rfl rfl (run_idx (k := i) Tryz.underlying26 l0es26 (by omega))) (dL (.agg #[vI xk, vS xs, vI xn, v1]) rfl (fun hv => ex_load rfl rfl (run_loadR (cs := [vI xk, vS xs, vI xn, v1]) rswd28 (Reads.mid (pre := []) (mid := [vI xk, vS xs, vI xn, v1]) (post := []) h1d _ _ _ (Base.Le.refl _) no_res hv))) ?_)
   refine dG (.pointer (some ⟨b4, 3, none⟩)) rfl (ex_field rfl rfl (rtfa28_3 _ _ _)) ?_
   simp only [zP, po]
   refine dL _ rfl (fun hv => ex_load rfl rfl (run_load1 rtna26 (hv.load 0 3 rfl rfl))) (dM (vI i) rfl ?_)
   refine dG (.pointer (some ⟨q2, o2 + i * 4, none⟩)) rfl (ex_index rfl rfl rfl (run_idx (k := i) Tryz.underlying26 l0es26 (by omega))) ?_
   simp only [zP, po]
   refine dL (.agg #[vI xk, vS xs, vI xn, v2]) rfl (fun hv => ex_load rfl rfl (run_loadR (cs := [vI xk, vS xs, vI xn, v2]) rswd28 (Reads.mid (pre := []) (mid := [vI xk, vS xs, vI xn, v2]) (post := []) h2d _ _ _ (Base.Le.refl _) no_res hv))) (dS rfl fun w16 hv => ?_)
   refine mC l0callable9 rfl ((hIH _ (List.mem_of_getElem? hx) _ _ (rpCells xk xs xn v1) (rpCells xk xs xn v2) hq1 hq2 hv).mono ?_) rfl
   rintro e w17 ⟨rfl, hv⟩
   refine ⟨_, rfl, dW hv ?_⟩
   refine dG (.bool false) rfl (ex_not rfl rfl rfl) (dE fun w18 hv => ?_)
   simp only [zP, po]
   refine tK k15 (cF rfl ?_)
   refine kS (bN ?_)
   refine tK k14 (rL ?_)
   refine uM rfl ?_
   refine uG (vI ((i + 1 : Nat) : Int)) rfl (ex_add rfl rfl rfl (by rw [i64_in (by omega)]; omega)) (uA rfl ?_)
   refine uZ (then_normal ?_)
   go_roundw
   case rel => exact ⟨i + 1, rfl, by omega, hv⟩
   case measure => show l.length - (((i + 1 : Nat) : Int)).toNat < l.length - ((i : Int)).toNat; omega
  refine uG (.bool false) rfl (ex_lss rfl rfl rfl (qF hb13)) (uW k12 ?_)
  refine cF rfl (xE ?_)
  refine tX (tX ?_)
  refine bH (tK k8 ?_)
  refine sK fun _ k19 => rL (uA rfl ?_)
  refine uW k19 (rR ?_)
  refine bR rfl rfl (⟨rfl, (hv.kp [] 0 2)⟩)
theorem sameR_of {B : Base} {k : Int} {s : List UInt8} {n : Int} {l : List Rp} (hl : l.length ≤ 1000000) (h : ∀ x ∈ l, SameR B x) : SameR B (.mk k s n l) := fun H w cs cs' h1 h2 hv => by
 simp only [RpAt] at h1 h2
 obtain ⟨v, xs, rfl, ⟨a, c, rfl, -, hr⟩, hx⟩ := h1
 obtain ⟨v', xs', rfl, ⟨a', c', rfl, -, hr'⟩, hx'⟩ := h2
 exact refSameRp0 B H w k s n l a a' c c' xs xs' hr hr' hx hx' hl h hv
theorem sameR_leaf {B : Base} {k : Int} {s : List UInt8} {n : Int} : SameR B (.mk k s n []) := sameR_of (Nat.zero_le _) fun x h => by cases h
theorem sameR_strs {B : Base} {l : List (List UInt8)} (hl : l.length ≤ 1000000) : SameR B (rStrs l) := sameR_of (by rw [List.length_map]; exact hl) fun x h => by
 obtain ⟨y, -, rfl⟩ := List.mem_map.1 h
 exact sameR_leaf
theorem text_snoc (l : List (List UInt8)) (x : List UInt8) : textCells l ++ [strV x] = textCells (l ++ [x]) := by simp [textCells]
theorem rp_parts {B : Base} {r : Rp} {cs : List Value} (h : RpAt B r cs) : ∃ k s n v, cs = rpCells k s n v := by
 cases r; simp only [RpAt] at h
 obtain ⟨v, xs, h1, -⟩ := h
 exact ⟨_, _, _, v, h1⟩
theorem rp_int {B : Base} {n : Int} {cs : List Value} (h : RpAt B (rInt n) cs) : ∃ v, cs = rpCells 2 [] n v := by
 simp only [rInt, RpAt] at h
 obtain ⟨v, xs, h1, -⟩ := h
 exact ⟨v, h1⟩
theorem rp_strs {B : Base} {l : List (List UInt8)} {cs : List Value} (h : RpAt B (rStrs l) cs) : ∃ a c, cs = rpCells 5 [] 0 (.slice a l.length c) := by
 simp only [rStrs, rList, RpAt] at h
 obtain ⟨v, xs, h1, ⟨a, c, rfl, -⟩, -⟩ := h
 exact ⟨a, c, by rw [h1, List.length_map]⟩
theorem vmNil (B : Base) : VM B [] [] := trivial
theorem all0 {p : List UInt8 → Prop} : ∀ x ∈ ([] : List (List UInt8)), p x := fun _ h => by cases h
theorem all1 {p : List UInt8 → Prop} {a : List UInt8} {l : List (List UInt8)} (h : p a) (t : ∀ x ∈ l, p x) : ∀ x ∈ a :: l, p x := fun x hx => (List.mem_cons.1 hx).elim (fun e => e ▸ h) (t x)
end Go.Proofs.YtmhdpjifhfoabaaGreatDoor
