/- pentimentoref20: Great, Ints, Page. -/
import Derived.Test.YtanfkicimnfgjaaGreatDoorVwPagB
import Derived.Test.YtanfkicimnfgjaaGreatDoorVwPagE
import Derived.Test.YtanfkicimnfgjaaGreatDoorVwPagF
import Derived.Test.YtanfkicimnfgjaaGreatDoorRows
import Derived.Test.YtanfkicimnfgjaaGreatDoorVwPagD
import Derived.Test.YtanfkicimnfgjaaGreatDoorVwPagA
import Derived.Laws.Strings2
import Derived.Laws.IdiomStrings
import Derived.Laws.StructEq
set_option maxRecDepth 100000
set_option maxHeartbeats 16000000
set_option synthInstance.maxSize 4096
set_option synthInstance.maxHeartbeats 400000
namespace Go.Proofs.YtanfkicimnfgjaaGreatDoor
open Go.RowKit Go.Pm
theorem rd_bytes9 {B : Base} {H : List Res} {a : Option Addr} {l : List UInt8} {w : World} (hr : RdV B [] a (l.map B8)) (hv : Pm.Inv B H w) : Bytes w (fun _ => True) a l := fun i hi => by
 obtain ⟨b, off, h1, h2⟩ := (hr.more (Base.Le.refl _) (fun r h => by cases h)).cellAt hv i (by simpa using hi)
 exact ⟨b, off, h1, trivial, by simpa using h2⟩
def greatC (c : UInt8) : UInt8 := if 97 ≤ c.toNat ∧ c.toNat ≤ 122 then UInt8.ofNat (c.toNat - 32) else c
def greatL (s : List UInt8) : List UInt8 := s.map greatC
theorem greatC_nat (c : UInt8) : ((greatC c).toNat : Int) = if 97 ≤ c.toNat ∧ c.toNat ≤ 122 then (c.toNat : Int) - 32 else (c.toNat : Int) := by
 unfold greatC; split
 ·rename_i h; rw [UInt8.toNat_ofNat', Nat.mod_eq_of_lt (by omega)]; omega
 rfl
theorem great_low {c w : UInt8} (h : 65 ≤ w.toNat ∧ w.toNat ≤ 90) : greatC c = w ↔ lowZ (w.toNat : Int) = lowZ (c.toNat : Int) := by
 have h1 := greatC_nat c
 have h2 : greatC c = w ↔ ((greatC c).toNat : Int) = (w.toNat : Int) := ⟨fun e => by rw [e], fun e => UInt8.toNat_inj.1 (by omega)⟩
 rw [h2, h1]
 unfold lowZ
 have := UInt8.toNat_lt c
 split <;> split <;> split <;> omega
theorem great_same {s w : List UInt8} (h : ∀ c ∈ w, 65 ≤ c.toNat ∧ c.toNat ≤ 90) : greatL s = w ↔ SameC w s := by
 constructor
 ·rintro rfl
  refine ⟨by simp [greatL], fun k a b ha hb => ?_⟩
  have e : greatC b = a := by
   unfold greatL at ha
   rw [List.getElem?_map, hb] at ha
   exact Option.some.inj ha
  exact (great_low (h a (List.mem_of_getElem? ha))).1 e
 rintro ⟨h1, h2⟩
 apply List.ext_getElem
 ·simp [greatL, h1]
 intro k hk1 hk2
 have hk : k < s.length := by omega
 have := h2 k w[k] s[k] (List.getElem?_eq_getElem hk2) (List.getElem?_eq_getElem hk)
 have e := (great_low (h _ (List.getElem_mem hk2))).2 this
 simp [greatL, e]
theorem great_M {s : List UInt8} : greatL s = wMATCH ↔ SameC wMATCH s := great_same (by decide)
theorem great_C {s : List UInt8} : greatL s = wCOUNT ↔ SameC wCOUNT s := great_same (by decide)
theorem great_snoc {s : List UInt8} {i : Nat} {y : UInt8} (h : s[i]? = some y) : greatL (s.take (i + 1)) = greatL (s.take i) ++ [greatC y] := by
 obtain ⟨hi, rfl⟩ := List.getElem?_eq_some_iff.1 h
 unfold greatL
 rw [List.take_succ_eq_append_getElem hi, List.map_append]; rfl
theorem rpmk5 : (Tryz.prog.info? 5).map (fun i => (i.zero, i.size, i.bytes)) = some (some (.int .u8 0), 1, 1) := by kernel_rfl
theorem rpel81 : Elem Tryz.prog 81 5 (.int .u8 0) 1 1 := elem_of Tryz.underlying81 rpmk5 (by rfl) (by decide)
theorem refGreat (B : Base) (H : List Res) (w : World) (s : List UInt8) (hs : s.length ≤ 1000000) (hv : Inv B H w) :
  Calls Tryz.prog 15 #[vS s] w fun e w' => e = .returned (vS (greatL s)) ∧ Inv B H w' := by
 refine cW Tryz.func15 rfl Tryz.ntmps15 ?_
 simp only [al]
 refine sK fun _ k1 => rL (uA rfl ?_)
 refine uW k1 (sK fun _ k2 => ?_)
 refine rL (uA rfl ?_)
 refine uW k2 (sK fun _ k3 => ?_)
 refine sK fun _ k4 => rL (uA rfl ?_)
 refine uW k4 (bB ?_)
 gi_loopw [3, 4] (fun x3 x4 wr => ∃ (i : Nat) (ra : Option Addr) (rc : Nat), x3 = .slice ra i rc ∧ x4 = vI i ∧ i ≤ s.length ∧ Inv B (Res.row 5 1 (.slice ra i rc) i ((greatL (s.take i)).map B8) :: H) wr) (fun x3 x4 _ => s.length - (intOf x4).toNat)
 case atStart => exact ⟨0, none, 0, rfl, rfl, Nat.zero_le _, hv.rowNil 5 1⟩
 case round =>
  obtain ⟨i, ra, rc, rfl, rfl, hi, hv⟩ := hrel
  refine sK fun _ k6 => sK fun _ k7 => rL (uM rfl ?_)
  refine uM rfl ?_
  refine uG (vI (s.length : Int)) rfl (ex_lenStr Tryz.underlying9 rfl rfl) ?_
  by_cases hb8 : (i : Int) < (s.length : Int)
  ·refine uG (.bool true) rfl (ex_lss rfl rfl rfl (qT hb8)) (uW k7 ?_)
   refine cT rfl (kS ?_)
   refine tK k6 (sK fun _ k9 => ?_)
   refine bB (sK fun _ k10 => ?_)
   refine rL (uM rfl ?_)
   refine uM rfl ?_
   obtain ⟨y11, hy11⟩ : ∃ y, s[i]? = some y := ⟨_, List.getElem?_eq_getElem (show i < s.length by omega)⟩
   refine uG (.int .u8 (y11.toNat : Int)) rfl (ex_sidx0 Tryz.underlying9 rfl rfl rfl hy11) (uA rfl ?_)
   refine uW k10 (sK fun _ k12 => ?_)
   refine sK fun _ k13 => rL (uM rfl ?_)
   by_cases hb14 : (y11.toNat : Int) ≥ 97
   ·refine uG (.bool true) rfl (ex_geq rfl rfl rfl (qT hb14)) (uM rfl ?_)
    refine uM rfl ?_
    by_cases hb15 : (y11.toNat : Int) ≤ 122
    ·refine uG (.bool true) rfl (ex_leq rfl rfl rfl (qT hb15)) (uK rfl ?_)
     refine uW k13 (cT rfl ?_)
     refine rL (uM rfl ?_)
     refine uG (.int .u8 ((y11.toNat : Int) - 32)) rfl (ex_sub rfl rfl rfl (by rw [u8_in (by omega)])) (uA rfl ?_)
     refine uW k12 ?_
     have hgc : Value.int .u8 ((y11.toNat : Int) - 32) = B8 (greatC y11) := congrArg (Value.int .u8) (by rw [greatC_nat, if_pos (by omega)])
     rw [hgc]
     refine rL (uM rfl ?_)
     refine uM rfl ?_
     refine sl_rowOne (v := B8 (greatC y11)) tV (wn rfl) rfl rfl hv rpel81 rfl (fun b16 w17 hv => ?_)
     simp only [zP, po]
     replace hv := hv.front 1 rfl
     simp only [eS, eZ] at hv
     refine sl_append (news := [B8 (greatC y11)]) tV (wn rfl) rfl rfl rfl rpel81 hv (ok_full (by omega)) rfl (rd_all (hv.get 1 rfl)) (by intro u hu; simp only [List.mem_cons, List.not_mem_nil, or_false] at hu; rcases hu with rfl <;> rfl) (by unfold maxLen; omega) (by omega) (fun rv18 w21 hv => ?_)
     obtain ⟨ra19, rc20, rfl⟩ := row_slice hv.head
     refine uA rfl (uZ ?_)
     refine bN (tK k9 ?_)
     refine rL (uM rfl ?_)
     refine uG (vI ((i + 1 : Nat) : Int)) rfl (ex_add rfl rfl rfl (by rw [i64_in (by omega)]; omega)) (uA rfl ?_)
     refine uZ (then_normal ?_)
     go_roundw
     case rel => exact ⟨i + 1, _, _, rfl, rfl, by omega, by rw [great_snoc hy11, List.map_append]; exact (hv.kp [] 1 1)⟩
     case measure => show s.length - (((i + 1 : Nat) : Int)).toNat < s.length - ((i : Int)).toNat; omega
    refine uG (.bool false) rfl (ex_leq rfl rfl rfl (qF hb15)) (uK rfl ?_)
    refine uW k13 (cF rfl ?_)
    refine kS (tK k12 ?_)
    have hgc : Value.int .u8 (y11.toNat : Int) = B8 (greatC y11) := congrArg (Value.int .u8) (by rw [greatC_nat, if_neg (by omega)])
    rw [hgc]
    refine rL (uM rfl ?_)
    refine uM rfl ?_
    refine sl_rowOne (v := B8 (greatC y11)) tV (wn rfl) rfl rfl hv rpel81 rfl (fun b22 w23 hv => ?_)
    simp only [zP, po]
    replace hv := hv.front 1 rfl
    simp only [eS, eZ] at hv
    refine sl_append (news := [B8 (greatC y11)]) tV (wn rfl) rfl rfl rfl rpel81 hv (ok_full (by omega)) rfl (rd_all (hv.get 1 rfl)) (by intro u hu; simp only [List.mem_cons, List.not_mem_nil, or_false] at hu; rcases hu with rfl <;> rfl) (by unfold maxLen; omega) (by omega) (fun rv24 w27 hv => ?_)
    obtain ⟨ra25, rc26, rfl⟩ := row_slice hv.head
    refine uA rfl (uZ ?_)
    refine bN (tK k9 ?_)
    refine rL (uM rfl ?_)
    refine uG (vI ((i + 1 : Nat) : Int)) rfl (ex_add rfl rfl rfl (by rw [i64_in (by omega)]; omega)) (uA rfl ?_)
    refine uZ (then_normal ?_)
    go_roundw
    case rel => exact ⟨i + 1, _, _, rfl, rfl, by omega, by rw [great_snoc hy11, List.map_append]; exact (hv.kp [] 1 1)⟩
    case measure => show s.length - (((i + 1 : Nat) : Int)).toNat < s.length - ((i : Int)).toNat; omega
   refine uG (.bool false) rfl (ex_geq rfl rfl rfl (qF hb14)) (uM rfl ?_)
   refine uP rfl ?_
   refine uP rfl (uK rfl ?_)
   refine uW k13 (cF rfl ?_)
   refine kS (tK k12 ?_)
   have hgc : Value.int .u8 (y11.toNat : Int) = B8 (greatC y11) := congrArg (Value.int .u8) (by rw [greatC_nat, if_neg (by omega)])
   rw [hgc]
   refine rL (uM rfl ?_)
   refine uM rfl ?_
   refine sl_rowOne (v := B8 (greatC y11)) tV (wn rfl) rfl rfl hv rpel81 rfl (fun b28 w29 hv => ?_)
   simp only [zP, po]
   replace hv := hv.front 1 rfl
   simp only [eS, eZ] at hv
   refine sl_append (news := [B8 (greatC y11)]) tV (wn rfl) rfl rfl rfl rpel81 hv (ok_full (by omega)) rfl (rd_all (hv.get 1 rfl)) (by intro u hu; simp only [List.mem_cons, List.not_mem_nil, or_false] at hu; rcases hu with rfl <;> rfl) (by unfold maxLen; omega) (by omega) (fun rv30 w33 hv => ?_)
   obtain ⟨ra31, rc32, rfl⟩ := row_slice hv.head
   refine uA rfl (uZ ?_)
   refine bN (tK k9 ?_)
   refine rL (uM rfl ?_)
   refine uG (vI ((i + 1 : Nat) : Int)) rfl (ex_add rfl rfl rfl (by rw [i64_in (by omega)]; omega)) (uA rfl ?_)
   refine uZ (then_normal ?_)
   go_roundw
   case rel => exact ⟨i + 1, _, _, rfl, rfl, by omega, by rw [great_snoc hy11, List.map_append]; exact (hv.kp [] 1 1)⟩
   case measure => show s.length - (((i + 1 : Nat) : Int)).toNat < s.length - ((i : Int)).toNat; omega
  refine uG (.bool false) rfl (ex_lss rfl rfl rfl (qF hb8)) (uW k7 ?_)
  refine cF rfl (xE ?_)
  refine tX (tX ?_)
  refine bH (tK k3 ?_)
  refine sK fun _ k34 => ?_
  obtain rfl : i = s.length := by omega
  obtain ⟨D, hD, hv, hro, hoko, -⟩ := hv.rowBy
  rw [List.take_length] at hro
  refine rL (uM rfl ?_)
  refine uG (vS (greatL s)) rfl (ex_str Tryz.underlying81 Tryz.underlying5 Tryz.underlying9 rfl rfl (rd_bytes9 hro hv) ((by simp [greatL]))) (uA rfl ?_)
  refine uW k34 (rR ?_)
  refine bR rfl rfl (⟨rfl, hv.weak hD⟩)
theorem ints_snoc {ts : List (List UInt8)} {ns : List Int} {i : Nat} {x : List UInt8} {n : Int} (hall : ∀ (j : Nat) t n, ts[j]? = some t → ns[j]? = some n → NumP t n true) (hnl : ns.length = i) (hx : ts[i]? = some x) (hnp : NumP x n true) : ∀ (j : Nat) t m, ts[j]? = some t → (ns ++ [n])[j]? = some m → NumP t m true := fun j t' n' ht' hn' => by
 rcases Nat.lt_or_ge j ns.length with h | h
 ·rw [List.getElem?_append_left h] at hn'; exact hall j t' n' ht' hn'
 have hj := (List.getElem?_eq_some_iff.1 hn').1
 rw [List.length_append, List.length_singleton] at hj
 obtain rfl : j = ns.length := by omega
 rw [List.getElem?_append_right (Nat.le_refl _), Nat.sub_self] at hn'
 rw [hnl, hx] at ht'
 cases ht'; cases hn'; exact hnp
theorem rpcallable30 : Callable Tryz.prog 30 := cb Tryz.func30 (by kernel_rfl)
theorem rpmk3 : (Tryz.prog.info? 3).map (fun i => (i.zero, i.size, i.bytes)) = some (some (vI 0), 1, 8) := by kernel_rfl
theorem rpel53 : Elem Tryz.prog 53 3 (vI 0) 1 8 := elem_of Tryz.underlying53 rpmk3 (by rfl) (by decide)
theorem refInts20 (B : Base) (H : List Res) (w : World) (ta : Option Addr) (tc : Nat) (ts : List (List UInt8)) (hr : RdV B [] ta (textCells ts)) (hm : ts.length ≤ 1000000) (hxl : ∀ x ∈ ts, x.length ≤ 1000000) (hv : Inv B H w) :
  Calls Tryz.prog 16 #[.slice ta ts.length tc] w fun e w' => ∃ C oa oc ns b, B.Le C ∧ e = .returned (.tuple #[.slice oa ns.length oc, .bool b]) ∧ RdV C [] oa (intCells ns) ∧ IntsR ts ns (if b = true then 0 else 41) ∧ Inv C H w' := by
 refine cW Tryz.func16 rfl Tryz.ntmps16 ?_
 simp only [al]
 refine sK fun _ k1 => rL (uA rfl ?_)
 refine uA rfl (uW k1 ?_)
 refine sK fun _ k2 => rL (uA rfl ?_)
 refine uW k2 (sK fun _ k3 => ?_)
 refine sK fun _ k4 => rL (uA rfl ?_)
 refine uW k4 (bB ?_)
 gi_loopw [4, 5] (fun x4 x5 wr => ∃ (i : Nat) (ns : List Int) (ra : Option Addr) (rc : Nat), x4 = .slice ra ns.length rc ∧ x5 = vI i ∧ i ≤ ts.length ∧ ns.length = i ∧ (∀ (j : Nat) t n, ts[j]? = some t → ns[j]? = some n → NumP t n true) ∧ Inv B (Res.row 3 1 (.slice ra ns.length rc) ns.length (intCells ns) :: H) wr) (fun x4 x5 _ => ts.length - (intOf x5).toNat)
 case atStart => exact ⟨0, [], none, 0, rfl, rfl, Nat.zero_le _, rfl, fun j t n _ h => by simp at h, hv.rowNil 3 1⟩
 case round =>
  obtain ⟨i, ns, ra, rc, rfl, rfl, hi, hnl, hall, hv⟩ := hrel
  refine sK fun _ k6 => sK fun _ k7 => rL (uM rfl ?_)
  refine uM rfl ?_
  refine uG (vI (ts.length : Int)) rfl (ex_len0 Tryz.underlying22 rfl rfl) ?_
  by_cases hb8 : (i : Int) < (ts.length : Int)
  ·refine uG (.bool true) rfl (ex_lss rfl rfl rfl (qT hb8)) (uW k7 ?_)
   refine cT rfl (kS ?_)
   refine tK k6 (sK fun _ k9 => ?_)
   refine bB (sK fun _ k10 => ?_)
   obtain ⟨x, hx⟩ : ∃ x, ts[i]? = some x := ⟨_, List.getElem?_eq_getElem (show i < ts.length by omega)⟩
   obtain ⟨bb, bo, had, hrdx⟩ := text_reads hr hx
   subst had
   refine rL (uM rfl ?_)
   refine uM rfl ?_
   refine uG (.pointer (some ⟨bb, bo + i, none⟩)) rfl (ex_index rfl rfl rfl (run_idx1 (k := i) Tryz.underlying22 s9es22 (by omega))) ?_
   refine uL _ rfl (run_load1 s9na9 (hrdx _ _ _ (Base.Le.refl _) no_res hv 0 _ rfl)) ?_
   refine xC rpcallable30 rfl ((refParse B _ _ x (hxl x (List.mem_of_getElem? hx)) hv).mono ?_) rfl
   rintro e w11 ⟨n, b, rfl, hnp, hv⟩
   refine ⟨_, rfl, ?_⟩
   cases b
   ·refine uM rfl (uE rfl ?_)
    refine uE rfl (uA rfl ?_)
    refine uA rfl (uW k10 ?_)
    refine sK fun _ k12 => sK fun _ k13 => rL (uM rfl ?_)
    refine uG (.bool true) rfl (ex_not rfl rfl rfl) (uW k13 ?_)
    refine cT rfl (sK fun _ k14 => ?_)
    refine rL (uA rfl ?_)
    refine uA rfl (uW k14 ?_)
    refine rR (tR ?_)
    refine bZ (tR ?_)
    refine tR (bZ ?_)
    refine tR (bodyPost_ret (results_tmp2 rfl _ _ _) rfl ?_)
    obtain rfl : n = 0 := hnp.elim (fun h => absurd h.1 (by decide)) (fun h => h.2.1)
    exact ⟨B, none, 0, [], false, Base.Le.refl _, rfl, rdV_nil, .inr ⟨rfl, rfl, x, List.mem_of_getElem? hx, hnp⟩, (hv.kp [] 0 1)⟩
   refine uM rfl (uE rfl ?_)
   refine uE rfl (uA rfl ?_)
   refine uA rfl (uW k10 ?_)
   refine sK fun _ k15 => sK fun _ k16 => rL (uM rfl ?_)
   refine uG (.bool false) rfl (ex_not rfl rfl rfl) (uW k16 ?_)
   refine cF rfl (kS ?_)
   refine tK k15 (rL ?_)
   refine uM rfl (uM rfl ?_)
   refine sl_rowOne (v := vI n) tV (wn rfl) rfl rfl hv rpel53 rfl (fun b17 w18 hv => ?_)
   simp only [zP, po]
   replace hv := hv.front 1 rfl
   simp only [eS, eZ] at hv
   refine sl_append (news := [vI n]) tV (wn rfl) rfl rfl rfl rpel53 hv (ok_full (by omega)) rfl (rd_all (hv.get 1 rfl)) (by intro u hu; simp only [List.mem_cons, List.not_mem_nil, or_false] at hu; rcases hu with rfl <;> rfl) (by unfold maxLen; omega) (by omega) (fun rv19 w22 hv => ?_)
   obtain ⟨ra20, rc21, rfl⟩ := row_slice hv.head
   refine uA rfl (uZ ?_)
   refine bN (tK k9 ?_)
   refine rL (uM rfl ?_)
   refine uG (vI ((i + 1 : Nat) : Int)) rfl (ex_add rfl rfl rfl (by rw [i64_in (by omega)]; omega)) (uA rfl ?_)
   refine uZ (then_normal ?_)
   go_roundw
   case rel => exact ⟨i + 1, ns ++ [n], _, _, by rw [List.length_append, List.length_singleton], rfl, by omega, by rw [List.length_append, List.length_singleton, hnl], ints_snoc hall hnl hx hnp, by rw [List.length_append, List.length_singleton, ← int_snoc]; exact (hv.kp [] 1 1)⟩
   case measure => show ts.length - (((i + 1 : Nat) : Int)).toNat < ts.length - ((i : Int)).toNat; omega
  refine uG (.bool false) rfl (ex_lss rfl rfl rfl (qF hb8)) (uW k7 ?_)
  refine cF rfl (xE ?_)
  refine tX (tX ?_)
  refine bH (tK k3 ?_)
  refine sK fun _ k23 => rL (uM rfl ?_)
  refine uA rfl (uA rfl ?_)
  refine uW k23 (rR ?_)
  refine bodyPost_ret (results_tmp2 rfl _ _ _) rfl ?_
  obtain rfl : i = ts.length := by omega
  obtain ⟨D, hD, hv, hro, hoko, -⟩ := (hv).rowBy
  exact ⟨D, ra, rc, ns, true, hD, rfl, hro, .inl ⟨rfl, hnl, hall⟩, hv⟩
theorem OptTo.det {args : List (List UInt8)} {i : Nat} {t0 t1 : List UInt8} {b0 b1 : Bool} (h : OptTo args i t0 t1 b0 b1) : ∀ {u0 u1 : List UInt8} {c0 c1 : Bool}, OptTo args i u0 u1 c0 c1 → t0 = u0 ∧ t1 = u1 ∧ b0 = c0 ∧ b1 = c1 := by
 induction h with
 | zero => intro u0 u1 c0 c1 h2; cases h2; exact ⟨rfl, rfl, rfl, rfl⟩
 | m h1 ha hv hs ih =>
  intro u0 u1 c0 c1 h2
  cases h2 with
  | m k1 ka kv ks =>
   obtain ⟨e1, e2, e3, e4⟩ := ih k1
   rw [hv] at kv; cases kv
   exact ⟨rfl, e2, rfl, e4⟩
  | c k1 ka kv ks ks2 => rw [ha] at ka; cases ka; exact absurd hs ks
 | c h1 ha hv hs hs2 ih =>
  intro u0 u1 c0 c1 h2
  cases h2 with
  | m k1 ka kv ks => rw [ha] at ka; cases ka; exact absurd ks hs
  | c k1 ka kv ks ks2 =>
   obtain ⟨e1, e2, e3, e4⟩ := ih k1
   rw [hv] at kv; cases kv
   exact ⟨e1, rfl, e3, rfl⟩
theorem OptTo.good {args : List (List UInt8)} {n : Nat} {t0 t1 : List UInt8} {b0 b1 : Bool} (h : OptTo args n t0 t1 b0 b1) : ∀ {i : Nat} {u0 u1 : List UInt8} {c0 c1 : Bool} {a : List UInt8}, OptTo args i u0 u1 c0 c1 → i < n → args[i]? = some a → (SameC wMATCH a ∧ c0 = false) ∨ (¬ SameC wMATCH a ∧ SameC wCOUNT a ∧ c1 = false) := by
 induction h with
 | zero => intro i u0 u1 c0 c1 a h2 hi; omega
 | @m i0 t0 t1 a0 v b1 h1 ha hv hs ih =>
  intro i u0 u1 c0 c1 a h2 hi hx
  have e1 := optTo_even h1
  have e2 := optTo_even h2
  by_cases hlt : i < i0
  ·exact ih h2 hlt hx
  obtain rfl : i = i0 := by omega
  obtain ⟨-, -, rfl, -⟩ := h1.det h2
  rw [ha] at hx; cases hx; exact .inl ⟨hs, rfl⟩
 | @c i0 t0 t1 a0 v b0 h1 ha hv hs hs2 ih =>
  intro i u0 u1 c0 c1 a h2 hi hx
  have e1 := optTo_even h1
  have e2 := optTo_even h2
  by_cases hlt : i < i0
  ·exact ih h2 hlt hx
  obtain rfl : i = i0 := by omega
  obtain ⟨-, -, -, rfl⟩ := h1.det h2
  rw [ha] at hx; cases hx; exact .inr ⟨hs, hs2, rfl⟩
theorem opt_no {args : List (List UInt8)} {t0 t1 : List UInt8} {b0 b1 : Bool} (hb : OptBad args) (he : args.length % 2 = 0) (h : OptTo args args.length t0 t1 b0 b1) : False := by
 rcases hb with hb | ⟨i, u0, u1, c0, c1, a, h2, hx, hw⟩
 ·exact hb he
 have hi := (List.getElem?_eq_some_iff.1 hx).1
 rcases h.good h2 hi hx with ⟨k1, k2⟩ | ⟨k1, k2, k3⟩ <;> rcases hw with ⟨w1, w2⟩ | ⟨w1, w2⟩ | ⟨w1, w2, w3⟩
 ·exact w1 k1
 ·rw [k2] at w2; cases w2
 ·exact w1 k1
 ·exact w2 k2
 ·exact k1 w1
 rw [k3] at w3; cases w3
theorem optR_full {args : List (List UInt8)} {t0 t1 : List UInt8} {b0 b1 : Bool} (h : OptR args t0 t1 b0 b1 0) : args.length % 2 = 0 ∧ OptTo args args.length t0 t1 b0 b1 := by
 rcases h with ⟨h, -⟩ | ⟨-, h⟩
 ·exact absurd h (by decide)
 exact h
theorem PageR.uniq {n fr to nx ec fr' to' nx' ec' : Int} {args : List (List UInt8)} {mt mt' : List UInt8} (h : PageR n args fr to nx mt ec) (h2 : PageR n args fr' to' nx' mt' ec') : ec = ec' ∧ (ec = 0 → fr = fr' ∧ to = to' ∧ nx = nx' ∧ mt = mt') := by
 rcases h with ⟨e, ha⟩ | ⟨a0, rest, ha, h⟩ <;> rcases h2 with ⟨e2, hb⟩ | ⟨c0, rest2, hb, h2⟩
 ·exact ⟨by omega, fun h => by omega⟩
 ·rw [ha] at hb; cases hb
 ·rw [ha] at hb; cases hb
 rw [ha] at hb; cases hb
 rcases h with ⟨e, h⟩ | ⟨t0, t1, b0, b1, ho, h⟩ <;> rcases h2 with ⟨e2, h2⟩ | ⟨u0, u1, d0, d1, ho2, h2⟩
 ·exact ⟨by omega, fun h => by omega⟩
 ·exact (opt_no h (optR_full ho2).1 (optR_full ho2).2).elim
 ·exact (opt_no h2 (optR_full ho).1 (optR_full ho).2).elim
 obtain ⟨rfl, rfl, rfl, rfl⟩ := (optR_full ho).2.det (optR_full ho2).2
 rcases h with ⟨e, h⟩ | ⟨k, c, hk, hc, h⟩ <;> rcases h2 with ⟨e2, h2⟩ | ⟨k2, c2, hk2, hc2, h2⟩
 ·exact ⟨by omega, fun h => by omega⟩
 ·rcases h with h | h
  ·exact absurd (hk2.uniq h).2 (by decide)
  exact absurd (hc2.uniq h).2 (by decide)
 ·rcases h2 with h | h
  ·exact absurd (hk.uniq h).2 (by decide)
  exact absurd (hc.uniq h).2 (by decide)
 obtain ⟨rfl, -⟩ := hk.uniq hk2
 obtain ⟨rfl, -⟩ := hc.uniq hc2
 rcases h with ⟨e, h⟩ | ⟨e, h0, h1, q1, q2, q3, q4⟩ <;> rcases h2 with ⟨e2, h2⟩ | ⟨e2, k0, k1, r1, r2, r3, r4⟩
 ·exact ⟨by omega, fun h => by omega⟩
 ·omega
 ·omega
 subst q2; subst r2; subst q3; subst r3; subst q4; subst r4; subst q1; subst r1
 exact ⟨by omega, fun _ => ⟨rfl, rfl, rfl, rfl⟩⟩
theorem two_len {a b : List UInt8} {k : Nat} (h : a.length ≤ k) (h2 : b.length ≤ k) : ∀ x ∈ [a, b], x.length ≤ k := fun x hx => by
 rcases List.mem_cons.1 hx with rfl | hx
 ·exact h
 rw [List.mem_singleton.1 hx]; exact h2
theorem cnt_len {args : List (List UInt8)} {i : Nat} {t0 t1 : List UInt8} {b0 b1 : Bool} (h : OptTo args i t0 t1 b0 b1) (hl : ∀ x ∈ args, x.length ≤ 1000000) : (cntOf t1 b1).length ≤ 1000000 := by
 induction h with
 | zero => simp [cntOf]
 | m _ _ _ _ ih => exact ih
 | c _ _ hv _ _ _ => exact hl _ (List.mem_of_getElem? hv)
theorem rpal29 : AL Tryz.prog 29 [vI 0, vI 0, vI 0] := fun w => by kernel_rfl
theorem rpsz29 : (Tryz.prog.info? 29).map (·.size) = some 3 := by kernel_rfl
theorem rpwd29 : Wide Tryz.prog 29 3 := wide_of (fun w => by kernel_rfl) (by kernel_rfl)
theorem rpcallable15 : Callable Tryz.prog 15 := cb Tryz.func15 (by kernel_rfl)
theorem rpcallable16 : Callable Tryz.prog 16 := cb Tryz.func16 (by kernel_rfl)
theorem refPage (B : Base) (H : List Res) (w : World) (n : Nat) (hn : n ≤ 1000000) (aa : Option Addr) (ac : Nat) (args : List (List UInt8)) (hra : RdV B [] aa (textCells args)) (hma : args.length ≤ 10000) (hxl : ∀ x ∈ args, x.length ≤ 10000) (hv : Inv B H w) :
  Calls Tryz.prog 6 #[vI n, .slice aa args.length ac] w fun e w' => ∃ fr to nx mt ec, e = .returned (.tuple #[.agg #[vI fr, vI to, vI nx], vS mt, vI ec]) ∧ PageR (n : Int) args fr to nx mt ec ∧ Inv B H w' := by
 refine cW Tryz.func6 rfl Tryz.ntmps6 ?_
 simp only [al]
 refine sK fun _ k1 => rL (sl_alloc tV (wn rfl) rfl hv rpal29 (fun b2 w3 hv => ?_))
 refine uA rfl (uA rfl ?_)
 refine uW k1 (sK fun _ k4 => ?_)
 refine sK fun _ k5 => rL (uM rfl ?_)
 refine uG (vI (args.length : Int)) rfl (ex_len0 Tryz.underlying22 rfl rfl) ?_
 by_cases hb6 : (args.length : Int) = 0
 ·refine uG (.bool true) rfl (ex_eql rfl rfl rfl (qT hb6)) (uW k5 ?_)
  refine cT rfl (sK fun _ k7 => ?_)
  refine rL (uG (.agg #[vI 0, vI 0, vI 0]) rfl (ex_buildN (vs := #[]) rfl (by simp only [List.map_toArray, List.map_nil]) (by kernel_rfl)) ?_)
  refine xS 0 rfl hv rpsz29 rfl (by exact ⟨rfl, rfl, rfl, trivial⟩) (fun w8 hv => ?_)
  simp only [zO, sp] at hv
  refine uA rfl (uA rfl ?_)
  refine uW k7 (rR ?_)
  refine tR (bodyPost_ret (res_cell3 rfl rfl (lM 0 rpwd29 hv rfl rfl rfl rfl)) rfl ?_)
  exact ⟨0, 0, 0, [], 43, rfl, .inl ⟨rfl, List.eq_nil_of_length_eq_zero (by omega)⟩, ((hv.kp [] 0 1)).weak (Base.Le.refl _)⟩
 refine uG (.bool false) rfl (ex_eql rfl rfl rfl (qF hb6)) (uW k5 ?_)
 refine cF rfl (kS ?_)
 refine tK k4 (sK fun _ k9 => ?_)
 obtain ⟨a0, rest, hargs⟩ : ∃ a l, args = a :: l := by cases args with | nil => simp at * | cons a l => exact ⟨a, l, rfl⟩
 have hal : args.length = rest.length + 1 := by rw [hargs]; rfl
 refine rL (uA rfl ?_)
 refine uA rfl (uW k9 ?_)
 refine sK fun _ k10 => rL (uA rfl ?_)
 refine uA rfl (uW k10 ?_)
 refine sK fun _ k11 => sK fun _ k12 => rL (uA rfl ?_)
 refine uW k12 (bB ?_)
 gi_loopw [7, 8, 9, 10, 11] (fun x7 x8 x9 x10 x11 wr => ∃ (i : Nat) (u0 u1 mt ct : List UInt8) (b0 b1 : Bool), x7 = vS mt ∧ x8 = vS ct ∧ x9 = .bool b0 ∧ x10 = .bool b1 ∧ x11 = vI ((i + 1 : Nat) : Int) ∧ i ≤ rest.length ∧ OptTo rest i u0 u1 b0 b1 ∧ mt = (if b0 = true then u0 else [42]) ∧ cntOf u1 b1 = ct ∧ Inv B (Res.cell b2 [vI 0, vI 0, vI 0] 29 :: H) wr) (fun x7 x8 x9 x10 x11 _ => rest.length + 1 - (intOf x11).toNat)
 case atStart => exact ⟨0, [], [], _, _, false, false, rfl, rfl, rfl, rfl, rfl, Nat.zero_le _, .zero, rfl, rfl, hv⟩
 case round =>
  obtain ⟨i, u0, u1, mt, ct, b0, b1, rfl, rfl, rfl, rfl, rfl, hi, hot, hmt, hct, hv⟩ := hrel
  have hev : i % 2 = 0 := optTo_even hot
  refine sK fun _ k14 => sK fun _ k15 => rL (uM rfl ?_)
  refine uM rfl ?_
  refine uG (vI (args.length : Int)) rfl (ex_len0 Tryz.underlying22 rfl rfl) ?_
  by_cases hb16 : ((i + 1 : Nat) : Int) < (args.length : Int)
  ·refine uG (.bool true) rfl (ex_lss rfl rfl rfl (qT hb16)) (uW k15 ?_)
   refine cT rfl (kS ?_)
   refine tK k14 (sK fun _ k17 => ?_)
   refine bB (sK fun _ k18 => ?_)
   obtain ⟨x, hx⟩ : ∃ x, args[(i + 1 : Nat)]? = some x := ⟨_, List.getElem?_eq_getElem (show (i + 1 : Nat) < args.length by omega)⟩
   obtain ⟨ab, ao, had, hrdx⟩ := text_reads hra hx
   subst had
   have hxr : rest[i]? = some x := by have h9 := hx; rw [hargs] at h9; exact h9
   refine rL (uM rfl ?_)
   refine uM rfl ?_
   refine uG (.pointer (some ⟨ab, ao + (i + 1 : Nat), none⟩)) rfl (ex_index rfl rfl rfl (run_idx1 (k := (i + 1 : Nat)) Tryz.underlying22 s9es22 (by omega))) ?_
   refine uL _ rfl (run_load1 s9na9 (hrdx _ _ _ (Base.Le.refl _) no_res hv 0 _ rfl)) ?_
   refine xC rpcallable15 rfl ((refGreat B _ _ x (by have := hxl x (List.mem_of_getElem? hx); omega) hv).mono ?_) rfl
   rintro e w19 ⟨rfl, hv⟩
   refine ⟨_, rfl, uA rfl ?_⟩
   refine uW k18 (sK fun _ k20 => ?_)
   refine rL (uM rfl ?_)
   refine uG (vI ((i + 2 : Nat) : Int)) rfl (ex_add rfl rfl rfl (by rw [i64_in (by omega)]; omega)) (uM rfl ?_)
   refine uG (vI (args.length : Int)) rfl (ex_len0 Tryz.underlying22 rfl rfl) ?_
   by_cases hb21 : ((i + 2 : Nat) : Int) < (args.length : Int)
   ·refine uG (.bool true) rfl (ex_lss rfl rfl rfl (qT hb21)) (uM rfl ?_)
    refine uM rfl ?_
    by_cases hb22 : (greatL x) = ([77, 65, 84, 67, 72] : List UInt8)
    ·refine uG (.bool true) rfl (ex_seql rfl rfl rfl (qT hb22)) (uK rfl ?_)
     refine uM rfl ?_
     refine uM rfl ?_
     refine uG (.bool (!b0)) rfl (ex_not rfl rfl rfl) (uK rfl ?_)
     refine uW k20 (wpIn_cond_split (t := !b0) rfl (fun hc23 => ?_) (fun hc23 => ?_))
     ·refine sK fun _ k24 => ?_
      obtain ⟨x2, hx2⟩ : ∃ x, args[(i + 2 : Nat)]? = some x := ⟨_, List.getElem?_eq_getElem (show (i + 2 : Nat) < args.length by omega)⟩
      obtain ⟨b9, o9, had9, hrdx2⟩ := text_reads hra hx2
      cases had9
      have hx2r : rest[i + 1]? = some x2 := by have h9 := hx2; rw [hargs] at h9; exact h9
      have hnb : b0 = false := by simpa using hc23
      refine rL (uM rfl ?_)
      refine uM rfl ?_
      refine uG (vI ((i + 2 : Nat) : Int)) rfl (ex_add rfl rfl rfl (by rw [i64_in (by omega)]; omega)) ?_
      refine uG (.pointer (some ⟨ab, ao + (i + 2 : Nat), none⟩)) rfl (ex_index rfl rfl rfl (run_idx1 (k := (i + 2 : Nat)) Tryz.underlying22 s9es22 (by omega))) ?_
      refine uL _ rfl (run_load1 s9na9 (hrdx2 _ _ _ (Base.Le.refl _) no_res hv 0 _ rfl)) (uA rfl ?_)
      refine uW k24 (rL ?_)
      refine uA rfl (uZ ?_)
      refine bN (tK k17 ?_)
      refine rL (uM rfl ?_)
      refine uG (vI ((i + 3 : Nat) : Int)) rfl (ex_add rfl rfl rfl (by rw [i64_in (by omega)]; omega)) (uA rfl ?_)
      refine uZ (then_normal ?_)
      go_roundw
      case rel => exact ⟨i + 2, x2, u1, x2, ct, true, b1, rfl, rfl, rfl, rfl, rfl, by omega, .m (by rw [hnb] at hot; exact hot) hxr hx2r (great_M.1 hb22), rfl, hct, hv⟩
      case measure => show rest.length + 1 - (((i + 3 : Nat) : Int)).toNat < rest.length + 1 - (((i + 1 : Nat) : Int)).toNat; omega
     refine sK fun _ k25 => rL (uM rfl ?_)
     refine uG (vI ((i + 2 : Nat) : Int)) rfl (ex_add rfl rfl rfl (by rw [i64_in (by omega)]; omega)) (uM rfl ?_)
     refine uG (vI (args.length : Int)) rfl (ex_len0 Tryz.underlying22 rfl rfl) ?_
     refine uG (.bool true) rfl (ex_lss rfl rfl rfl (qT hb21)) (uM rfl ?_)
     refine uM rfl ?_
     refine uG (.bool false) rfl (ex_seql rfl rfl rfl (qF (fun h9 => absurd (hb22.symm.trans h9) (by decide)))) (uK rfl ?_)
     refine uM rfl ?_
     refine uP rfl ?_
     refine uP rfl (uK rfl ?_)
     refine uW k25 (cF rfl ?_)
     refine sK fun _ k26 => ?_
     have hbad : OptBad rest := .inr ⟨i, u0, u1, b0, b1, x, hot, hxr, .inr (.inl ⟨great_M.1 hb22, by simpa using hc23⟩)⟩
     refine rL (uG (.agg #[vI 0, vI 0, vI 0]) rfl (ex_buildN (vs := #[]) rfl (by simp only [List.map_toArray, List.map_nil]) (by kernel_rfl)) ?_)
     refine xS 0 rfl hv rpsz29 rfl (by exact ⟨rfl, rfl, rfl, trivial⟩) (fun w27 hv => ?_)
     simp only [zO, sp] at hv
     refine uA rfl (uA rfl ?_)
     refine uW k26 (rR ?_)
     refine bZ (tR ?_)
     refine tR (bZ ?_)
     refine tR (bodyPost_ret (res_cell3 rfl rfl (lM 0 rpwd29 hv rfl rfl rfl rfl)) rfl ?_)
     exact ⟨0, 0, 0, [], 42, rfl, .inr ⟨a0, rest, hargs, .inl ⟨rfl, hbad⟩⟩, ((hv.kp [] 0 1)).weak (Base.Le.refl _)⟩
    refine uG (.bool false) rfl (ex_seql rfl rfl rfl (qF hb22)) (uK rfl ?_)
    refine uM rfl ?_
    refine uP rfl ?_
    refine uP rfl (uK rfl ?_)
    refine uW k20 (cF rfl ?_)
    refine sK fun _ k28 => rL (uM rfl ?_)
    refine uG (vI ((i + 2 : Nat) : Int)) rfl (ex_add rfl rfl rfl (by rw [i64_in (by omega)]; omega)) (uM rfl ?_)
    refine uG (vI (args.length : Int)) rfl (ex_len0 Tryz.underlying22 rfl rfl) ?_
    refine uG (.bool true) rfl (ex_lss rfl rfl rfl (qT hb21)) (uM rfl ?_)
    refine uM rfl ?_
    by_cases hb29 : (greatL x) = ([67, 79, 85, 78, 84] : List UInt8)
    ·refine uG (.bool true) rfl (ex_seql rfl rfl rfl (qT hb29)) (uK rfl ?_)
     refine uM rfl ?_
     refine uM rfl ?_
     refine uG (.bool (!b1)) rfl (ex_not rfl rfl rfl) (uK rfl ?_)
     refine uW k28 (wpIn_cond_split (t := !b1) rfl (fun hc30 => ?_) (fun hc30 => ?_))
     ·refine sK fun _ k31 => ?_
      obtain ⟨x2, hx2⟩ : ∃ x, args[(i + 2 : Nat)]? = some x := ⟨_, List.getElem?_eq_getElem (show (i + 2 : Nat) < args.length by omega)⟩
      obtain ⟨b9, o9, had9, hrdx2⟩ := text_reads hra hx2
      cases had9
      have hx2r : rest[i + 1]? = some x2 := by have h9 := hx2; rw [hargs] at h9; exact h9
      have hnb : b1 = false := by simpa using hc30
      refine rL (uM rfl ?_)
      refine uM rfl ?_
      refine uG (vI ((i + 2 : Nat) : Int)) rfl (ex_add rfl rfl rfl (by rw [i64_in (by omega)]; omega)) ?_
      refine uG (.pointer (some ⟨ab, ao + (i + 2 : Nat), none⟩)) rfl (ex_index rfl rfl rfl (run_idx1 (k := (i + 2 : Nat)) Tryz.underlying22 s9es22 (by omega))) ?_
      refine uL _ rfl (run_load1 s9na9 (hrdx2 _ _ _ (Base.Le.refl _) no_res hv 0 _ rfl)) (uA rfl ?_)
      refine uW k31 (rL ?_)
      refine uA rfl (uZ ?_)
      refine bN (tK k17 ?_)
      refine rL (uM rfl ?_)
      refine uG (vI ((i + 3 : Nat) : Int)) rfl (ex_add rfl rfl rfl (by rw [i64_in (by omega)]; omega)) (uA rfl ?_)
      refine uZ (then_normal ?_)
      go_roundw
      case rel => exact ⟨i + 2, u0, x2, mt, x2, b0, true, rfl, rfl, rfl, rfl, rfl, by omega, .c (by rw [hnb] at hot; exact hot) hxr hx2r (fun h9 => hb22 (great_M.2 h9)) (great_C.1 hb29), hmt, rfl, hv⟩
      case measure => show rest.length + 1 - (((i + 3 : Nat) : Int)).toNat < rest.length + 1 - (((i + 1 : Nat) : Int)).toNat; omega
     refine sK fun _ k32 => ?_
     have hbad : OptBad rest := .inr ⟨i, u0, u1, b0, b1, x, hot, hxr, .inr (.inr ⟨fun h9 => hb22 (great_M.2 h9), great_C.1 hb29, by simpa using hc30⟩)⟩
     refine rL (uG (.agg #[vI 0, vI 0, vI 0]) rfl (ex_buildN (vs := #[]) rfl (by simp only [List.map_toArray, List.map_nil]) (by kernel_rfl)) ?_)
     refine xS 0 rfl hv rpsz29 rfl (by exact ⟨rfl, rfl, rfl, trivial⟩) (fun w33 hv => ?_)
     simp only [zO, sp] at hv
     refine uA rfl (uA rfl ?_)
     refine uW k32 (rR ?_)
     refine bZ (tR ?_)
     refine tR (bZ ?_)
     refine tR (bodyPost_ret (res_cell3 rfl rfl (lM 0 rpwd29 hv rfl rfl rfl rfl)) rfl ?_)
     exact ⟨0, 0, 0, [], 42, rfl, .inr ⟨a0, rest, hargs, .inl ⟨rfl, hbad⟩⟩, ((hv.kp [] 0 1)).weak (Base.Le.refl _)⟩
    refine uG (.bool false) rfl (ex_seql rfl rfl rfl (qF hb29)) (uK rfl ?_)
    refine uM rfl ?_
    refine uP rfl ?_
    refine uP rfl (uK rfl ?_)
    refine uW k28 (cF rfl ?_)
    refine sK fun _ k34 => ?_
    have hbad : OptBad rest := .inr ⟨i, u0, u1, b0, b1, x, hot, hxr, .inl ⟨fun h9 => hb22 (great_M.2 h9), fun h9 => hb29 (great_C.2 h9)⟩⟩
    refine rL (uG (.agg #[vI 0, vI 0, vI 0]) rfl (ex_buildN (vs := #[]) rfl (by simp only [List.map_toArray, List.map_nil]) (by kernel_rfl)) ?_)
    refine xS 0 rfl hv rpsz29 rfl (by exact ⟨rfl, rfl, rfl, trivial⟩) (fun w35 hv => ?_)
    simp only [zO, sp] at hv
    refine uA rfl (uA rfl ?_)
    refine uW k34 (rR ?_)
    refine bZ (tR ?_)
    refine tR (bZ ?_)
    refine tR (bodyPost_ret (res_cell3 rfl rfl (lM 0 rpwd29 hv rfl rfl rfl rfl)) rfl ?_)
    exact ⟨0, 0, 0, [], 42, rfl, .inr ⟨a0, rest, hargs, .inl ⟨rfl, hbad⟩⟩, ((hv.kp [] 0 1)).weak (Base.Le.refl _)⟩
   refine uG (.bool false) rfl (ex_lss rfl rfl rfl (qF hb21)) (uM rfl ?_)
   refine uP rfl ?_
   refine uP rfl (uK rfl ?_)
   refine uM rfl ?_
   refine uP rfl ?_
   refine uP rfl (uK rfl ?_)
   refine uW k20 (cF rfl ?_)
   refine sK fun _ k36 => rL (uM rfl ?_)
   refine uG (vI ((i + 2 : Nat) : Int)) rfl (ex_add rfl rfl rfl (by rw [i64_in (by omega)]; omega)) (uM rfl ?_)
   refine uG (vI (args.length : Int)) rfl (ex_len0 Tryz.underlying22 rfl rfl) ?_
   refine uG (.bool false) rfl (ex_lss rfl rfl rfl (qF hb21)) (uM rfl ?_)
   refine uP rfl ?_
   refine uP rfl (uK rfl ?_)
   refine uM rfl ?_
   refine uP rfl ?_
   refine uP rfl (uK rfl ?_)
   refine uW k36 (cF rfl ?_)
   refine sK fun _ k37 => ?_
   have hbad : OptBad rest := .inl (by omega)
   refine rL (uG (.agg #[vI 0, vI 0, vI 0]) rfl (ex_buildN (vs := #[]) rfl (by simp only [List.map_toArray, List.map_nil]) (by kernel_rfl)) ?_)
   refine xS 0 rfl hv rpsz29 rfl (by exact ⟨rfl, rfl, rfl, trivial⟩) (fun w38 hv => ?_)
   simp only [zO, sp] at hv
   refine uA rfl (uA rfl ?_)
   refine uW k37 (rR ?_)
   refine bZ (tR ?_)
   refine tR (bZ ?_)
   refine tR (bodyPost_ret (res_cell3 rfl rfl (lM 0 rpwd29 hv rfl rfl rfl rfl)) rfl ?_)
   exact ⟨0, 0, 0, [], 42, rfl, .inr ⟨a0, rest, hargs, .inl ⟨rfl, hbad⟩⟩, ((hv.kp [] 0 1)).weak (Base.Le.refl _)⟩
  refine uG (.bool false) rfl (ex_lss rfl rfl rfl (qF hb16)) (uW k15 ?_)
  refine cF rfl (xE ?_)
  refine tX (tX ?_)
  refine bH (tK k11 ?_)
  refine sK fun _ k39 => ?_
  obtain rfl : i = rest.length := by omega
  have hopt : OptR rest u0 u1 b0 b1 0 := .inr ⟨rfl, hev, hot⟩
  obtain ⟨ab, ao, had, hrdx0⟩ := text_reads hra (show args[0]? = some a0 by rw [hargs]; rfl)
  subst had
  refine rL (uM rfl ?_)
  refine uG (.pointer (some ⟨ab, ao + 0, none⟩)) rfl (ex_index rfl rfl rfl (run_idx1 (k := 0) Tryz.underlying22 s9es22 (by omega))) ?_
  refine uL _ rfl (run_load1 s9na9 (hrdx0 _ _ _ (Base.Le.refl _) no_res hv 0 _ rfl)) (uM rfl ?_)
  refine sl_rowN (pv := #[(0, vS a0), (1, vS ct)]) (L := [vS a0, vS ct]) (e := 9) tV (wn rfl) rfl (by simp only [List.map_toArray, List.map_cons, List.map_nil]; rfl) hv (fun w => by kernel_rfl) (fun b40 w41 hv => ?_)
  simp only [zP, po]
  obtain ⟨D1, hD1, hv, hrk, -, -⟩ := (hv.cellRow (n := 2) (c := 2) (size := 1) rfl (by decide) (by decide)).rowBy
  have hctl : ct.length ≤ 1000000 := by rw [← hct]; exact cnt_len hot (fun x hx => by have := hxl x (by rw [hargs]; exact List.mem_cons_of_mem _ hx); omega)
  refine xC rpcallable16 rfl ((refInts20 D1 _ _ _ 2 [a0, ct] hrk (by simp) (two_len (by have := hxl a0 (by rw [hargs]; exact List.mem_cons_self); omega) hctl) hv).mono ?_) rfl
  rintro e w42 ⟨E, ia, ic, ns, bi, hE, rfl, hri, hir, hv⟩
  refine ⟨_, rfl, ?_⟩
  cases bi
  ·rcases ints_two hir with ⟨h9, -⟩ | ⟨-, rfl, hnb⟩
   ·cases h9
   refine uM rfl (uE rfl ?_)
   refine uE rfl (uA rfl ?_)
   refine uA rfl (uW k39 ?_)
   refine sK fun _ k43 => sK fun _ k44 => rL (uM rfl ?_)
   refine uG (.bool true) rfl (ex_not rfl rfl rfl) (uW k44 ?_)
   refine cT rfl (sK fun _ k45 => ?_)
   refine rL (uG (.agg #[vI 0, vI 0, vI 0]) rfl (ex_buildN (vs := #[]) rfl (by simp only [List.map_toArray, List.map_nil]) (by kernel_rfl)) ?_)
   refine xS 0 rfl hv rpsz29 rfl (by exact ⟨rfl, rfl, rfl, trivial⟩) (fun w46 hv => ?_)
   simp only [zO, sp] at hv
   refine uA rfl (uA rfl ?_)
   refine uW k45 (rR ?_)
   refine tR (bodyPost_ret (res_cell3 rfl rfl (lM 0 rpwd29 hv rfl rfl rfl rfl)) rfl ?_)
   exact ⟨0, 0, 0, [], 41, rfl, .inr ⟨a0, rest, hargs, .inr ⟨u0, u1, b0, b1, hopt, .inl ⟨rfl, by rw [hct]; exact hnb⟩⟩⟩, ((hv.kp [] 0 1)).weak (hD1.trans hE)⟩
  obtain ⟨n0, n1, rfl, hn0, hn1⟩ := (ints_two hir).elim (fun h => h.2) (fun h => absurd h.1 (by decide))
  have hr0 := numP_rng hn0
  have hr1 := numP_rng hn1
  obtain ⟨ib, io, had, hrd0⟩ := int_reads hri (show [n0, n1][0]? = some n0 from rfl)
  obtain ⟨ib9, io9, had9, hrd1⟩ := int_reads hri (show [n0, n1][1]? = some n1 from rfl)
  subst had
  cases had9
  refine uG (.tuple #[.slice (some ⟨ib, io, none⟩) 2 ic, .bool true]) rfl (ex_move rfl rfl) ?_
  refine uG (.slice (some ⟨ib, io, none⟩) 2 ic) rfl (ex_extract rfl rfl rfl) (uE rfl ?_)
  refine uA rfl (uA rfl ?_)
  refine uW k39 (sK fun _ k47 => ?_)
  refine sK fun _ k48 => rL (uM rfl ?_)
  refine uG (.bool false) rfl (ex_not rfl rfl rfl) (uW k48 ?_)
  refine cF rfl (kS ?_)
  refine tK k47 (sK fun _ k49 => ?_)
  refine sK fun _ k50 => rL (uG (.slice (some ⟨ib, io, none⟩) 2 ic) rfl (ex_move rfl rfl) ?_)
  refine uG (.pointer (some ⟨ib, io + 0, none⟩)) rfl (ex_index rfl rfl rfl (run_idx1 (k := 0) Tryz.underlying53 s11es53 (by omega))) ?_
  refine uL _ rfl (run_load1 s2na3 (hrd0 _ _ _ (Base.Le.refl _) no_res hv 0 _ rfl)) ?_
  by_cases hb51 : n0 < 0
  ·refine uG (.bool true) rfl (ex_lss rfl rfl rfl (qT hb51)) (uM rfl ?_)
   iterate 4 refine uP rfl ?_
   refine uK rfl (uW k50 ?_)
   refine cT rfl (sK fun _ k52 => ?_)
   refine rL (uG (.agg #[vI 0, vI 0, vI 0]) rfl (ex_buildN (vs := #[]) rfl (by simp only [List.map_toArray, List.map_nil]) (by kernel_rfl)) ?_)
   refine xS 0 rfl hv rpsz29 rfl (by exact ⟨rfl, rfl, rfl, trivial⟩) (fun w53 hv => ?_)
   simp only [zO, sp] at hv
   refine uA rfl (uA rfl ?_)
   refine uW k52 (rR ?_)
   refine tR (bodyPost_ret (res_cell3 rfl rfl (lM 0 rpwd29 hv rfl rfl rfl rfl)) rfl ?_)
   have hn1c : NumP (cntOf u1 b1) n1 true := by rw [hct]; exact hn1
   exact ⟨0, 0, 0, [], 44, rfl, .inr ⟨a0, rest, hargs, .inr ⟨u0, u1, b0, b1, hopt, .inr ⟨n0, n1, hn0, hn1c, .inl ⟨rfl, by omega⟩⟩⟩⟩, ((hv.kp [] 0 1)).weak (hD1.trans hE)⟩
  refine uG (.bool false) rfl (ex_lss rfl rfl rfl (qF hb51)) (uM rfl ?_)
  refine uG (.slice (some ⟨ib, io, none⟩) 2 ic) rfl (ex_move rfl rfl) ?_
  refine uG (.pointer (some ⟨ib, io + 1, none⟩)) rfl (ex_index rfl rfl rfl (run_idx1 (k := 1) Tryz.underlying53 s11es53 (by omega))) ?_
  refine uL _ rfl (run_load1 s2na3 (hrd1 _ _ _ (Base.Le.refl _) no_res hv 0 _ rfl)) ?_
  by_cases hb54 : n1 < 1
  ·refine uG (.bool true) rfl (ex_lss rfl rfl rfl (qT hb54)) (uK rfl ?_)
   refine uW k50 (cT rfl ?_)
   refine sK fun _ k55 => rL (uG (.agg #[vI 0, vI 0, vI 0]) rfl (ex_buildN (vs := #[]) rfl (by simp only [List.map_toArray, List.map_nil]) (by kernel_rfl)) ?_)
   refine xS 0 rfl hv rpsz29 rfl (by exact ⟨rfl, rfl, rfl, trivial⟩) (fun w56 hv => ?_)
   simp only [zO, sp] at hv
   refine uA rfl (uA rfl ?_)
   refine uW k55 (rR ?_)
   refine tR (bodyPost_ret (res_cell3 rfl rfl (lM 0 rpwd29 hv rfl rfl rfl rfl)) rfl ?_)
   have hn1c : NumP (cntOf u1 b1) n1 true := by rw [hct]; exact hn1
   exact ⟨0, 0, 0, [], 44, rfl, .inr ⟨a0, rest, hargs, .inr ⟨u0, u1, b0, b1, hopt, .inr ⟨n0, n1, hn0, hn1c, .inl ⟨rfl, by omega⟩⟩⟩⟩, ((hv.kp [] 0 1)).weak (hD1.trans hE)⟩
  refine uG (.bool false) rfl (ex_lss rfl rfl rfl (qF hb54)) (uK rfl ?_)
  refine uW k50 (cF rfl ?_)
  refine kS (tK k49 ?_)
  refine sK fun _ k57 => rL (uA rfl ?_)
  refine uW k57 (sK fun _ k58 => ?_)
  refine bB ?_
  gi_loopw [15] (fun x15 wr => ∃ (f : Nat), x15 = vI f ∧ f ≤ n ∧ (f : Int) ≤ n0 ∧ Inv E (Res.cell b2 [vI 0, vI 0, vI 0] 29 :: H) wr) (fun x15 _ => n - (intOf x15).toNat)
  case atStart => exact ⟨0, rfl, Nat.zero_le _, by omega, hv⟩
  case round =>
   obtain ⟨f, rfl, hfn, hf0, hv⟩ := hrel
   refine sK fun _ k60 => sK fun _ k61 => rL (uM rfl ?_)
   refine uM rfl ?_
   by_cases hb62 : (f : Int) < (n : Int)
   ·refine uG (.bool true) rfl (ex_lss rfl rfl rfl (qT hb62)) (uM rfl ?_)
    refine uM rfl ?_
    refine uG (.slice (some ⟨ib, io, none⟩) 2 ic) rfl (ex_move rfl rfl) ?_
    refine uG (.pointer (some ⟨ib, io + 0, none⟩)) rfl (ex_index rfl rfl rfl (run_idx1 (k := 0) Tryz.underlying53 s11es53 (by omega))) ?_
    refine uL _ rfl (run_load1 s2na3 (hrd0 _ _ _ (Base.Le.refl _) no_res hv 0 _ rfl)) ?_
    by_cases hb63 : (f : Int) < n0
    ·refine uG (.bool true) rfl (ex_lss rfl rfl rfl (qT hb63)) (uK rfl ?_)
     refine uW k61 (cT rfl ?_)
     refine kS (tK k60 ?_)
     refine bB (rL ?_)
     refine uM rfl ?_
     refine uG (vI ((f + 1 : Nat) : Int)) rfl (ex_add rfl rfl rfl (by rw [i64_in (by omega)]; omega)) (uA rfl ?_)
     refine uZ (bN ?_)
     refine then_normal ?_
     go_roundw
     case rel => exact ⟨f + 1, rfl, by omega, by omega, hv⟩
     case measure => show n - (((f + 1 : Nat) : Int)).toNat < n - ((f : Int)).toNat; omega
    refine uG (.bool false) rfl (ex_lss rfl rfl rfl (qF hb63)) (uK rfl ?_)
    refine uW k61 (cF rfl ?_)
    refine xE (tX ?_)
    refine tX (bH ?_)
    refine tK k58 (sK fun _ k64 => ?_)
    refine rL (uM rfl ?_)
    refine uA rfl (uW k64 ?_)
    refine sK fun _ k65 => bB ?_
    have hff : (f : Int) = min n0 (max (n : Int) 0) := by omega
    gi_loopw [16] (fun x16 wr => ∃ (t : Nat), x16 = vI t ∧ f ≤ t ∧ t ≤ n ∧ (t : Int) - f ≤ n1 ∧ Inv E (Res.cell b2 [vI 0, vI 0, vI 0] 29 :: H) wr) (fun x16 _ => n - (intOf x16).toNat)
    case atStart => exact ⟨f, rfl, Nat.le_refl _, hfn, by omega, hv⟩
    case round =>
     obtain ⟨t, rfl, hft, htn, ht1, hv⟩ := hrel
     refine sK fun _ k67 => sK fun _ k68 => rL (uM rfl ?_)
     refine uM rfl ?_
     by_cases hb69 : (t : Int) < (n : Int)
     ·refine uG (.bool true) rfl (ex_lss rfl rfl rfl (qT hb69)) (uM rfl ?_)
      refine uM rfl ?_
      refine uM rfl ?_
      refine uG (vI ((t : Int) - (f : Int))) rfl (ex_sub rfl rfl rfl (i64_in (by omega))) ?_
      refine uG (.slice (some ⟨ib, io, none⟩) 2 ic) rfl (ex_move rfl rfl) ?_
      refine uG (.pointer (some ⟨ib, io + 1, none⟩)) rfl (ex_index rfl rfl rfl (run_idx1 (k := 1) Tryz.underlying53 s11es53 (by omega))) ?_
      refine uL _ rfl (run_load1 s2na3 (hrd1 _ _ _ (Base.Le.refl _) no_res hv 0 _ rfl)) ?_
      by_cases hb70 : ((t : Int) - (f : Int)) < n1
      ·refine uG (.bool true) rfl (ex_lss rfl rfl rfl (qT hb70)) (uK rfl ?_)
       refine uW k68 (cT rfl ?_)
       refine kS (tK k67 ?_)
       refine bB (rL ?_)
       refine uM rfl ?_
       refine uG (vI ((t + 1 : Nat) : Int)) rfl (ex_add rfl rfl rfl (by rw [i64_in (by omega)]; omega)) (uA rfl ?_)
       refine uZ (bN ?_)
       refine then_normal ?_
       go_roundw
       case rel => exact ⟨t + 1, rfl, by omega, by omega, by omega, hv⟩
       case measure => show n - (((t + 1 : Nat) : Int)).toNat < n - ((t : Int)).toNat; omega
      refine uG (.bool false) rfl (ex_lss rfl rfl rfl (qF hb70)) (uK rfl ?_)
      refine uW k68 (cF rfl ?_)
      refine xE (tX ?_)
      refine tX (bH ?_)
      refine tK k65 (sK fun _ k71 => ?_)
      refine sK fun _ k72 => rL (uM rfl ?_)
      refine uM rfl ?_
      refine uG (.bool true) rfl (ex_lss rfl rfl rfl (qT hb69)) (uW k72 ?_)
      refine cT rfl (sK fun _ k73 => ?_)
      refine rL (uM rfl ?_)
      refine uM rfl (uM rfl ?_)
      refine uG (.agg #[vI f, vI t, vI t]) rfl (ex_buildN (vs := #[(0, vI f), (1, vI t), (2, vI t)]) rfl (by simp only [List.map_toArray, List.map_cons, List.map_nil]; rfl) (by kernel_rfl)) (uM rfl ?_)
      refine xS 0 rfl hv rpsz29 rfl (by exact ⟨rfl, rfl, rfl, trivial⟩) (fun w74 hv => ?_)
      simp only [zO, sp] at hv
      refine uA rfl (uA rfl ?_)
      refine uW k73 (rR ?_)
      refine tR (bodyPost_ret (res_cell3 rfl rfl (lM 0 rpwd29 hv rfl rfl rfl rfl)) rfl ?_)
      have hn1c : NumP (cntOf u1 b1) n1 true := by rw [hct]; exact hn1
      have htt : (t : Int) = f + min n1 (max (n : Int) 0 - f) := by omega
      exact ⟨f, t, (t : Int), mt, 0, rfl, .inr ⟨a0, rest, hargs, .inr ⟨u0, u1, b0, b1, hopt, .inr ⟨n0, n1, hn0, hn1c, .inr ⟨rfl, by omega, by omega, hmt, hff, htt, by rw [if_pos (by omega)]⟩⟩⟩⟩, ((hv.kp [] 0 1)).weak (hD1.trans hE)⟩
     refine uG (.bool false) rfl (ex_lss rfl rfl rfl (qF hb69)) (uM rfl ?_)
     iterate 7 refine uP rfl ?_
     refine uK rfl (uW k68 ?_)
     refine cF rfl (xE ?_)
     refine tX (tX ?_)
     refine bH (tK k65 ?_)
     refine sK fun _ k75 => sK fun _ k76 => rL (uM rfl ?_)
     refine uM rfl ?_
     refine uG (.bool false) rfl (ex_lss rfl rfl rfl (qF hb69)) (uW k76 ?_)
     refine cF rfl (kS ?_)
     refine tK k75 (sK fun _ k77 => ?_)
     refine rL (uM rfl ?_)
     refine uM rfl ?_
     refine uG (.agg #[vI f, vI t, vI 0]) rfl (ex_buildN (vs := #[(0, vI f), (1, vI t), (2, vI 0)]) rfl (by simp only [List.map_toArray, List.map_cons, List.map_nil]; rfl) (by kernel_rfl)) (uM rfl ?_)
     refine xS 0 rfl hv rpsz29 rfl (by exact ⟨rfl, rfl, rfl, trivial⟩) (fun w78 hv => ?_)
     simp only [zO, sp] at hv
     refine uA rfl (uA rfl ?_)
     refine uW k77 (rR ?_)
     refine bodyPost_ret (res_cell3 rfl rfl (lM 0 rpwd29 hv rfl rfl rfl rfl)) rfl ?_
     have hn1c : NumP (cntOf u1 b1) n1 true := by rw [hct]; exact hn1
     have htt : (t : Int) = f + min n1 (max (n : Int) 0 - f) := by omega
     exact ⟨f, t, 0, mt, 0, rfl, .inr ⟨a0, rest, hargs, .inr ⟨u0, u1, b0, b1, hopt, .inr ⟨n0, n1, hn0, hn1c, .inr ⟨rfl, by omega, by omega, hmt, hff, htt, by rw [if_neg (by omega)]⟩⟩⟩⟩, ((hv.kp [] 0 1)).weak (hD1.trans hE)⟩
   refine uG (.bool false) rfl (ex_lss rfl rfl rfl (qF hb62)) (uM rfl ?_)
   iterate 5 refine uP rfl ?_
   refine uK rfl (uW k61 ?_)
   refine cF rfl (xE ?_)
   refine tX (tX ?_)
   refine bH (tK k58 ?_)
   refine sK fun _ k79 => rL (uM rfl ?_)
   refine uA rfl (uW k79 ?_)
   refine sK fun _ k80 => bB ?_
   have hff : (f : Int) = min n0 (max (n : Int) 0) := by omega
   gi_loopw [16] (fun x16 wr => ∃ (t : Nat), x16 = vI t ∧ f ≤ t ∧ t ≤ n ∧ (t : Int) - f ≤ n1 ∧ Inv E (Res.cell b2 [vI 0, vI 0, vI 0] 29 :: H) wr) (fun x16 _ => n - (intOf x16).toNat)
   case atStart => exact ⟨f, rfl, Nat.le_refl _, hfn, by omega, hv⟩
   case round =>
    obtain ⟨t, rfl, hft, htn, ht1, hv⟩ := hrel
    refine sK fun _ k82 => sK fun _ k83 => rL (uM rfl ?_)
    refine uM rfl ?_
    by_cases hb84 : (t : Int) < (n : Int)
    ·refine uG (.bool true) rfl (ex_lss rfl rfl rfl (qT hb84)) (uM rfl ?_)
     refine uM rfl ?_
     refine uM rfl ?_
     refine uG (vI ((t : Int) - (f : Int))) rfl (ex_sub rfl rfl rfl (i64_in (by omega))) ?_
     refine uG (.slice (some ⟨ib, io, none⟩) 2 ic) rfl (ex_move rfl rfl) ?_
     refine uG (.pointer (some ⟨ib, io + 1, none⟩)) rfl (ex_index rfl rfl rfl (run_idx1 (k := 1) Tryz.underlying53 s11es53 (by omega))) ?_
     refine uL _ rfl (run_load1 s2na3 (hrd1 _ _ _ (Base.Le.refl _) no_res hv 0 _ rfl)) ?_
     by_cases hb85 : ((t : Int) - (f : Int)) < n1
     ·refine uG (.bool true) rfl (ex_lss rfl rfl rfl (qT hb85)) (uK rfl ?_)
      refine uW k83 (cT rfl ?_)
      refine kS (tK k82 ?_)
      refine bB (rL ?_)
      refine uM rfl ?_
      refine uG (vI ((t + 1 : Nat) : Int)) rfl (ex_add rfl rfl rfl (by rw [i64_in (by omega)]; omega)) (uA rfl ?_)
      refine uZ (bN ?_)
      refine then_normal ?_
      go_roundw
      case rel => exact ⟨t + 1, rfl, by omega, by omega, by omega, hv⟩
      case measure => show n - (((t + 1 : Nat) : Int)).toNat < n - ((t : Int)).toNat; omega
     refine uG (.bool false) rfl (ex_lss rfl rfl rfl (qF hb85)) (uK rfl ?_)
     refine uW k83 (cF rfl ?_)
     refine xE (tX ?_)
     refine tX (bH ?_)
     refine tK k80 (sK fun _ k86 => ?_)
     refine sK fun _ k87 => rL (uM rfl ?_)
     refine uM rfl ?_
     refine uG (.bool true) rfl (ex_lss rfl rfl rfl (qT hb84)) (uW k87 ?_)
     refine cT rfl (sK fun _ k88 => ?_)
     refine rL (uM rfl ?_)
     refine uM rfl (uM rfl ?_)
     refine uG (.agg #[vI f, vI t, vI t]) rfl (ex_buildN (vs := #[(0, vI f), (1, vI t), (2, vI t)]) rfl (by simp only [List.map_toArray, List.map_cons, List.map_nil]; rfl) (by kernel_rfl)) (uM rfl ?_)
     refine xS 0 rfl hv rpsz29 rfl (by exact ⟨rfl, rfl, rfl, trivial⟩) (fun w89 hv => ?_)
     simp only [zO, sp] at hv
     refine uA rfl (uA rfl ?_)
     refine uW k88 (rR ?_)
     refine tR (bodyPost_ret (res_cell3 rfl rfl (lM 0 rpwd29 hv rfl rfl rfl rfl)) rfl ?_)
     have hn1c : NumP (cntOf u1 b1) n1 true := by rw [hct]; exact hn1
     have htt : (t : Int) = f + min n1 (max (n : Int) 0 - f) := by omega
     exact ⟨f, t, (t : Int), mt, 0, rfl, .inr ⟨a0, rest, hargs, .inr ⟨u0, u1, b0, b1, hopt, .inr ⟨n0, n1, hn0, hn1c, .inr ⟨rfl, by omega, by omega, hmt, hff, htt, by rw [if_pos (by omega)]⟩⟩⟩⟩, ((hv.kp [] 0 1)).weak (hD1.trans hE)⟩
    refine uG (.bool false) rfl (ex_lss rfl rfl rfl (qF hb84)) (uM rfl ?_)
    iterate 7 refine uP rfl ?_
    refine uK rfl (uW k83 ?_)
    refine cF rfl (xE ?_)
    refine tX (tX ?_)
    refine bH (tK k80 ?_)
    refine sK fun _ k90 => sK fun _ k91 => rL (uM rfl ?_)
    refine uM rfl ?_
    refine uG (.bool false) rfl (ex_lss rfl rfl rfl (qF hb84)) (uW k91 ?_)
    refine cF rfl (kS ?_)
    refine tK k90 (sK fun _ k92 => ?_)
    refine rL (uM rfl ?_)
    refine uM rfl ?_
    refine uG (.agg #[vI f, vI t, vI 0]) rfl (ex_buildN (vs := #[(0, vI f), (1, vI t), (2, vI 0)]) rfl (by simp only [List.map_toArray, List.map_cons, List.map_nil]; rfl) (by kernel_rfl)) (uM rfl ?_)
    refine xS 0 rfl hv rpsz29 rfl (by exact ⟨rfl, rfl, rfl, trivial⟩) (fun w93 hv => ?_)
    simp only [zO, sp] at hv
    refine uA rfl (uA rfl ?_)
    refine uW k92 (rR ?_)
    refine bodyPost_ret (res_cell3 rfl rfl (lM 0 rpwd29 hv rfl rfl rfl rfl)) rfl ?_
    have hn1c : NumP (cntOf u1 b1) n1 true := by rw [hct]; exact hn1
    have htt : (t : Int) = f + min n1 (max (n : Int) 0 - f) := by omega
    exact ⟨f, t, 0, mt, 0, rfl, .inr ⟨a0, rest, hargs, .inr ⟨u0, u1, b0, b1, hopt, .inr ⟨n0, n1, hn0, hn1c, .inr ⟨rfl, by omega, by omega, hmt, hff, htt, by rw [if_neg (by omega)]⟩⟩⟩⟩, ((hv.kp [] 0 1)).weak (hD1.trans hE)⟩
end Go.Proofs.YtanfkicimnfgjaaGreatDoor
namespace Go.Pm
theorem bit_iff {x : BitVec 64} {k : Nat} : ((x >>> k) &&& 1#64 = 1#64) ↔ x.getLsbD k = true := by
 constructor
 ·intro h
  have := congrArg (fun v : BitVec 64 => v.getLsbD 0) h
  simpa using this
 intro h
 apply BitVec.eq_of_getLsbD_eq
 intro i hi
 by_cases h0 : i = 0
 ·subst h0; simpa using h
 have : (1#64).getLsbD i = false := by
  rw [BitVec.getLsbD_one]; simp [h0]
 rw [BitVec.getLsbD_and, this, Bool.and_false]
theorem hasW_bit (s : W64) (c : Nat) : hasW s c = (s.getD (c / 64) 0#64).getLsbD (c % 64) := by
 unfold hasW
 by_cases h : (s.getD (c / 64) 0#64).getLsbD (c % 64) = true
 ·rw [h]; exact decide_eq_true (bit_iff.2 h)
 rw [Bool.not_eq_true] at h
 rw [h]; exact decide_eq_false fun h9 => by rw [bit_iff.1 h9] at h; cases h
theorem one_bit {r k : Nat} (hr : r < 64) : (1#64 <<< r).getLsbD k = decide (k = r) := by
 rw [BitVec.getLsbD_shiftLeft, BitVec.getLsbD_one]
 by_cases h : k = r
 ·subst h; simp [hr]
 by_cases h1 : k < r
 ·simp [h, h1]
 have : k - r ≠ 0 := by omega
 simp [h, this]
theorem hasW_w0 (d : Nat) : hasW w0 d = false := by
 rw [hasW_bit]
 have : ∀ k, w0.getD k 0#64 = 0#64 := fun k => by
  unfold w0
  match k with
  | 0 => rfl
  | 1 => rfl
  | 2 => rfl
  | 3 => rfl
  | k + 4 => rfl
 rw [this, BitVec.getLsbD_zero]
theorem hasW_add {s : W64} {c d : Nat} (hl : s.length = 4) (hc : c < 256) : hasW (addW s c) d = (hasW s d || decide (d = c)) := by
 rw [hasW_bit, hasW_bit]
 unfold addW
 by_cases hq : c / 64 = d / 64
 ·have : (s.set (c / 64) (s.getD (c / 64) 0#64 ||| 1#64 <<< (c % 64))).getD (d / 64) 0#64 = s.getD (c / 64) 0#64 ||| 1#64 <<< (c % 64) := by
   rw [← hq, List.getD_eq_getElem?_getD, List.getElem?_set_self (by omega)]; rfl
  rw [this, BitVec.getLsbD_or, one_bit (Nat.mod_lt _ (by decide)), hq]
  congr 1
  exact decide_eq_decide.2 ⟨fun h => by omega, fun h => by omega⟩
 have : (s.set (c / 64) (s.getD (c / 64) 0#64 ||| 1#64 <<< (c % 64))).getD (d / 64) 0#64 = s.getD (d / 64) 0#64 := by
  rw [List.getD_eq_getElem?_getD, List.getElem?_set_ne hq, ← List.getD_eq_getElem?_getD]
 rw [this, decide_eq_false (fun h => hq (by rw [h])), Bool.or_false]
theorem hasW_upto {s : W64} {lo n d : Nat} (hl : s.length = 4) (hc : lo + n ≤ 256) : hasW (addUpto s lo n) d = (hasW s d || decide (lo ≤ d ∧ d < lo + n)) := by
 induction n with
 | zero =>
  have : ¬ (lo ≤ d ∧ d < lo + 0) := by omega
  rw [decide_eq_false this, Bool.or_false]; rfl
 | succ n ih =>
  rw [addUpto_succ, hasW_add (by rw [addUpto_len]; exact hl) (by omega), ih (by omega), Bool.or_assoc, ← Bool.decide_or]
  congr 1
  exact decide_eq_decide.2 ⟨fun h => by omega, fun h => by omega⟩
theorem hasW_range {s : W64} {a b d : Nat} (hl : s.length = 4) (ha : a < 256) (hb : b < 256) : hasW (addRangeW s a b) d = (hasW s d || decide (min a b ≤ d ∧ d ≤ max a b)) := by
 unfold addRangeW
 rw [hasW_upto hl (by omega)]
 congr 1
 exact decide_eq_decide.2 ⟨fun h => by omega, fun h => by omega⟩
theorem addRangeW_len {s : W64} {a b : Nat} : (addRangeW s a b).length = s.length := addUpto_len
theorem hasW_inv {s : W64} {d : Nat} (hl : s.length = 4) (hd : d < 256) : hasW (invW s) d = !hasW s d := by
 rw [hasW_bit, hasW_bit]
 have : (invW s).getD (d / 64) 0#64 = ~~~ (s.getD (d / 64) 0#64) := by
  unfold invW
  have h : d / 64 < s.length := by omega
  rw [List.getD_eq_getElem?_getD, List.getD_eq_getElem?_getD, List.getElem?_map, List.getElem?_eq_getElem h]; rfl
 rw [this, BitVec.getLsbD_not]
 have : d % 64 < 64 := Nat.mod_lt _ (by decide)
 simp [this]
theorem hasW_any {d : Nat} (hd : d < 256) : hasW anyP.ws d = true := by
 show hasW (invW w0) d = true
 rw [hasW_inv rfl hd, hasW_w0]; rfl
theorem hasW_one {c d : Nat} (hc : c < 256) : hasW (oneP c).ws d = decide (d = c) := by
 show hasW (addW w0 c) d = _
 rw [hasW_add rfl hc, hasW_w0, Bool.false_or]
section
variable (p : List UInt8)
theorem chr256 (i : Nat) : chr p i < 256 := by
 unfold chr; exact UInt8.toNat_lt _
theorem litS256 (i : Nat) : (litS p i).1 < 256 := by
 unfold litS; split <;> exact chr256 p _
theorem highS256 (i : Nat) {lo : Nat} (h : lo < 256) : (highS p i lo).1 < 256 := by
 unfold highS; split
 ·exact litS256 p _
 exact h
def highR (i lo : Nat) : Nat × Nat := if i + 1 < p.length ∧ chr p i = 45 then litS p (i + 1) else (lo, i)
theorem highR_ge (i lo : Nat) : i ≤ (highR p i lo).2 := by
 unfold highR; split
 ·have := litS_gt p (i + 1); omega
 simp
def clsR (c : Nat) (i : Nat) (is : Bool) : Bool :=
 if _ : i < p.length then
  clsR c (highR p (litS p i).2 (litS p i).1).2 (is || decide (min (litS p i).1 (highR p (litS p i).2 (litS p i).1).1 ≤ c ∧ c ≤ max (litS p i).1 (highR p (litS p i).2 (litS p i).1).1))
 else is
termination_by p.length - i
decreasing_by
 have h1 := litS_gt p i
 have h2 := highR_ge p (litS p i).2 (litS p i).1
 omega
theorem clsR_end {c i : Nat} {is : Bool} (h : ¬ i < p.length) : clsR p c i is = is := by rw [clsR, dif_neg h]
theorem clsR_step {c i : Nat} {is : Bool} (h : i < p.length) : clsR p c i is = clsR p c (highR p (litS p i).2 (litS p i).1).2 (is || decide (min (litS p i).1 (highR p (litS p i).2 (litS p i).1).1 ≤ c ∧ c ≤ max (litS p i).1 (highR p (litS p i).2 (litS p i).1).1)) := by rw [clsR, dif_pos h]
def clsFit (c : Nat) : Bool := if 0 < p.length ∧ chr p 0 = 94 then !clsR p c 1 false else clsR p c 0 false
end
section
variable {p : List UInt8}
theorem chr_sub {a k j : Nat} (h : a + j < k) : chr ((p.take k).drop a) j = chr p (a + j) := by
 unfold chr
 rw [List.getD_eq_getElem?_getD, List.getD_eq_getElem?_getD, List.getElem?_drop, List.getElem?_take, if_pos h]
theorem sub_len {a k : Nat} (h : k ≤ p.length) : ((p.take k).drop a).length = k - a := by
 rw [List.length_drop, List.length_take, Nat.min_eq_left h]
theorem litS_sub {a k i : Nat} (hk : k ≤ p.length) (ha : a ≤ i) (hi : i < k) (h2 : (litS p i).2 ≤ k) : litS ((p.take k).drop a) (i - a) = ((litS p i).1, (litS p i).2 - a) := by
 have e0 : chr ((p.take k).drop a) (i - a) = chr p i := by rw [chr_sub (by omega)]; congr 1; omega
 unfold litS at h2 ⊢
 rw [sub_len hk, e0]
 by_cases h : chr p i = 92 ∧ i + 1 < p.length
 ·rw [if_pos h] at h2 ⊢
  have h2 : i + 2 ≤ k := h2
  rw [if_pos ⟨h.1, by omega⟩, show i - a + 1 = i + 1 - a by omega, chr_sub (by omega), show a + (i + 1 - a) = i + 1 by omega]
  exact Prod.ext rfl (show i - a + 2 = i + 2 - a by omega)
 rw [if_neg h, if_neg (by omega)]
 exact Prod.ext rfl (show i - a + 1 = i + 1 - a by omega)
theorem clsR_of {k : Nat} {r : W64} (hk : k < p.length) : ∀ (n : Nat) {neg : Bool} {first i a : Nat} {ws : W64} {c : Nat}, p.length - i ≤ n → a ≤ i → first ≤ i → c < 256 → ws.length = 4 → classS p neg first i ws = some (r, k + 1) →
  (neg != clsR ((p.take k).drop a) c (i - a) (hasW ws c)) = hasW r c := by
 intro n
 induction n with
 | zero => intro neg first i a ws c hn ha hf hc hw h; rw [classS_end p (by omega)] at h; cases h
 | succ n ih =>
  intro neg first i a ws c hn ha hf hc hw h
  have hle := classS_le p _ (Nat.le_refl _) h
  have hi : i < p.length := by have := hle.1; have := hle.2; simp only at *; omega
  by_cases hcl : chr p i = 93 ∧ first < i
  ·rw [classS_close p hi hcl] at h
   have h1 := congrArg Prod.snd (Option.some.inj h)
   have h2 := congrArg Prod.fst (Option.some.inj h)
   simp only at h1 h2
   obtain rfl : i = k := by omega
   rw [clsR_end _ (by rw [sub_len (by omega)]; omega), ← h2]
   cases neg with
   | true => rw [if_pos rfl, hasW_inv hw hc]; simp
   | false => simp
  rw [classS_step p hi hcl] at h
  have g1 := litS_gt p i
  have g2 := highS_ge p (litS p i).2 (litS p i).1
  have hle2 := (classS_le p _ (Nat.le_refl _) h).1
  simp only at hle2
  have hik : i < k := by omega
  have hlk : (litS p i).2 ≤ k := by omega
  have e1 := litS_sub (a := a) (Nat.le_of_lt hk) ha hik hlk
  have e2 : highR ((p.take k).drop a) ((litS p i).2 - a) (litS p i).1 = ((highS p (litS p i).2 (litS p i).1).1, (highS p (litS p i).2 (litS p i).1).2 - a) := by
   generalize hj : (litS p i).2 = j at *
   unfold highR
   rw [sub_len (Nat.le_of_lt hk)]
   by_cases h45 : j + 1 < p.length ∧ chr p j = 45 ∧ chr p (j + 1) ≠ 93
   ·have eh : highS p j (litS p i).1 = litS p (j + 1) := if_pos h45
    rw [eh] at hle2 ⊢
    have := litS_gt p (j + 1)
    rw [if_pos ⟨by omega, by rw [chr_sub (by omega), show a + (j - a) = j by omega]; exact h45.2.1⟩, show j - a + 1 = j + 1 - a by omega]
    exact litS_sub (Nat.le_of_lt hk) (by omega) (by omega) (by omega)
   have eh : highS p j (litS p i).1 = ((litS p i).1, j) := if_neg h45
   rw [eh]
   have hno : ¬ (j - a + 1 < k - a ∧ chr ((p.take k).drop a) (j - a) = 45) := by
    rintro ⟨h5, h6⟩
    rw [chr_sub (by omega), show a + (j - a) = j by omega] at h6
    have h93 : chr p (j + 1) = 93 := Classical.byContradiction fun h9 => h45 ⟨by omega, h6, h9⟩
    rw [eh] at h
    dsimp only at h
    have l1 : litS p j = (45, j + 1) := by
     unfold litS; rw [if_neg (by omega), h6]
    have l2 : highS p (j + 1) 45 = (45, j + 1) := by
     unfold highS; rw [if_neg (by omega)]
    rw [classS_step p (by omega) (by omega), l1] at h
    simp only [l2] at h
    rw [classS_close p (by omega) ⟨h93, by omega⟩] at h
    have := congrArg Prod.snd (Option.some.inj h)
    simp only at this
    omega
   rw [if_neg hno]
  have h3 := ih (a := a) (c := c) (by omega) (by omega) (by omega) hc (by rw [addRangeW_len]; exact hw) h
  rw [clsR_step _ (by rw [sub_len (Nat.le_of_lt hk)]; omega), e1]
  simp only [e2]
  rw [hasW_range hw (litS256 p _) (highS256 p _ (litS256 p _))] at h3
  exact h3
theorem clsFit_of {i k c : Nat} {r : W64} (hc : c < 256) (h : clsS p i = some (r, k + 1)) : clsFit ((p.take k).drop i) c = hasW r c := by
 have hle := clsS_le p h
 simp only at hle
 unfold clsS at h
 unfold clsFit
 by_cases h94 : chr p i = 94 ∧ i < p.length
 ·rw [if_pos h94] at h
  have hle2 := (classS_le p _ (Nat.le_refl _) h).1
  simp only at hle2
  rw [if_pos ⟨by rw [sub_len (by omega)]; omega, by rw [chr_sub (by omega)]; exact h94.1⟩]
  have := clsR_of (a := i) (by omega) _ (Nat.le_refl _) (by omega) (Nat.le_refl _) hc rfl h
  rw [hasW_w0, show i + 1 - i = 1 by omega] at this
  rw [← this]; simp
 rw [if_neg h94] at h
 have h5 : ¬ (0 < ((p.take k).drop i).length ∧ chr ((p.take k).drop i) 0 = 94) := by
  rintro ⟨h5, h6⟩
  rw [sub_len (by omega)] at h5
  rw [chr_sub (by omega)] at h6
  exact h94 ⟨h6, by omega⟩
 rw [if_neg h5]
 have := clsR_of (a := i) (by omega) _ (Nat.le_refl _) (Nat.le_refl _) (Nat.le_refl _) hc rfl h
 rw [hasW_w0, Nat.sub_self] at this
 rw [← this]; simp
inductive Al (p : List UInt8) : Nat → Nat → Prop where
 | refl (i : Nat) : Al p i i
 | step {i j : Nat} : Al p i j → j < p.length → Al p i (litS p j).2
theorem Al.le {i j : Nat} (h : Al p i j) : i ≤ j := by
 induction h with
 | refl => exact Nat.le_refl _
 | step _ _ ih => have := litS_gt p; exact Nat.le_trans ih (Nat.le_of_lt (this _))
theorem Al.trans {i j k : Nat} (h : Al p i j) (h2 : Al p j k) : Al p i k := by
 induction h2 with
 | refl => exact h
 | step _ h3 ih => exact ih.step h3
theorem al_high {i j lo : Nat} (h : Al p i j) (_ : j ≤ p.length) : Al p i (highS p j lo).2 := by
 unfold highS
 split
 ·rename_i h1
  have e : (litS p j).2 = j + 1 := by unfold litS; rw [if_neg (by omega)]
  have h2 := h.step (show j < p.length by omega)
  rw [e] at h2
  exact h2.step h1.1
 exact h
theorem al_next {i j : Nat} (h : Al p i j) (hj : j < p.length) : Al p i (highS p (litS p j).2 (litS p j).1).2 := al_high (h.step hj) (litS_le p hj)
theorem Al.cases_left {i j : Nat} (h : Al p i j) : j = i ∨ (i < p.length ∧ Al p (litS p i).2 j) := by
 induction h with
 | refl => exact .inl rfl
 | step h1 h2 ih =>
  rcases ih with rfl | ⟨h3, h4⟩
  ·exact .inr ⟨h2, .refl _⟩
  exact .inr ⟨h3, h4.step h2⟩
theorem none_al : ∀ (n : Nat) {neg : Bool} {first i : Nat} {ws : W64}, p.length - i ≤ n → classS p neg first i ws = none → ∀ j, Al p i j → first < j → j < p.length → chr p j ≠ 93 := by
 intro n
 induction n with
 | zero => intro neg first i ws hn h j hj hf hjl; have := hj.le; omega
 | succ n ih =>
  intro neg first i ws hn h j hj hf hjl h93
  have hi : i < p.length := by have := hj.le; omega
  by_cases hcl : chr p i = 93 ∧ first < i
  ·rw [classS_close p hi hcl] at h; cases h
  rw [classS_step p hi hcl] at h
  have g1 := litS_gt p i
  have g2 := highS_ge p (litS p i).2 (litS p i).1
  have ih2 := ih (by omega) h
  rcases hj.cases_left with rfl | ⟨-, hj2⟩
  ·exact hcl ⟨h93, hf⟩
  generalize hm : (litS p i).2 = m at *
  unfold highS at ih2
  split at ih2
  ·rename_i h45
   have e : (litS p m).2 = m + 1 := by unfold litS; rw [if_neg (by omega)]
   rcases hj2.cases_left with rfl | ⟨h5, hj3⟩
   ·omega
   rw [e] at hj3
   rcases hj3.cases_left with rfl | ⟨-, hj4⟩
   ·exact h45.2.2 h93
   exact ih2 j hj4 hf hjl h93
  exact ih2 j hj2 hf hjl h93
theorem some_al : ∀ (n : Nat) {neg : Bool} {first i : Nat} {ws : W64} {r : W64 × Nat}, p.length - i ≤ n → classS p neg first i ws = some r → ∃ j, Al p i j ∧ first < j ∧ j < p.length ∧ chr p j = 93 := by
 intro n
 induction n with
 | zero => intro neg first i ws r hn h; rw [classS_end p (by omega)] at h; cases h
 | succ n ih =>
  intro neg first i ws r hn h
  by_cases hi : i < p.length
  ·by_cases hcl : chr p i = 93 ∧ first < i
   ·exact ⟨i, .refl _, hcl.2, hi, hcl.1⟩
   rw [classS_step p hi hcl] at h
   have g1 := litS_gt p i
   have g2 := highS_ge p (litS p i).2 (litS p i).1
   obtain ⟨j, h1, h2⟩ := ih (by omega) h
   exact ⟨j, (al_next (.refl _) hi).trans h1, h2⟩
  rw [classS_end p hi] at h; cases h
theorem al_one {i : Nat} (hi : i < p.length) (h : chr p i ≠ 92) : Al p i (i + 1) := by
 have := (Al.refl (p := p) i).step hi
 have e : (litS p i).2 = i + 1 := by unfold litS; rw [if_neg (fun h9 => h h9.1)]
 rwa [e] at this
theorem cls_none {i j : Nat} (h : clsS p i = none) (hj : Al p i j) (hji : i ≤ j) (h91 : chr p j = 91) (hjl : j < p.length) : clsS p (j + 1) = none := by
 have hno : ∀ m, Al p i m → j + 1 < m → m < p.length → chr p m ≠ 93 := by
  intro m hm h1 h2
  unfold clsS at h
  split at h
  ·rename_i h94
   have hm2 : Al p (i + 1) m := by
    rcases hm.cases_left with rfl | ⟨-, h5⟩
    ·omega
    have e : (litS p i).2 = i + 1 := by unfold litS; rw [if_neg (by omega)]
    rwa [e] at h5
   exact none_al _ (Nat.le_refl _) h m hm2 (by omega) h2
  exact none_al _ (Nat.le_refl _) h m hm (by omega) h2
 have hj1 : Al p i (j + 1) := hj.trans (al_one hjl (by omega))
 cases hc : clsS p (j + 1) with
 | none => rfl
 | some r =>
  unfold clsS at hc
  split at hc
  ·rename_i h94
   obtain ⟨m, h1, h2, h3, h4⟩ := some_al _ (Nat.le_refl _) hc
   exact absurd h4 (hno m ((hj1.trans (al_one h94.2 (by omega))).trans h1) (by omega) h3)
  obtain ⟨m, h1, h2, h3, h4⟩ := some_al _ (Nat.le_refl _) hc
  exact absurd h4 (hno m (hj1.trans h1) h2 h3)
theorem divS_same : ∀ (n : Nat) {i : Nat}, p.length - i ≤ n → (∀ j, Al p i j → chr p j = 91 → j < p.length → clsS p (j + 1) = none) → divS p true i = divS p false i := by
 intro n
 induction n with
 | zero => intro i hn h; rw [divS_end (by omega), divS_end (by omega)]
 | succ n ih =>
  intro i hn h
  by_cases hi : i < p.length
  ·have h0 := h i (.refl _)
   have step : chr p i ≠ 92 → divS p true (i + 1) = divS p false (i + 1) := fun h9 => ih (by omega) fun j hj => h j ((al_one hi h9).trans hj)
   by_cases h42 : chr p i = 42
   ·rw [divS_star hi h42, divS_star hi h42, step (by omega)]
   by_cases h63 : chr p i = 63
   ·rw [divS_any hi h63, divS_any hi h63, step (by omega)]
   by_cases h91 : chr p i = 91
   ·rw [divS_none hi h91 rfl (h0 h91 hi), divS_one hi h42 h63 (by simp) (by omega)]
   by_cases h92 : chr p i = 92 ∧ i + 1 < p.length
   ·rw [divS_quote hi h92.1 h92.2, divS_quote hi h92.1 h92.2, ih (i := i + 2) (by omega) fun j hj => h j (by
     have := (Al.refl (p := p) i).step hi
     have e : (litS p i).2 = i + 2 := by unfold litS; rw [if_pos h92]
     rw [e] at this
     exact this.trans hj)]
   have h3 : ¬ (chr p i = 91 ∧ true = true) := fun h9 => h91 h9.1
   have h4 : ¬ (chr p i = 91 ∧ false = true) := fun h9 => h91 h9.1
   rw [divS_one hi h42 h63 h3 h92, divS_one hi h42 h63 h4 h92]
   by_cases h9 : chr p i = 92
   ·rw [divS_end (by omega), divS_end (by omega)]
   rw [step h9]
  rw [divS_end hi, divS_end hi]
theorem divS_open {i : Nat} (hi : i < p.length) (h91 : chr p i = 91) (hc : clsS p (i + 1) = none) : divS p true i = oneP 91 :: divS p true (i + 1) := by
 rw [divS_none hi h91 rfl hc, h91, divS_same _ (Nat.le_refl _) fun j hj h1 h2 => cls_none hc hj hj.le h1 h2]
structure PStep (p : List UInt8) (i : Nat) (k : Int) (lit : Nat) (esc : Bool) (x : Part) : Prop where
 lt : i < p.length
 dv : divS p true i = x :: divS p true ((if 0 ≤ k then k.toNat else i) + (if esc = true then 1 else 0) + 1)
 st : x.star = decide (chr p i = 42)
 an : chr p i = 63 → ∀ c, c < 256 → hasW x.ws c = true
 cl : 0 ≤ k → chr p i = 91 ∧ i < k.toNat ∧ k.toNat < p.length ∧ ∀ c, c < 256 → clsFit ((p.take k.toNat).drop (i + 1)) c = hasW x.ws c
 li : k < 0 → chr p i ≠ 42 → chr p i ≠ 63 → ∀ c, c < 256 → hasW x.ws c = decide (c = lit)
 es : esc = true → k < 0 ∧ i + 1 < p.length
theorem pstep_class {i k : Nat} {r : W64} (hi : i < p.length) (h91 : chr p i = 91) (hc : clsS p (i + 1) = some (r, k + 1)) : PStep p i (k : Int) (chr p i) false ⟨false, r⟩ := by
 have hle := clsS_le p hc
 simp only at hle
 exact ⟨hi, by rw [divS_class hi h91 rfl hc]; simp, by rw [h91]; rfl, fun h => by omega, fun _ => ⟨h91, by simp; omega, by simp; omega, fun c h9 => by rw [Int.toNat_natCast]; exact clsFit_of h9 hc⟩, fun h => by omega, fun h => by cases h⟩
theorem pstep_open {i : Nat} (hi : i < p.length) (h91 : chr p i = 91) (hc : clsS p (i + 1) = none) : PStep p i (-1) (chr p i) false (oneP 91) :=
 ⟨hi, by rw [divS_open hi h91 hc]; simp, by rw [h91]; rfl, fun h => by omega, fun h => by omega, fun _ _ _ c h9 => by rw [h91]; exact hasW_one (by decide), fun h => by cases h⟩
theorem pstep_quote {i : Nat} (hi : i < p.length) (h92 : chr p i = 92) (h : i + 1 < p.length) : PStep p i (-1) (chr p (i + 1)) true (oneP (chr p (i + 1))) :=
 ⟨hi, by rw [divS_quote hi h92 h]; simp, by rw [h92]; rfl, fun h => by omega, fun h => by omega, fun _ _ _ c h9 => hasW_one (chr256 p _), fun _ => ⟨by omega, h⟩⟩
theorem pstep_one {i : Nat} (hi : i < p.length) (h91 : chr p i ≠ 91) (h : ¬ (chr p i = 92 ∧ i + 1 < p.length)) : ∃ x, PStep p i (-1) (chr p i) false x := by
 by_cases h42 : chr p i = 42
 ·exact ⟨starP, hi, by rw [divS_star hi h42]; simp, by rw [h42]; rfl, fun h => by omega, fun h => by omega, fun _ h => absurd h42 h, fun h => by cases h⟩
 by_cases h63 : chr p i = 63
 ·exact ⟨anyP, hi, by rw [divS_any hi h63]; simp, by rw [h63]; rfl, fun _ c h9 => hasW_any h9, fun h => by omega, fun _ _ h => absurd h63 h, fun h => by cases h⟩
 exact ⟨oneP (chr p i), hi, by rw [divS_one hi h42 h63 (fun h9 => h91 h9.1) h]; simp, by rw [decide_eq_false h42]; rfl, fun h => absurd h h63, fun h => by omega, fun _ _ _ c h9 => hasW_one (chr256 p _), fun h => by cases h⟩
def RInv (p s : List UInt8) (i : Nat) (q : List Bool) : Prop := q.length = s.length + 1 ∧ (MatchP (divS p true 0) s ↔ ∃ j, j ≤ s.length ∧ q[j]? = some true ∧ MatchP (divS p true i) (s.drop j))
def RNext (s : List UInt8) (x : Part) (q : List Bool) (j : Nat) : Prop := if x.star = true then ∃ k, k ≤ j ∧ q[k]? = some true else 0 < j ∧ q[j - 1]? = some true ∧ hasW x.ws (chr s (j - 1)) = true
theorem rinv_start (p s : List UInt8) : RInv p s 0 (true :: List.replicate s.length false) := by
 refine ⟨by simp, ⟨fun h => ⟨0, Nat.zero_le _, rfl, by simpa using h⟩, ?_⟩⟩
 rintro ⟨j, h1, h2, h3⟩
 cases j with
 | zero => simpa using h3
 | succ j =>
  rw [List.getElem?_cons_succ, List.getElem?_replicate] at h2
  split at h2 <;> simp at h2
theorem rinv_step {s : List UInt8} {i i' : Nat} {q q' : List Bool} {x : Part} (h : RInv p s i q) (hd : divS p true i = x :: divS p true i') (hl : q'.length = s.length + 1) (hn : ∀ j, j ≤ s.length → (q'[j]? = some true ↔ RNext s x q j)) : RInv p s i' q' := by
 refine ⟨hl, h.2.trans ?_⟩
 rw [hd]
 constructor
 ·rintro ⟨j, h1, h2, h3⟩
  change (if _ then _ else _) at h3
  split at h3
  ·rename_i hs
   obtain ⟨k, h4, h5⟩ := h3
   rw [List.length_drop] at h4
   rw [List.drop_drop] at h5
   refine ⟨j + k, by omega, (hn _ (by omega)).2 ?_, h5⟩
   unfold RNext; rw [if_pos hs]; exact ⟨j, by omega, h2⟩
  rename_i hs
  obtain ⟨c, t, h4, h5, h6⟩ := h3
  have hj : j < s.length := by
   have := congrArg List.length h4
   rw [List.length_drop, List.length_cons] at this; omega
  rw [List.drop_eq_getElem_cons hj] at h4
  have e1 := (List.cons.inj h4).1
  have e2 := (List.cons.inj h4).2
  refine ⟨j + 1, by omega, (hn _ (by omega)).2 ?_, by rw [e2]; exact h6⟩
  unfold RNext; rw [if_neg hs]
  refine ⟨by omega, by rw [Nat.add_sub_cancel]; exact h2, ?_⟩
  rw [Nat.add_sub_cancel, chr_at (List.getElem?_eq_getElem hj), e1]; exact h5
 rintro ⟨j, h1, h2, h3⟩
 have h4 := (hn j h1).1 h2
 unfold RNext at h4
 split at h4
 ·rename_i hs
  obtain ⟨k, h5, h6⟩ := h4
  refine ⟨k, by omega, h6, ?_⟩
  show (if _ then _ else _)
  rw [if_pos hs]
  exact ⟨j - k, by rw [List.length_drop]; omega, by rw [List.drop_drop, show k + (j - k) = j by omega]; exact h3⟩
 rename_i hs
 obtain ⟨h5, h6, h7⟩ := h4
 have hj : j - 1 < s.length := by omega
 refine ⟨j - 1, by omega, h6, ?_⟩
 show (if _ then _ else _)
 rw [if_neg hs]
 refine ⟨s[j - 1], s.drop j, ?_, ?_, h3⟩
 ·rw [List.drop_eq_getElem_cons hj, show j - 1 + 1 = j by omega]
 rw [chr_at (List.getElem?_eq_getElem hj)] at h7; exact h7
theorem rinv_end {s : List UInt8} {i : Nat} {q : List Bool} (h : RInv p s i q) (hi : ¬ i < p.length) {b : Bool} (hb : q[s.length]? = some b) : b = true ↔ MatchP (divS p true 0) s := by
 rw [h.2, divS_end hi]
 constructor
 ·rintro rfl
  exact ⟨s.length, Nat.le_refl _, hb, List.drop_length⟩
 rintro ⟨j, h1, h2, h3⟩
 have h3 : s.drop j = [] := h3
 have := congrArg List.length h3
 rw [List.length_drop, List.length_nil] at this
 obtain rfl : j = s.length := by omega
 rw [hb] at h2; exact Option.some.inj h2
structure Inn (s : List UInt8) (x : Part) (q : List Bool) (a : Nat) (n : List Bool) : Prop where
 len : n.length = s.length + 1
 done : ∀ j, j < a → (n[j]? = some true ↔ RNext s x q j)
 rest : ∀ j, a ≤ j → j ≤ s.length → n[j]? = some false
theorem Inn.start (s : List UInt8) (x : Part) (q : List Bool) : Inn s x q 0 (List.replicate (s.length + 1) false) :=
 ⟨by simp, fun j h => by omega, fun j _ h => by rw [List.getElem?_replicate, if_pos (by omega)]⟩
theorem Inn.set {s : List UInt8} {x : Part} {q n : List Bool} {a : Nat} {v : Bool} (h : Inn s x q a n) (ha : a ≤ s.length) (hv : v = true ↔ RNext s x q a) : Inn s x q (a + 1) (n.set a v) := by
 have hl := h.len
 refine ⟨by rw [List.length_set, hl], fun j hj => ?_, fun j hj hl => ?_⟩
 ·by_cases e : j = a
  ·subst e; rw [List.getElem?_set_self (by omega)]; exact ⟨fun e => hv.1 (Option.some.inj e), fun e => congrArg some (hv.2 e)⟩
  rw [List.getElem?_set_ne (fun e' => e e'.symm)]; exact h.done j (by omega)
 rw [List.getElem?_set_ne (by omega)]; exact h.rest j (by omega) hl
theorem Inn.skip {s : List UInt8} {x : Part} {q n : List Bool} {a : Nat} (h : Inn s x q a n) (ha : a ≤ s.length) (hv : ¬ RNext s x q a) : Inn s x q (a + 1) n := by
 refine ⟨h.len, fun j hj => ?_, fun j hj hl => h.rest j (by omega) hl⟩
 by_cases e : j = a
 ·subst e; rw [h.rest j (Nat.le_refl _) ha]; exact ⟨fun e => by simp at e, fun e => absurd e hv⟩
 exact h.done j (by omega)
theorem Inn.all {s : List UInt8} {x : Part} {q n : List Bool} (h : Inn s x q (s.length + 1) n) : ∀ j, j ≤ s.length → (n[j]? = some true ↔ RNext s x q j) := fun j hj => h.done j (by omega)
theorem rnext_byte {s : List UInt8} {x : Part} {q : List Bool} {j : Nat} (hs : x.star = false) : RNext s x q j ↔ 0 < j ∧ q[j - 1]? = some true ∧ hasW x.ws (chr s (j - 1)) = true := by
 unfold RNext; rw [if_neg (by rw [hs]; decide)]
theorem rnext_star {s : List UInt8} {x : Part} {q : List Bool} {j : Nat} (hs : x.star = true) : RNext s x q j ↔ q[j]? = some true ∨ (0 < j ∧ RNext s x q (j - 1)) := by
 unfold RNext; rw [if_pos hs, if_pos hs]
 constructor
 ·rintro ⟨k, h1, h2⟩
  by_cases h : k = j
  ·subst h; exact .inl h2
  exact .inr ⟨by omega, k, by omega, h2⟩
 rintro (h | ⟨h, k, h1, h2⟩)
 ·exact ⟨j, Nat.le_refl _, h⟩
 exact ⟨k, by omega, h2⟩
end
end Go.Pm
namespace Go.Proofs.YtanfkicimnfgjaaGreatDoor
open Go.RowKit Go.Pm
theorem refEnd (B : Base) (H : List Res) (w : World) (p : List UInt8) (hp : p.length ≤ 1000000) (i : Nat) (hi : i < p.length) (hv : Inv B H w) :
  Calls Tryz.prog 33 #[vS p, vI i] w fun e w' => ∃ k : Int, e = .returned (vI k) ∧ ((k = -1 ∧ clsS p (i + 1) = none) ∨ ∃ (q : Nat) (ws : W64), k = (q : Int) ∧ clsS p (i + 1) = some (ws, q + 1)) ∧ Inv B H w' := by
 refine cW Tryz.func33 rfl Tryz.ntmps33 ?_
 simp only [al]
 refine sK fun _ k1 => rL (uA rfl ?_)
 refine uW k1 (sK fun _ k2 => ?_)
 refine rL (uM rfl ?_)
 refine uG (vI ((i + 1 : Nat) : Int)) rfl (ex_add rfl rfl rfl (by rw [i64_in (by omega)]; omega)) (uA rfl ?_)
 refine uW k2 (sK fun K3 k3 => ?_)
 have hJ3 : ∀ (neg : Bool) (fi : Nat) (j9 j10 j11 j12 j13 j14 j15 j16 j17 j18 j19 j20 : Value) (w4 : World), (clsS p (i + 1) = classS p neg fi fi w0) → (fi ≤ p.length) → (i < fi) → Inv B (H) w4 → K3 { tmps := (vS p :: vI i :: undef :: undef :: vI 0 :: vI fi :: undef :: vI i :: vI ((i + 1 : Nat) : Int) :: j9 :: j10 :: j11 :: j12 :: j13 :: j14 :: j15 :: j16 :: j17 :: j18 :: j19 :: j20 :: undef :: undef :: undef :: undef :: undef :: undef :: undef :: undef :: undef :: undef :: undef :: undef :: undef :: undef :: undef :: undef :: undef :: undef :: undef :: undef :: undef :: undef :: undef :: undef :: undef :: undef :: undef :: undef :: undef :: undef :: undef :: undef :: undef :: undef :: undef :: undef :: undef :: undef :: undef :: undef :: undef :: undef :: undef :: undef :: undef :: undef :: undef :: undef :: undef :: undef :: undef :: undef :: undef :: undef :: undef :: undef :: undef :: undef :: undef :: undef :: undef :: undef :: undef :: []).toArray, defers := [] } w4 := by
  intro neg fi j9 j10 j11 j12 j13 j14 j15 j16 j17 j18 j19 j20 w4 hcl0 hfl hfi hv
  refine k3 _ _ (sK fun _ k5 => ?_)
  refine rL (uA rfl ?_)
  refine uW k5 (sK fun _ k6 => ?_)
  refine bB ?_
  gi_loopw [5, 6] (fun x5 x6 wr => ∃ (j : Nat) (f : Bool) (ws : W64), x5 = vI j ∧ x6 = .bool f ∧ ((f = true ∧ j = fi) ∨ (f = false ∧ fi < j)) ∧ j ≤ p.length ∧ clsS p (i + 1) = classS p neg fi j ws ∧ Inv B H wr) (fun x5 x6 _ => p.length - (intOf x5).toNat)
  case atStart => exact ⟨fi, true, w0, rfl, rfl, .inl ⟨rfl, rfl⟩, hfl, hcl0, hv⟩
  case round =>
   obtain ⟨j, f, ws, rfl, rfl, hf, hj, hcl, hv⟩ := hrel
   refine sK fun _ k8 => sK fun _ k9 => rL (uM rfl ?_)
   refine uM rfl ?_
   refine uG (vI (p.length : Int)) rfl (ex_lenStr Tryz.underlying9 rfl rfl) ?_
   by_cases hb10 : (j : Int) < (p.length : Int)
   ·refine uG (.bool true) rfl (ex_lss rfl rfl rfl (qT hb10)) (uW k9 ?_)
    refine cT rfl (kS ?_)
    refine tK k8 (bB ?_)
    refine sK fun K11 k11 => ?_
    have hJ11 : ∀ (j4 j25 j26 j27 j28 j29 j30 j31 j32 j33 : Value) (w12 : World), (¬ (chr p j = 93 ∧ fi < j)) → Inv B (H) w12 → K11 { tmps := (vS p :: vI i :: undef :: undef :: j4 :: vI j :: Value.bool f :: vI i :: vI ((i + 1 : Nat) : Int) :: j9 :: j10 :: j11 :: j12 :: j13 :: j14 :: j15 :: j16 :: j17 :: j18 :: j19 :: j20 :: vI j :: vS p :: vI (p.length : Int) :: Value.bool true :: j25 :: j26 :: j27 :: j28 :: j29 :: j30 :: j31 :: j32 :: j33 :: u34 :: u35 :: u36 :: u37 :: u38 :: u39 :: u40 :: u41 :: u42 :: u43 :: u44 :: u45 :: u46 :: u47 :: u48 :: u49 :: u50 :: u51 :: u52 :: u53 :: u54 :: u55 :: u56 :: u57 :: u58 :: u59 :: u60 :: u61 :: u62 :: u63 :: u64 :: u65 :: u66 :: u67 :: u68 :: u69 :: u70 :: u71 :: u72 :: u73 :: u74 :: u75 :: u76 :: u77 :: u78 :: u79 :: u80 :: u81 :: u82 :: u83 :: []).toArray, defers := [] } w12 := by
     intro j4 j25 j26 j27 j28 j29 j30 j31 j32 j33 w12 hno hv
     refine k11 _ _ (sK fun _ k13 => ?_)
     refine rL (uA rfl ?_)
     refine uW k13 (sK fun _ k14 => ?_)
     refine sK fun _ k15 => rL (uM rfl ?_)
     refine uM rfl ?_
     obtain ⟨y16, hy16⟩ : ∃ y, p[j]? = some y := ⟨_, List.getElem?_eq_getElem (show j < p.length by omega)⟩
     have hy16c := chr_at hy16
     refine uG (.int .u8 (chr p (j) : Int)) rfl ((by rw [hy16c]; exact ex_sidx0 Tryz.underlying9 rfl rfl rfl hy16)) ?_
     by_cases hb17 : (chr p (j) : Int) = 92
     ·refine uG (.bool true) rfl (ex_eql rfl rfl rfl (qT hb17)) (uM rfl ?_)
      refine uM rfl ?_
      refine uG (vI ((j + 1 : Nat) : Int)) rfl (ex_add rfl rfl rfl (by rw [i64_in (by omega)]; omega)) ?_
      refine uM rfl ?_
      refine uG (vI (p.length : Int)) rfl (ex_lenStr Tryz.underlying9 rfl rfl) ?_
      by_cases hb18 : ((j + 1 : Nat) : Int) < (p.length : Int)
      ·refine uG (.bool true) rfl (ex_lss rfl rfl rfl (qT hb18)) (uK rfl ?_)
       refine uW k15 (cT rfl ?_)
       refine rL (uM rfl ?_)
       refine uG (vI ((j + 1 : Nat) : Int)) rfl (ex_add rfl rfl rfl (by rw [i64_in (by omega)]; omega)) (uA rfl ?_)
       refine uW k14 (sK fun K19 k19 => ?_)
       have hJ19 : ∀ (j1 : Nat) (j47 j48 : Value) (w20 : World), ((litS p j).2 = j1) → (j < j1 ∧ j1 ≤ p.length) → Inv B (H) w20 → K19 { tmps := (vS p :: vI i :: undef :: undef :: j4 :: vI j1 :: Value.bool false :: vI i :: vI ((i + 1 : Nat) : Int) :: j9 :: j10 :: j11 :: j12 :: j13 :: j14 :: j15 :: j16 :: j17 :: j18 :: j19 :: j20 :: vI j :: vS p :: vI (p.length : Int) :: Value.bool true :: j25 :: j26 :: j27 :: j28 :: j29 :: j30 :: j31 :: j32 :: j33 :: vS p :: vI j :: Value.int .u8 (chr p (j) : Int) :: Value.bool true :: Value.bool true :: vI j :: vI ((j + 1 : Nat) : Int) :: vS p :: vI (p.length : Int) :: Value.bool true :: Value.bool true :: vI j :: vI ((j + 1 : Nat) : Int) :: j47 :: j48 :: u49 :: u50 :: u51 :: u52 :: u53 :: u54 :: u55 :: u56 :: u57 :: u58 :: u59 :: u60 :: u61 :: u62 :: u63 :: u64 :: u65 :: u66 :: u67 :: u68 :: u69 :: u70 :: u71 :: u72 :: u73 :: u74 :: u75 :: u76 :: u77 :: u78 :: u79 :: u80 :: u81 :: u82 :: u83 :: []).toArray, defers := [] } w20 := by
        intro j1 j47 j48 w20 hj1 hjj hv
        refine k19 _ _ (sK fun _ k21 => ?_)
        refine rL (uM rfl ?_)
        refine uG (vI ((j1 + 1 : Nat) : Int)) rfl (ex_add rfl rfl rfl (by rw [i64_in (by omega)]; omega)) (uM rfl ?_)
        refine uG (vI (p.length : Int)) rfl (ex_lenStr Tryz.underlying9 rfl rfl) ?_
        by_cases hb22 : ((j1 + 1 : Nat) : Int) < (p.length : Int)
        ·refine uG (.bool true) rfl (ex_lss rfl rfl rfl (qT hb22)) (uM rfl ?_)
         refine uM rfl ?_
         refine uM rfl ?_
         obtain ⟨y23, hy23⟩ : ∃ y, p[j1]? = some y := ⟨_, List.getElem?_eq_getElem (show j1 < p.length by omega)⟩
         have hy23c := chr_at hy23
         refine uG (.int .u8 (chr p (j1) : Int)) rfl ((by rw [hy23c]; exact ex_sidx0 Tryz.underlying9 rfl rfl rfl hy23)) ?_
         by_cases hb24 : (chr p (j1) : Int) = 45
         ·refine uG (.bool true) rfl (ex_eql rfl rfl rfl (qT hb24)) (uK rfl ?_)
          refine uM rfl ?_
          refine uM rfl ?_
          refine uM rfl ?_
          refine uG (vI ((j1 + 1 : Nat) : Int)) rfl (ex_add rfl rfl rfl (by rw [i64_in (by omega)]; omega)) ?_
          obtain ⟨y25, hy25⟩ : ∃ y, p[j1 + 1]? = some y := ⟨_, List.getElem?_eq_getElem (show j1 + 1 < p.length by omega)⟩
          have hy25c := chr_at hy25
          refine uG (.int .u8 (chr p (j1 + 1) : Int)) rfl ((by rw [hy25c]; exact ex_sidx0 Tryz.underlying9 rfl rfl rfl hy25)) ?_
          by_cases hb26 : (chr p (j1 + 1) : Int) ≠ 93
          ·refine uG (.bool true) rfl (ex_neq rfl rfl rfl (qT hb26)) (uK rfl ?_)
           refine uW k21 (cT rfl ?_)
           refine sK fun _ k27 => rL (uM rfl ?_)
           refine uG (vI ((j1 + 1 : Nat) : Int)) rfl (ex_add rfl rfl rfl (by rw [i64_in (by omega)]; omega)) (uA rfl ?_)
           refine uW k27 (sK fun _ k28 => ?_)
           refine sK fun _ k29 => rL (uM rfl ?_)
           refine uM rfl ?_
           refine uG (.int .u8 (chr p (j1 + 1) : Int)) rfl ((by rw [hy25c]; exact ex_sidx0 Tryz.underlying9 rfl rfl rfl hy25)) ?_
           by_cases hb30 : (chr p (j1 + 1) : Int) = 92
           ·refine uG (.bool true) rfl (ex_eql rfl rfl rfl (qT hb30)) (uM rfl ?_)
            refine uM rfl ?_
            refine uG (vI ((j1 + 2 : Nat) : Int)) rfl (ex_add rfl rfl rfl (by rw [i64_in (by omega)]; omega)) ?_
            refine uM rfl ?_
            refine uG (vI (p.length : Int)) rfl (ex_lenStr Tryz.underlying9 rfl rfl) ?_
            by_cases hb31 : ((j1 + 2 : Nat) : Int) < (p.length : Int)
            ·refine uG (.bool true) rfl (ex_lss rfl rfl rfl (qT hb31)) (uK rfl ?_)
             refine uW k29 (cT rfl ?_)
             refine rL (uM rfl ?_)
             refine uG (vI ((j1 + 2 : Nat) : Int)) rfl (ex_add rfl rfl rfl (by rw [i64_in (by omega)]; omega)) (uA rfl ?_)
             refine uW k28 (rL ?_)
             refine uM rfl ?_
             refine uG (vI ((j1 + 3 : Nat) : Int)) rfl (ex_add rfl rfl rfl (by rw [i64_in (by omega)]; omega)) (uA rfl ?_)
             refine uZ (bN ?_)
             refine then_normal ?_
             go_roundw
             have hh : (highS p j1 (litS p j).1).2 = j1 + 3 := by unfold highS; rw [if_pos ⟨by omega, by omega, by omega⟩]; unfold litS; rw [if_pos ⟨by omega, by omega⟩]
             case rel => exact ⟨j1 + 3, false, addRangeW ws (litS p j).1 (highS p j1 (litS p j).1).1, rfl, rfl, .inr ⟨rfl, by omega⟩, by omega, hcl.trans ((classS_step p (by omega) hno).trans (by rw [hj1, hh])), hv⟩
             case measure => show p.length - (((j1 + 3 : Nat) : Int)).toNat < p.length - ((j : Int)).toNat; omega
            refine uG (.bool false) rfl (ex_lss rfl rfl rfl (qF hb31)) (uK rfl ?_)
            refine uW k29 (cF rfl ?_)
            refine kS (tK k28 ?_)
            refine rL (uM rfl ?_)
            refine uG (vI ((j1 + 2 : Nat) : Int)) rfl (ex_add rfl rfl rfl (by rw [i64_in (by omega)]; omega)) (uA rfl ?_)
            refine uZ (bN ?_)
            refine then_normal ?_
            go_roundw
            have hh : (highS p j1 (litS p j).1).2 = j1 + 2 := by unfold highS; rw [if_pos ⟨by omega, by omega, by omega⟩]; unfold litS; rw [if_neg (by omega)]
            case rel => exact ⟨j1 + 2, false, addRangeW ws (litS p j).1 (highS p j1 (litS p j).1).1, rfl, rfl, .inr ⟨rfl, by omega⟩, by omega, hcl.trans ((classS_step p (by omega) hno).trans (by rw [hj1, hh])), hv⟩
            case measure => show p.length - (((j1 + 2 : Nat) : Int)).toNat < p.length - ((j : Int)).toNat; omega
           refine uG (.bool false) rfl (ex_eql rfl rfl rfl (qF hb30)) (uM rfl ?_)
           iterate 5 refine uP rfl ?_
           refine uK rfl (uW k29 ?_)
           refine cF rfl (kS ?_)
           refine tK k28 (rL ?_)
           refine uM rfl ?_
           refine uG (vI ((j1 + 2 : Nat) : Int)) rfl (ex_add rfl rfl rfl (by rw [i64_in (by omega)]; omega)) (uA rfl ?_)
           refine uZ (bN ?_)
           refine then_normal ?_
           go_roundw
           have hh : (highS p j1 (litS p j).1).2 = j1 + 2 := by unfold highS; rw [if_pos ⟨by omega, by omega, by omega⟩]; unfold litS; rw [if_neg (by omega)]
           case rel => exact ⟨j1 + 2, false, addRangeW ws (litS p j).1 (highS p j1 (litS p j).1).1, rfl, rfl, .inr ⟨rfl, by omega⟩, by omega, hcl.trans ((classS_step p (by omega) hno).trans (by rw [hj1, hh])), hv⟩
           case measure => show p.length - (((j1 + 2 : Nat) : Int)).toNat < p.length - ((j : Int)).toNat; omega
          refine uG (.bool false) rfl (ex_neq rfl rfl rfl (qF hb26)) (uK rfl ?_)
          refine uW k21 (cF rfl ?_)
          refine kS (bN ?_)
          refine then_normal ?_
          go_roundw
          have hh : (highS p j1 (litS p j).1).2 = j1 := by unfold highS; rw [if_neg (by omega)]
          case rel => exact ⟨j1, false, addRangeW ws (litS p j).1 (highS p j1 (litS p j).1).1, rfl, rfl, .inr ⟨rfl, by omega⟩, by omega, hcl.trans ((classS_step p (by omega) hno).trans (by rw [hj1, hh])), hv⟩
          case measure => show p.length - ((j1 : Int)).toNat < p.length - ((j : Int)).toNat; omega
         refine uG (.bool false) rfl (ex_eql rfl rfl rfl (qF hb24)) (uK rfl ?_)
         refine uM rfl ?_
         iterate 5 refine uP rfl ?_
         refine uK rfl (uW k21 ?_)
         refine cF rfl (kS ?_)
         refine bN (then_normal ?_)
         go_roundw
         have hh : (highS p j1 (litS p j).1).2 = j1 := by unfold highS; rw [if_neg (by omega)]
         case rel => exact ⟨j1, false, addRangeW ws (litS p j).1 (highS p j1 (litS p j).1).1, rfl, rfl, .inr ⟨rfl, by omega⟩, by omega, hcl.trans ((classS_step p (by omega) hno).trans (by rw [hj1, hh])), hv⟩
         case measure => show p.length - ((j1 : Int)).toNat < p.length - ((j : Int)).toNat; omega
        refine uG (.bool false) rfl (ex_lss rfl rfl rfl (qF hb22)) (uM rfl ?_)
        iterate 4 refine uP rfl ?_
        refine uK rfl (uM rfl ?_)
        iterate 5 refine uP rfl ?_
        refine uK rfl (uW k21 ?_)
        refine cF rfl (kS ?_)
        refine bN (then_normal ?_)
        go_roundw
        have hh : (highS p j1 (litS p j).1).2 = j1 := by unfold highS; rw [if_neg (by omega)]
        case rel => exact ⟨j1, false, addRangeW ws (litS p j).1 (highS p j1 (litS p j).1).1, rfl, rfl, .inr ⟨rfl, by omega⟩, by omega, hcl.trans ((classS_step p (by omega) hno).trans (by rw [hj1, hh])), hv⟩
        case measure => show p.length - ((j1 : Int)).toNat < p.length - ((j : Int)).toNat; omega
       refine rL (uM rfl ?_)
       refine uG (vI ((j + 2 : Nat) : Int)) rfl (ex_add rfl rfl rfl (by rw [i64_in (by omega)]; omega)) (uA rfl ?_)
       refine uZ (then_normal (hJ19 (j + 2) _ _ _ (by unfold litS; rw [if_pos ⟨by omega, by omega⟩]) (by omega) hv))
      refine uG (.bool false) rfl (ex_lss rfl rfl rfl (qF hb18)) (uK rfl ?_)
      refine uW k15 (cF rfl ?_)
      refine kS (tK k14 ?_)
      refine sK fun K32 k32 => ?_
      have hJ32 : ∀ (j1 : Nat) (j47 j48 : Value) (w33 : World), ((litS p j).2 = j1) → (j < j1 ∧ j1 ≤ p.length) → Inv B (H) w33 → K32 { tmps := (vS p :: vI i :: undef :: undef :: j4 :: vI j1 :: Value.bool false :: vI i :: vI ((i + 1 : Nat) : Int) :: j9 :: j10 :: j11 :: j12 :: j13 :: j14 :: j15 :: j16 :: j17 :: j18 :: j19 :: j20 :: vI j :: vS p :: vI (p.length : Int) :: Value.bool true :: j25 :: j26 :: j27 :: j28 :: j29 :: j30 :: j31 :: j32 :: j33 :: vS p :: vI j :: Value.int .u8 (chr p (j) : Int) :: Value.bool true :: Value.bool true :: vI j :: vI ((j + 1 : Nat) : Int) :: vS p :: vI (p.length : Int) :: Value.bool false :: Value.bool false :: u45 :: u46 :: j47 :: j48 :: u49 :: u50 :: u51 :: u52 :: u53 :: u54 :: u55 :: u56 :: u57 :: u58 :: u59 :: u60 :: u61 :: u62 :: u63 :: u64 :: u65 :: u66 :: u67 :: u68 :: u69 :: u70 :: u71 :: u72 :: u73 :: u74 :: u75 :: u76 :: u77 :: u78 :: u79 :: u80 :: u81 :: u82 :: u83 :: []).toArray, defers := [] } w33 := by
       intro j1 j47 j48 w33 hj1 hjj hv
       refine k32 _ _ (sK fun _ k34 => ?_)
       refine rL (uM rfl ?_)
       refine uG (vI ((j1 + 1 : Nat) : Int)) rfl (ex_add rfl rfl rfl (by rw [i64_in (by omega)]; omega)) (uM rfl ?_)
       refine uG (vI (p.length : Int)) rfl (ex_lenStr Tryz.underlying9 rfl rfl) ?_
       by_cases hb35 : ((j1 + 1 : Nat) : Int) < (p.length : Int)
       ·refine uG (.bool true) rfl (ex_lss rfl rfl rfl (qT hb35)) (uM rfl ?_)
        refine uM rfl ?_
        refine uM rfl ?_
        obtain ⟨y36, hy36⟩ : ∃ y, p[j1]? = some y := ⟨_, List.getElem?_eq_getElem (show j1 < p.length by omega)⟩
        have hy36c := chr_at hy36
        refine uG (.int .u8 (chr p (j1) : Int)) rfl ((by rw [hy36c]; exact ex_sidx0 Tryz.underlying9 rfl rfl rfl hy36)) ?_
        by_cases hb37 : (chr p (j1) : Int) = 45
        ·refine uG (.bool true) rfl (ex_eql rfl rfl rfl (qT hb37)) (uK rfl ?_)
         refine uM rfl ?_
         refine uM rfl ?_
         refine uM rfl ?_
         refine uG (vI ((j1 + 1 : Nat) : Int)) rfl (ex_add rfl rfl rfl (by rw [i64_in (by omega)]; omega)) ?_
         obtain ⟨y38, hy38⟩ : ∃ y, p[j1 + 1]? = some y := ⟨_, List.getElem?_eq_getElem (show j1 + 1 < p.length by omega)⟩
         have hy38c := chr_at hy38
         refine uG (.int .u8 (chr p (j1 + 1) : Int)) rfl ((by rw [hy38c]; exact ex_sidx0 Tryz.underlying9 rfl rfl rfl hy38)) ?_
         by_cases hb39 : (chr p (j1 + 1) : Int) ≠ 93
         ·refine uG (.bool true) rfl (ex_neq rfl rfl rfl (qT hb39)) (uK rfl ?_)
          refine uW k34 (cT rfl ?_)
          refine sK fun _ k40 => rL (uM rfl ?_)
          refine uG (vI ((j1 + 1 : Nat) : Int)) rfl (ex_add rfl rfl rfl (by rw [i64_in (by omega)]; omega)) (uA rfl ?_)
          refine uW k40 (sK fun _ k41 => ?_)
          refine sK fun _ k42 => rL (uM rfl ?_)
          refine uM rfl ?_
          refine uG (.int .u8 (chr p (j1 + 1) : Int)) rfl ((by rw [hy38c]; exact ex_sidx0 Tryz.underlying9 rfl rfl rfl hy38)) ?_
          by_cases hb43 : (chr p (j1 + 1) : Int) = 92
          ·refine uG (.bool true) rfl (ex_eql rfl rfl rfl (qT hb43)) (uM rfl ?_)
           refine uM rfl ?_
           refine uG (vI ((j1 + 2 : Nat) : Int)) rfl (ex_add rfl rfl rfl (by rw [i64_in (by omega)]; omega)) ?_
           refine uM rfl ?_
           refine uG (vI (p.length : Int)) rfl (ex_lenStr Tryz.underlying9 rfl rfl) ?_
           by_cases hb44 : ((j1 + 2 : Nat) : Int) < (p.length : Int)
           ·refine uG (.bool true) rfl (ex_lss rfl rfl rfl (qT hb44)) (uK rfl ?_)
            refine uW k42 (cT rfl ?_)
            refine rL (uM rfl ?_)
            refine uG (vI ((j1 + 2 : Nat) : Int)) rfl (ex_add rfl rfl rfl (by rw [i64_in (by omega)]; omega)) (uA rfl ?_)
            refine uW k41 (rL ?_)
            refine uM rfl ?_
            refine uG (vI ((j1 + 3 : Nat) : Int)) rfl (ex_add rfl rfl rfl (by rw [i64_in (by omega)]; omega)) (uA rfl ?_)
            refine uZ (bN ?_)
            refine then_normal ?_
            go_roundw
            have hh : (highS p j1 (litS p j).1).2 = j1 + 3 := by unfold highS; rw [if_pos ⟨by omega, by omega, by omega⟩]; unfold litS; rw [if_pos ⟨by omega, by omega⟩]
            case rel => exact ⟨j1 + 3, false, addRangeW ws (litS p j).1 (highS p j1 (litS p j).1).1, rfl, rfl, .inr ⟨rfl, by omega⟩, by omega, hcl.trans ((classS_step p (by omega) hno).trans (by rw [hj1, hh])), hv⟩
            case measure => show p.length - (((j1 + 3 : Nat) : Int)).toNat < p.length - ((j : Int)).toNat; omega
           refine uG (.bool false) rfl (ex_lss rfl rfl rfl (qF hb44)) (uK rfl ?_)
           refine uW k42 (cF rfl ?_)
           refine kS (tK k41 ?_)
           refine rL (uM rfl ?_)
           refine uG (vI ((j1 + 2 : Nat) : Int)) rfl (ex_add rfl rfl rfl (by rw [i64_in (by omega)]; omega)) (uA rfl ?_)
           refine uZ (bN ?_)
           refine then_normal ?_
           go_roundw
           have hh : (highS p j1 (litS p j).1).2 = j1 + 2 := by unfold highS; rw [if_pos ⟨by omega, by omega, by omega⟩]; unfold litS; rw [if_neg (by omega)]
           case rel => exact ⟨j1 + 2, false, addRangeW ws (litS p j).1 (highS p j1 (litS p j).1).1, rfl, rfl, .inr ⟨rfl, by omega⟩, by omega, hcl.trans ((classS_step p (by omega) hno).trans (by rw [hj1, hh])), hv⟩
           case measure => show p.length - (((j1 + 2 : Nat) : Int)).toNat < p.length - ((j : Int)).toNat; omega
          refine uG (.bool false) rfl (ex_eql rfl rfl rfl (qF hb43)) (uM rfl ?_)
          iterate 5 refine uP rfl ?_
          refine uK rfl (uW k42 ?_)
          refine cF rfl (kS ?_)
          refine tK k41 (rL ?_)
          refine uM rfl ?_
          refine uG (vI ((j1 + 2 : Nat) : Int)) rfl (ex_add rfl rfl rfl (by rw [i64_in (by omega)]; omega)) (uA rfl ?_)
          refine uZ (bN ?_)
          refine then_normal ?_
          go_roundw
          have hh : (highS p j1 (litS p j).1).2 = j1 + 2 := by unfold highS; rw [if_pos ⟨by omega, by omega, by omega⟩]; unfold litS; rw [if_neg (by omega)]
          case rel => exact ⟨j1 + 2, false, addRangeW ws (litS p j).1 (highS p j1 (litS p j).1).1, rfl, rfl, .inr ⟨rfl, by omega⟩, by omega, hcl.trans ((classS_step p (by omega) hno).trans (by rw [hj1, hh])), hv⟩
          case measure => show p.length - (((j1 + 2 : Nat) : Int)).toNat < p.length - ((j : Int)).toNat; omega
         refine uG (.bool false) rfl (ex_neq rfl rfl rfl (qF hb39)) (uK rfl ?_)
         refine uW k34 (cF rfl ?_)
         refine kS (bN ?_)
         refine then_normal ?_
         go_roundw
         have hh : (highS p j1 (litS p j).1).2 = j1 := by unfold highS; rw [if_neg (by omega)]
         case rel => exact ⟨j1, false, addRangeW ws (litS p j).1 (highS p j1 (litS p j).1).1, rfl, rfl, .inr ⟨rfl, by omega⟩, by omega, hcl.trans ((classS_step p (by omega) hno).trans (by rw [hj1, hh])), hv⟩
         case measure => show p.length - ((j1 : Int)).toNat < p.length - ((j : Int)).toNat; omega
        refine uG (.bool false) rfl (ex_eql rfl rfl rfl (qF hb37)) (uK rfl ?_)
        refine uM rfl ?_
        iterate 5 refine uP rfl ?_
        refine uK rfl (uW k34 ?_)
        refine cF rfl (kS ?_)
        refine bN (then_normal ?_)
        go_roundw
        have hh : (highS p j1 (litS p j).1).2 = j1 := by unfold highS; rw [if_neg (by omega)]
        case rel => exact ⟨j1, false, addRangeW ws (litS p j).1 (highS p j1 (litS p j).1).1, rfl, rfl, .inr ⟨rfl, by omega⟩, by omega, hcl.trans ((classS_step p (by omega) hno).trans (by rw [hj1, hh])), hv⟩
        case measure => show p.length - ((j1 : Int)).toNat < p.length - ((j : Int)).toNat; omega
       refine uG (.bool false) rfl (ex_lss rfl rfl rfl (qF hb35)) (uM rfl ?_)
       iterate 4 refine uP rfl ?_
       refine uK rfl (uM rfl ?_)
       iterate 5 refine uP rfl ?_
       refine uK rfl (uW k34 ?_)
       refine cF rfl (kS ?_)
       refine bN (then_normal ?_)
       go_roundw
       have hh : (highS p j1 (litS p j).1).2 = j1 := by unfold highS; rw [if_neg (by omega)]
       case rel => exact ⟨j1, false, addRangeW ws (litS p j).1 (highS p j1 (litS p j).1).1, rfl, rfl, .inr ⟨rfl, by omega⟩, by omega, hcl.trans ((classS_step p (by omega) hno).trans (by rw [hj1, hh])), hv⟩
       case measure => show p.length - ((j1 : Int)).toNat < p.length - ((j : Int)).toNat; omega
      refine rL (uM rfl ?_)
      refine uG (vI ((j + 1 : Nat) : Int)) rfl (ex_add rfl rfl rfl (by rw [i64_in (by omega)]; omega)) (uA rfl ?_)
      refine uZ (then_normal (hJ32 (j + 1) _ _ _ (by unfold litS; rw [if_neg (by omega)]) (by omega) hv))
     refine uG (.bool false) rfl (ex_eql rfl rfl rfl (qF hb17)) (uM rfl ?_)
     iterate 5 refine uP rfl ?_
     refine uK rfl (uW k15 ?_)
     refine cF rfl (kS ?_)
     refine tK k14 (sK fun K45 k45 => ?_)
     have hJ45 : ∀ (j1 : Nat) (j47 j48 : Value) (w46 : World), ((litS p j).2 = j1) → (j < j1 ∧ j1 ≤ p.length) → Inv B (H) w46 → K45 { tmps := (vS p :: vI i :: undef :: undef :: j4 :: vI j1 :: Value.bool false :: vI i :: vI ((i + 1 : Nat) : Int) :: j9 :: j10 :: j11 :: j12 :: j13 :: j14 :: j15 :: j16 :: j17 :: j18 :: j19 :: j20 :: vI j :: vS p :: vI (p.length : Int) :: Value.bool true :: j25 :: j26 :: j27 :: j28 :: j29 :: j30 :: j31 :: j32 :: j33 :: vS p :: vI j :: Value.int .u8 (chr p (j) : Int) :: Value.bool false :: Value.bool false :: undef :: undef :: undef :: undef :: undef :: Value.bool false :: u45 :: u46 :: j47 :: j48 :: u49 :: u50 :: u51 :: u52 :: u53 :: u54 :: u55 :: u56 :: u57 :: u58 :: u59 :: u60 :: u61 :: u62 :: u63 :: u64 :: u65 :: u66 :: u67 :: u68 :: u69 :: u70 :: u71 :: u72 :: u73 :: u74 :: u75 :: u76 :: u77 :: u78 :: u79 :: u80 :: u81 :: u82 :: u83 :: []).toArray, defers := [] } w46 := by
      intro j1 j47 j48 w46 hj1 hjj hv
      refine k45 _ _ (sK fun _ k47 => ?_)
      refine rL (uM rfl ?_)
      refine uG (vI ((j1 + 1 : Nat) : Int)) rfl (ex_add rfl rfl rfl (by rw [i64_in (by omega)]; omega)) (uM rfl ?_)
      refine uG (vI (p.length : Int)) rfl (ex_lenStr Tryz.underlying9 rfl rfl) ?_
      by_cases hb48 : ((j1 + 1 : Nat) : Int) < (p.length : Int)
      ·refine uG (.bool true) rfl (ex_lss rfl rfl rfl (qT hb48)) (uM rfl ?_)
       refine uM rfl ?_
       refine uM rfl ?_
       obtain ⟨y49, hy49⟩ : ∃ y, p[j1]? = some y := ⟨_, List.getElem?_eq_getElem (show j1 < p.length by omega)⟩
       have hy49c := chr_at hy49
       refine uG (.int .u8 (chr p (j1) : Int)) rfl ((by rw [hy49c]; exact ex_sidx0 Tryz.underlying9 rfl rfl rfl hy49)) ?_
       by_cases hb50 : (chr p (j1) : Int) = 45
       ·refine uG (.bool true) rfl (ex_eql rfl rfl rfl (qT hb50)) (uK rfl ?_)
        refine uM rfl ?_
        refine uM rfl ?_
        refine uM rfl ?_
        refine uG (vI ((j1 + 1 : Nat) : Int)) rfl (ex_add rfl rfl rfl (by rw [i64_in (by omega)]; omega)) ?_
        obtain ⟨y51, hy51⟩ : ∃ y, p[j1 + 1]? = some y := ⟨_, List.getElem?_eq_getElem (show j1 + 1 < p.length by omega)⟩
        have hy51c := chr_at hy51
        refine uG (.int .u8 (chr p (j1 + 1) : Int)) rfl ((by rw [hy51c]; exact ex_sidx0 Tryz.underlying9 rfl rfl rfl hy51)) ?_
        by_cases hb52 : (chr p (j1 + 1) : Int) ≠ 93
        ·refine uG (.bool true) rfl (ex_neq rfl rfl rfl (qT hb52)) (uK rfl ?_)
         refine uW k47 (cT rfl ?_)
         refine sK fun _ k53 => rL (uM rfl ?_)
         refine uG (vI ((j1 + 1 : Nat) : Int)) rfl (ex_add rfl rfl rfl (by rw [i64_in (by omega)]; omega)) (uA rfl ?_)
         refine uW k53 (sK fun _ k54 => ?_)
         refine sK fun _ k55 => rL (uM rfl ?_)
         refine uM rfl ?_
         refine uG (.int .u8 (chr p (j1 + 1) : Int)) rfl ((by rw [hy51c]; exact ex_sidx0 Tryz.underlying9 rfl rfl rfl hy51)) ?_
         by_cases hb56 : (chr p (j1 + 1) : Int) = 92
         ·refine uG (.bool true) rfl (ex_eql rfl rfl rfl (qT hb56)) (uM rfl ?_)
          refine uM rfl ?_
          refine uG (vI ((j1 + 2 : Nat) : Int)) rfl (ex_add rfl rfl rfl (by rw [i64_in (by omega)]; omega)) ?_
          refine uM rfl ?_
          refine uG (vI (p.length : Int)) rfl (ex_lenStr Tryz.underlying9 rfl rfl) ?_
          by_cases hb57 : ((j1 + 2 : Nat) : Int) < (p.length : Int)
          ·refine uG (.bool true) rfl (ex_lss rfl rfl rfl (qT hb57)) (uK rfl ?_)
           refine uW k55 (cT rfl ?_)
           refine rL (uM rfl ?_)
           refine uG (vI ((j1 + 2 : Nat) : Int)) rfl (ex_add rfl rfl rfl (by rw [i64_in (by omega)]; omega)) (uA rfl ?_)
           refine uW k54 (rL ?_)
           refine uM rfl ?_
           refine uG (vI ((j1 + 3 : Nat) : Int)) rfl (ex_add rfl rfl rfl (by rw [i64_in (by omega)]; omega)) (uA rfl ?_)
           refine uZ (bN ?_)
           refine then_normal ?_
           go_roundw
           have hh : (highS p j1 (litS p j).1).2 = j1 + 3 := by unfold highS; rw [if_pos ⟨by omega, by omega, by omega⟩]; unfold litS; rw [if_pos ⟨by omega, by omega⟩]
           case rel => exact ⟨j1 + 3, false, addRangeW ws (litS p j).1 (highS p j1 (litS p j).1).1, rfl, rfl, .inr ⟨rfl, by omega⟩, by omega, hcl.trans ((classS_step p (by omega) hno).trans (by rw [hj1, hh])), hv⟩
           case measure => show p.length - (((j1 + 3 : Nat) : Int)).toNat < p.length - ((j : Int)).toNat; omega
          refine uG (.bool false) rfl (ex_lss rfl rfl rfl (qF hb57)) (uK rfl ?_)
          refine uW k55 (cF rfl ?_)
          refine kS (tK k54 ?_)
          refine rL (uM rfl ?_)
          refine uG (vI ((j1 + 2 : Nat) : Int)) rfl (ex_add rfl rfl rfl (by rw [i64_in (by omega)]; omega)) (uA rfl ?_)
          refine uZ (bN ?_)
          refine then_normal ?_
          go_roundw
          have hh : (highS p j1 (litS p j).1).2 = j1 + 2 := by unfold highS; rw [if_pos ⟨by omega, by omega, by omega⟩]; unfold litS; rw [if_neg (by omega)]
          case rel => exact ⟨j1 + 2, false, addRangeW ws (litS p j).1 (highS p j1 (litS p j).1).1, rfl, rfl, .inr ⟨rfl, by omega⟩, by omega, hcl.trans ((classS_step p (by omega) hno).trans (by rw [hj1, hh])), hv⟩
          case measure => show p.length - (((j1 + 2 : Nat) : Int)).toNat < p.length - ((j : Int)).toNat; omega
         refine uG (.bool false) rfl (ex_eql rfl rfl rfl (qF hb56)) (uM rfl ?_)
         iterate 5 refine uP rfl ?_
         refine uK rfl (uW k55 ?_)
         refine cF rfl (kS ?_)
         refine tK k54 (rL ?_)
         refine uM rfl ?_
         refine uG (vI ((j1 + 2 : Nat) : Int)) rfl (ex_add rfl rfl rfl (by rw [i64_in (by omega)]; omega)) (uA rfl ?_)
         refine uZ (bN ?_)
         refine then_normal ?_
         go_roundw
         have hh : (highS p j1 (litS p j).1).2 = j1 + 2 := by unfold highS; rw [if_pos ⟨by omega, by omega, by omega⟩]; unfold litS; rw [if_neg (by omega)]
         case rel => exact ⟨j1 + 2, false, addRangeW ws (litS p j).1 (highS p j1 (litS p j).1).1, rfl, rfl, .inr ⟨rfl, by omega⟩, by omega, hcl.trans ((classS_step p (by omega) hno).trans (by rw [hj1, hh])), hv⟩
         case measure => show p.length - (((j1 + 2 : Nat) : Int)).toNat < p.length - ((j : Int)).toNat; omega
        refine uG (.bool false) rfl (ex_neq rfl rfl rfl (qF hb52)) (uK rfl ?_)
        refine uW k47 (cF rfl ?_)
        refine kS (bN ?_)
        refine then_normal ?_
        go_roundw
        have hh : (highS p j1 (litS p j).1).2 = j1 := by unfold highS; rw [if_neg (by omega)]
        case rel => exact ⟨j1, false, addRangeW ws (litS p j).1 (highS p j1 (litS p j).1).1, rfl, rfl, .inr ⟨rfl, by omega⟩, by omega, hcl.trans ((classS_step p (by omega) hno).trans (by rw [hj1, hh])), hv⟩
        case measure => show p.length - ((j1 : Int)).toNat < p.length - ((j : Int)).toNat; omega
       refine uG (.bool false) rfl (ex_eql rfl rfl rfl (qF hb50)) (uK rfl ?_)
       refine uM rfl ?_
       iterate 5 refine uP rfl ?_
       refine uK rfl (uW k47 ?_)
       refine cF rfl (kS ?_)
       refine bN (then_normal ?_)
       go_roundw
       have hh : (highS p j1 (litS p j).1).2 = j1 := by unfold highS; rw [if_neg (by omega)]
       case rel => exact ⟨j1, false, addRangeW ws (litS p j).1 (highS p j1 (litS p j).1).1, rfl, rfl, .inr ⟨rfl, by omega⟩, by omega, hcl.trans ((classS_step p (by omega) hno).trans (by rw [hj1, hh])), hv⟩
       case measure => show p.length - ((j1 : Int)).toNat < p.length - ((j : Int)).toNat; omega
      refine uG (.bool false) rfl (ex_lss rfl rfl rfl (qF hb48)) (uM rfl ?_)
      iterate 4 refine uP rfl ?_
      refine uK rfl (uM rfl ?_)
      iterate 5 refine uP rfl ?_
      refine uK rfl (uW k47 ?_)
      refine cF rfl (kS ?_)
      refine bN (then_normal ?_)
      go_roundw
      have hh : (highS p j1 (litS p j).1).2 = j1 := by unfold highS; rw [if_neg (by omega)]
      case rel => exact ⟨j1, false, addRangeW ws (litS p j).1 (highS p j1 (litS p j).1).1, rfl, rfl, .inr ⟨rfl, by omega⟩, by omega, hcl.trans ((classS_step p (by omega) hno).trans (by rw [hj1, hh])), hv⟩
      case measure => show p.length - ((j1 : Int)).toNat < p.length - ((j : Int)).toNat; omega
     refine rL (uM rfl ?_)
     refine uG (vI ((j + 1 : Nat) : Int)) rfl (ex_add rfl rfl rfl (by rw [i64_in (by omega)]; omega)) (uA rfl ?_)
     refine uZ (then_normal (hJ45 (j + 1) _ _ _ (by unfold litS; rw [if_neg (by omega)]) (by omega) hv))
    refine sK fun _ k58 => rL (uM rfl ?_)
    refine uM rfl ?_
    obtain ⟨y59, hy59⟩ : ∃ y, p[j]? = some y := ⟨_, List.getElem?_eq_getElem (show j < p.length by omega)⟩
    have hy59c := chr_at hy59
    refine uG (.int .u8 (chr p (j) : Int)) rfl ((by rw [hy59c]; exact ex_sidx0 Tryz.underlying9 rfl rfl rfl hy59)) ?_
    by_cases hb60 : (chr p (j) : Int) = 93
    ·refine uG (.bool true) rfl (ex_eql rfl rfl rfl (qT hb60)) (uM rfl ?_)
     refine uM rfl ?_
     refine uG (.bool (!f)) rfl (ex_not rfl rfl rfl) (uK rfl ?_)
     refine uW k58 (wpIn_cond_split (t := !f) rfl (fun hc61 => ?_) (fun hc61 => ?_))
     ·refine sK fun _ k62 => rL (uM rfl ?_)
      refine uA rfl (uW k62 ?_)
      refine rR (tR ?_)
      clear hJ11
      refine bZ (tR ?_)
      refine bZ (tR ?_)
      refine bR rfl rfl (⟨(j : Int), rfl, .inr ⟨j, _, rfl, hcl.trans (classS_close p (by omega) ⟨by omega, ?_⟩)⟩, hv⟩)
      rcases hf with ⟨hf1, hf2⟩ | ⟨hf1, hf2⟩
      ·subst hf1; exact absurd hc61 (by decide)
      exact hf2
     refine kS ?_
     have hf63 : ¬ (chr p j = 93 ∧ fi < j) := fun h9 => by
      rcases hf with ⟨hf1, hf2⟩ | ⟨hf1, hf2⟩
      ·omega
      subst hf1; exact absurd hc61 (by decide)
     exact then_normal (hJ11 _ _ _ _ _ _ _ _ _ _ _ hf63 hv)
    refine uG (.bool false) rfl (ex_eql rfl rfl rfl (qF hb60)) (uM rfl ?_)
    refine uP rfl ?_
    refine uP rfl (uK rfl ?_)
    refine uW k58 (cF rfl ?_)
    refine kS (then_normal (hJ11 _ _ _ _ _ _ _ _ _ _ _ (fun h9 => by omega) hv))
   refine uG (.bool false) rfl (ex_lss rfl rfl rfl (qF hb10)) (uW k9 ?_)
   refine cF rfl (xE ?_)
   refine tX (tX ?_)
   refine bH (tK k6 ?_)
   refine sK fun _ k64 => rL (uA rfl ?_)
   refine uW k64 (rR ?_)
   refine bR rfl rfl (⟨-1, rfl, .inl ⟨rfl, hcl.trans (classS_end p (by omega))⟩, hv⟩)
 refine sK fun _ k65 => rL (uM rfl ?_)
 refine uM rfl ?_
 refine uG (vI (p.length : Int)) rfl (ex_lenStr Tryz.underlying9 rfl rfl) ?_
 by_cases hb66 : ((i + 1 : Nat) : Int) < (p.length : Int)
 ·refine uG (.bool true) rfl (ex_lss rfl rfl rfl (qT hb66)) (uM rfl ?_)
  refine uM rfl ?_
  refine uM rfl ?_
  obtain ⟨y67, hy67⟩ : ∃ y, p[i + 1]? = some y := ⟨_, List.getElem?_eq_getElem (show i + 1 < p.length by omega)⟩
  have hy67c := chr_at hy67
  refine uG (.int .u8 (chr p (i + 1) : Int)) rfl ((by rw [hy67c]; exact ex_sidx0 Tryz.underlying9 rfl rfl rfl hy67)) ?_
  by_cases hb68 : (chr p (i + 1) : Int) = 94
  ·refine uG (.bool true) rfl (ex_eql rfl rfl rfl (qT hb68)) (uK rfl ?_)
   refine uW k65 (cT rfl ?_)
   refine rL (uM rfl ?_)
   refine uG (vI ((i + 2 : Nat) : Int)) rfl (ex_add rfl rfl rfl (by rw [i64_in (by omega)]; omega)) (uA rfl ?_)
   refine uZ (then_normal (hJ3 true (i + 2) _ _ _ _ _ _ _ _ _ _ _ _ _ (by unfold clsS; rw [if_pos ⟨by omega, by omega⟩]) (by omega) (by omega) hv))
  refine uG (.bool false) rfl (ex_eql rfl rfl rfl (qF hb68)) (uK rfl ?_)
  refine uW k65 (cF rfl ?_)
  refine kS (then_normal (hJ3 false (i + 1) _ _ _ _ _ _ _ _ _ _ _ _ _ (by unfold clsS; rw [if_neg (by omega)]) (by omega) (by omega) hv))
 refine uG (.bool false) rfl (ex_lss rfl rfl rfl (qF hb66)) (uM rfl ?_)
 iterate 4 refine uP rfl ?_
 refine uK rfl (uW k65 ?_)
 refine cF rfl (kS ?_)
 exact then_normal (hJ3 false (i + 1) _ _ _ _ _ _ _ _ _ _ _ _ _ (by unfold clsS; rw [if_neg (by omega)]) (by omega) (by omega) hv)
end Go.Proofs.YtanfkicimnfgjaaGreatDoor
namespace Go.Pm
open Go.RowKit
section
variable {P : Program} {t : TypeId} {l : List UInt8}
theorem cut_size : (⟨l.toArray⟩ : ByteArray).size = l.length := rfl
theorem run_cut (ht : P.underlying t = some .string) {i j : Nat} (hij : i ≤ j) (hj : j ≤ l.length) (w : World) : (Instr.sliceAt t (.string ⟨l.toArray⟩) (some (.int .i64 (i : Int))) (some (.int .i64 (j : Int))) none).run P w = .ok (.string ⟨((l.drop i).take (j - i)).toArray⟩) w := by
 rw [run_sliceAt_string w t _ _ _ _ ht, run_slice_string w t ⟨l.toArray⟩ .i64 .i64 (i : Int) (j : Int) ht (by omega) (by omega) (by rw [cut_size]; omega), ByteArray.extract_mk]
 simp
end
section
variable {P : Program} {a : Act} {w : World} {o : Oper} {t u : TypeId} {x y : Operand}
theorem ex_bneq {p q b : Bool} (ht : P.underlying t = some .bool) (ho : o.op = .binOp .neq t x y u) (hx : a.eval x = .bool p) (hy : a.eval y = .bool q) (hb : (p != q) = b) : Ex P a o w (.bool b) w := by
 subst hb
 have he := run_neq_bool (P := P) w t p q ht
 unfold Ex
 simp only [execOp, ho, hx, hy]
 simp [eqGuard, he]
 cases p <;> cases q <;> rfl
end
end Go.Pm
