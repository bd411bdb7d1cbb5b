/- log.Open -/
import Derived.Test.YtkannfkjnohdlaaMgG
import Derived.Test.YtkannfkjnohdlaaMgF
import Derived.Test.YtkannfkjnohdlaaMgB
namespace Go.Proofs.Ytkannfkjnohdlaa
open Go.RowKit Go.Pm
/-- the entries of these bytes behind a stamp, so far; the place reached -/
inductive OpenI (rb : List UInt8) (after : Nat) : Nat → List (List UInt8) → Prop
  | zero : OpenI rb after 0 []
  | next {used : Nat} {es : List (List UInt8)} (h : OpenI rb after used es) (hr : RecOk (rb.drop (used * 64)) (after + es.length + 1)) : OpenI rb after (used + secs (rcN (rb.drop (used * 64)))) (es ++ [rcB (rb.drop (used * 64)) (rcN (rb.drop (used * 64))) (secs (rcN (rb.drop (used * 64))) - 1)])
theorem OpenI.len {rb : List UInt8} {after used : Nat} {es : List (List UInt8)} (h : OpenI rb after used es) : es.length ≤ used := by
  induction h with
  | zero => exact Nat.le_refl _
  | next h hr ih =>
    rw [List.length_append, List.length_singleton]
    exact Nat.add_le_add ih (secs_pos _)
/-- the cells of entries -/
def EntsAt (C : Base) (st : Nat) : List (List UInt8) → List Value → Prop
  | [], xs => xs = []
  | b :: l, xs => ∃ ad c r, xs = .int .i64 ((st + 1 : Nat) : Int) :: .slice ad b.length c :: r ∧ SliceOk ad b.length c ∧ RdV C [] ad (b.map B8) ∧ EntsAt C (st + 1) l r
theorem EntsAt.more {C D : Base} (hB : C.Le D) : ∀ {l : List (List UInt8)} {st : Nat} {xs : List Value}, EntsAt C st l xs → EntsAt D st l xs
  | [], _, _, h => h
  | _ :: _, _, _, ⟨ad, c, r, h1, h2, h3, h4⟩ => ⟨ad, c, r, h1, h2, h3.more hB (fun _ h => h), EntsAt.more hB h4⟩
theorem EntsAt.snoc {C : Base} {b : List UInt8} {ad : Option Addr} {c : Nat} (hok : SliceOk ad b.length c) (hr : RdV C [] ad (b.map B8)) : ∀ {l : List (List UInt8)} {st : Nat} {xs : List Value}, EntsAt C st l xs → EntsAt C st (l ++ [b]) (xs ++ [.int .i64 ((st + l.length + 1 : Nat) : Int), .slice ad b.length c])
  | [], st, xs, h => by
    cases (show xs = [] from h)
    exact ⟨ad, c, [], rfl, hok, hr, rfl⟩
  | d :: l, st, xs, h => by
    obtain ⟨ad', c', r, rfl, h2, h3, h4⟩ := h
    have := EntsAt.snoc hok hr h4
    have e : st + 1 + l.length + 1 = st + (d :: l).length + 1 := by rw [List.length_cons]; omega
    rw [e] at this
    exact ⟨ad', c', _, rfl, h2, h3, this⟩
theorem EntsAt.len {C : Base} : ∀ {l : List (List UInt8)} {st : Nat} {xs : List Value}, EntsAt C st l xs → xs.length = l.length * 2
  | [], _, _, h => by cases h; rfl
  | _ :: l, _, _, ⟨_, _, r, h1, _, _, h4⟩ => by
    subst h1
    have := EntsAt.len h4
    simp only [List.length_cons]
    omega
theorem Inv.adopt {B : Base} {H : List Res} {w : World} {b : Nat} {L : List Value} {t : TypeId} (h : Pm.Inv B H w) (hb : Blk w b L t) (h1 : B.I b = none) (h2 : b ∉ H.flatMap (·.fp)) : Pm.Inv B (Res.cell b L t :: H) w := by
  refine ⟨h.base, fun r hr => ?_, fun r hr k hk => ?_, ?_, fun r hr k hk => ?_⟩
  · rcases List.mem_cons.1 hr with rfl | hr
    · exact hb
    · exact h.own r hr
  · rcases List.mem_cons.1 hr with rfl | hr
    · rw [show k = b from List.mem_singleton.1 hk]
      exact (Array.getElem?_eq_some_iff.1 (show w.heap[b]? = _ from hb)).1
    · exact h.lt r hr k hk
  · rw [List.flatMap_cons, List.nodup_append]
    refine ⟨by simp, h.dis, fun x hx y hy e => ?_⟩
    rw [show x = b from List.mem_singleton.1 hx] at e
    subst e
    exact h2 hy
  · rcases List.mem_cons.1 hr with rfl | hr
    · rw [show k = b from List.mem_singleton.1 hk]; exact h1
    · exact h.out r hr k hk
theorem fresh_of {B : Base} {H : List Res} {w : World} {b : Nat} (h : Pm.Inv B H w) (hb : w.heap[b]? = none) : B.I b = none ∧ b ∉ H.flatMap (·.fp) := by
  have hsz : w.heap.size ≤ b := by
    apply Nat.le_of_not_lt
    intro hlt
    rw [Array.getElem?_eq_getElem hlt] at hb; cases hb
  refine ⟨h.base.fresh hsz, fun hm => ?_⟩
  obtain ⟨r, hr, hk⟩ := List.mem_flatMap.1 hm
  have := h.lt r hr b hk
  omega
def spRec (B : Base) (H : List Res) (L : List Value) (n : Nat) (f : Value → Value) : SP := ⟨fun w v => ∃ b, (B.I b = none ∧ b ∉ H.flatMap (fun r : Res => r.fp)) ∧ v = f (.slice (some ⟨b, 0, none⟩) n n) ∧ Blk w b L 5, fun _ _ _ he ⟨b, h1, h2, h3⟩ => ⟨b, h1, h2, h3.ext he⟩⟩
def spNo : SP := ⟨fun _ v => ∃ x, v = .tuple #[x, .bool false], fun _ _ _ _ h => h⟩
def tupT (v : Value) : Value := .tuple #[v, .bool true]
theorem rd_drop {B : Base} {H : List Res} {b : Nat} {t : TypeId} {rb : List UInt8} {za : Option Addr} (k : Nat) (hk : H[k]? = some (Res.cell b (rb.map B8) t)) (off : Nat) (hz : off < rb.length → za = some ⟨b, 0 + off, none⟩) : RdV B H za ((rb.drop off).map B8) := by
  by_cases ho : off < rb.length
  · rw [hz ho]
    refine rdV_cell (L := rb.map B8) (t := t) (0 + off) (List.mem_of_getElem? hk) (fun i hi => ?_)
    rw [List.length_map, List.length_drop] at hi
    rw [List.getElem?_map, Nat.zero_add, List.getElem?_eq_getElem (show off + i < rb.length by omega)]
    simp
  · rw [List.drop_eq_nil_of_le (by omega)]
    exact rdV_nil

theorem rc_full {s : List UInt8} {st : Nat} (h : RecOk s st) : (rcB s (rcN s) (secs (rcN s) - 1)).length = rcN s := by
  have hp := secs_pos (rcN s)
  have h2 := h.n2
  rw [rcB_len _ (by rw [Nat.sub_add_cancel hp]; omega)]
  have := secs_all (rcN s)
  omega
theorem rd_base {C : Base} {H : List Res} {b : Nat} {l : List UInt8} {t : TypeId} (h : C.I b = some (.cells (l.map B8).toArray t)) : RdV C H (some ⟨b, 0, none⟩) (l.map B8) := by
  intro i hi
  refine ⟨b, 0, rfl, .inl ⟨_, t, _, h, ?_⟩⟩
  rw [Nat.zero_add, List.getElem?_toArray]
  exact List.getElem?_eq_getElem hi
theorem rd_all {w : World} {b : Nat} {L : List Value} {t : TypeId} (h : Blk w b L t) : Src w (some ⟨b, 0, none⟩) L := src_mid (pre := []) (post := []) (by simpa using h) rfl

theorem g3callable26 : Callable Try.prog 26 := ⟨_, Try.func26, by kernel_rfl, by kernel_rfl⟩
theorem g3fa111_4 (w : World) (b o : Nat) : (Instr.fieldAt 111 (.pointer (some ⟨b, o, none⟩)) 4).run Try.prog w = .ok (.pointer (some ⟨b, o + 4, none⟩)) w := by kernel_rfl
theorem g3na3 (w : World) : (isAgg 3).run Try.prog w = .ok false w := by kernel_rfl
theorem g3fa111_3 (w : World) (b o : Nat) : (Instr.fieldAt 111 (.pointer (some ⟨b, o, none⟩)) 3).run Try.prog w = .ok (.pointer (some ⟨b, o + 3, none⟩)) w := by kernel_rfl
theorem g3callable55 : Callable Try.prog 55 := ⟨_, Try.func55, by kernel_rfl, by kernel_rfl⟩
theorem g3sz3 : (Try.prog.info? 3).map (·.size) = some 1 := by kernel_rfl
theorem g3callable54 : Callable Try.prog 54 := ⟨_, Try.func54, by kernel_rfl, by kernel_rfl⟩
theorem g3mk55 : (Try.prog.info? 55).map (fun i => (i.zero, i.size, i.bytes)) = some (some (.agg #[.int .i64 0, .slice none 0 0]), 2, 32) := by kernel_rfl
theorem g3el73 : Elem Try.prog 73 55 (.agg #[.int .i64 0, .slice none 0 0]) 2 32 := elem_of Try.underlying73 g3mk55 (by rfl) (by decide)
set_option maxRecDepth 100000 in
set_option maxHeartbeats 2000000 in
theorem logOpen (B : Base) (H : List Res) (w : World) (p from_ n after : Nat) (D E : Disk) (F : List Nat) (hE : D.tick = E) (hpl : E.pend.length ≤ 1000000000) (hhas : D.has (from_ : Int) (n : Int) = true) (hl : D.left ≠ 0) (hn1 : 1 ≤ n) (hn2 : n ≤ 30000) (hfit : from_ + n ≤ E.dur.length) (hdm : E.dur.length ≤ 65536) (haf : after ≤ 1000000) (hv : Inv B (diskR p D F :: H) w) :
    Calls Try.prog 39 #[.pointer (some ⟨p, 0, none⟩), .int .i64 (from_ : Int), .int .i64 (n : Int), .int .i64 (after : Int)] w fun e w' => ∃ (C : Base) (q used : Nat) (es : List (List UInt8)) (ad : Option Addr) (c : Nat) (xs : List Value) (F' : List Nat), B.Le C ∧ OpenI (E.view E.pend from_ n).flatten after used es ∧ ¬ RecOk ((E.view E.pend from_ n).flatten.drop (used * 64)) (after + es.length + 1) ∧ used ≤ n ∧ EntsAt C after es xs ∧ e = .returned (.tuple #[.pointer (some ⟨q, 0, none⟩), .slice ad es.length c, .int .i64 0]) ∧ Inv C (Res.cell q [.pointer (some ⟨p, 0, none⟩), .int .i64 (from_ : Int), .int .i64 (n : Int), .int .i64 (used : Int), .int .i64 ((after + es.length : Nat) : Int), .bool false] 111 :: Res.row 55 2 (.slice ad es.length c) es.length xs :: diskR p E F' :: H) w' := by
  refine (callsIn_wide (n := 5)).1 ?_
  refine callsIn_of_wp Try.func39 rfl trivial ?_
  simp only [Try.ntmps39, List.size_toArray, List.length_cons, List.length_nil, Nat.reduceAdd, Nat.reduceSub, Array.replicate_succ, Array.replicate_zero, List.push_toArray, List.append_toArray, List.nil_append, List.cons_append]
  refine wpIn_seq_k (fun K1 hK1 => ?_)
  refine wpIn_region_lit ?_
  refine wpi_exG (v := .pointer none) (fun _ => trivial) (wn rfl) rfl (ex_assign rfl rfl) ?_
  refine wpi_exG (v := .slice none 0 0) (fun _ => trivial) (wn rfl) rfl (ex_assign rfl rfl) ?_
  refine wpi_exG (v := .int .i64 0) (fun _ => trivial) (wn rfl) rfl (ex_assign rfl rfl) ?_
  refine wpListIn_nil ?_
  simp only [Act.put, List.setIfInBounds_toArray, List.set_cons_succ, List.set_cons_zero]
  refine then_normal (hK1 _ _ ?_)
  clear hK1 K1
  refine wpIn_seq_k (fun K2 hK2 => ?_)
  refine wpIn_seq_k (fun K3 hK3 => ?_)
  refine wpIn_region_lit ?_
  refine wpi_exG (v := .pointer (some ⟨p, 0, none⟩)) (fun _ => trivial) (wn rfl) rfl (ex_move rfl rfl) ?_
  refine wpi_exG (v := .bool false) (fun _ => trivial) (wn rfl) rfl (ex_pisnil Try.underlying36 rfl rfl rfl rfl) ?_
  refine wpListIn_nil ?_
  simp only [Act.put, List.setIfInBounds_toArray, List.set_cons_succ, List.set_cons_zero]
  refine then_normal (hK3 _ _ ?_)
  clear hK3 K3
  refine wpIn_cond_false rfl ?_
  refine wpIn_skip ?_
  refine then_normal (hK2 _ _ ?_)
  clear hK2 K2
  refine wpIn_seq_k (fun K4 hK4 => ?_)
  refine wpIn_seq_k (fun K5 hK5 => ?_)
  refine wpIn_region_lit ?_
  refine wpi_exG (v := .int .i64 (after : Int)) (fun _ => trivial) (wn rfl) rfl (ex_move rfl rfl) ?_
  refine wpi_exG (v := .bool false) (fun _ => trivial) (wn rfl) rfl (ex_lss (k := .i64) (m := (after : Int)) (n := 0) rfl rfl rfl (decide_eq_false (by omega))) ?_
  refine wpi_exG (v := .bool false) (fun _ => trivial) (wn rfl) rfl (ex_move rfl rfl) ?_
  simp only [Act.put, List.setIfInBounds_toArray, List.set_cons_succ, List.set_cons_zero]
  refine wpi_exG (v := .int .i64 (after : Int)) (fun _ => trivial) (wanted_of (j := 2) (d := 21) (b := false) rfl rfl rfl) rfl (ex_move rfl rfl) ?_
  refine wpi_exG (v := .bool false) (fun _ => trivial) (wanted_of (j := 2) (d := 21) (b := false) rfl rfl rfl) rfl (ex_gtr (k := .i64) (m := (after : Int)) (n := 1152921504606846975) rfl rfl rfl (decide_eq_false (by omega))) ?_
  refine wpi_exG (v := .bool false) (fun _ => trivial) (wn rfl) rfl (ex_pick (b := false) rfl rfl rfl) ?_
  refine wpListIn_nil ?_
  simp only [Act.put, List.setIfInBounds_toArray, List.set_cons_succ, List.set_cons_zero]
  refine then_normal (hK5 _ _ ?_)
  clear hK5 K5
  refine wpIn_cond_false rfl ?_
  refine wpIn_skip ?_
  refine then_normal (hK4 _ _ ?_)
  clear hK4 K4
  refine wpIn_seq_k (fun K6 hK6 => ?_)
  refine wpIn_region_lit ?_
  refine wpi_exG (v := .pointer (some ⟨p, 0, none⟩)) (fun _ => trivial) (wn rfl) rfl (ex_move rfl rfl) ?_
  refine wpi_exG (v := .int .i64 (from_ : Int)) (fun _ => trivial) (wn rfl) rfl (ex_move rfl rfl) ?_
  refine wpi_exG (v := .int .i64 (n : Int)) (fun _ => trivial) (wn rfl) rfl (ex_move rfl rfl) ?_
  simp only [Act.put, List.setIfInBounds_toArray, List.set_cons_succ, List.set_cons_zero]
  refine wpi_callG g3callable26 (fun _ => trivial) wideC rfl (wn rfl) rfl (args := #[.pointer (some ⟨p, 0, none⟩), .int .i64 (from_ : Int), .int .i64 (n : Int)]) (by simp only [List.map_toArray, List.map_cons, List.map_nil]; rfl) ((diskReadOk _ _ _ p _ _ from_ n hv E hE hpl hhas hl (by omega) (by omega) (by omega)).mono ?_)
  rintro e w9 ⟨b8, rfl, F7, hv⟩
  refine ⟨_, rfl, ?_⟩
  have hoke : E.Ok := (hv.get 1 rfl : DiskAt _ _ E _).1
  have hrl := view_flat_len hoke hfit
  rw [view_bytes8] at hv
  obtain ⟨rb, hrb⟩ : ∃ rb, rb = (E.view E.pend from_ n).flatten := ⟨_, rfl⟩
  rw [← hrb] at hv hrl
  refine wpi_exG (v := .tuple #[.slice (some ⟨b8, 0, none⟩) (n * 64) (n * 64), .int .i64 0]) (fun _ => trivial) (wn rfl) rfl (ex_move rfl rfl) ?_
  refine wpi_exG (v := .slice (some ⟨b8, 0, none⟩) (n * 64) (n * 64)) (fun _ => trivial) (wn rfl) rfl (ex_extract rfl rfl rfl) ?_
  simp only [Act.put, List.setIfInBounds_toArray, List.set_cons_succ, List.set_cons_zero]
  refine wpi_exG (v := .int .i64 0) (fun _ => trivial) (wn rfl) rfl (ex_extract rfl rfl rfl) ?_
  refine wpi_exG (v := .slice (some ⟨b8, 0, none⟩) (n * 64) (n * 64)) (fun _ => trivial) (wn rfl) rfl (ex_assign rfl rfl) ?_
  refine wpi_exG (v := .int .i64 0) (fun _ => trivial) (wn rfl) rfl (ex_assign rfl rfl) ?_
  refine wpListIn_nil ?_
  simp only [Act.put, List.setIfInBounds_toArray, List.set_cons_succ, List.set_cons_zero]
  refine then_normal (hK6 _ _ ?_)
  clear hK6 K6
  refine wpIn_seq_k (fun K10 hK10 => ?_)
  refine wpIn_seq_k (fun K11 hK11 => ?_)
  refine wpIn_region_lit ?_
  refine wpi_exG (v := .int .i64 0) (fun _ => trivial) (wn rfl) rfl (ex_move rfl rfl) ?_
  refine wpi_exG (v := .bool false) (fun _ => trivial) (wn rfl) rfl (ex_neq (k := .i64) (m := 0) (n := 0) rfl rfl rfl (by decide)) ?_
  refine wpListIn_nil ?_
  simp only [Act.put, List.setIfInBounds_toArray, List.set_cons_succ, List.set_cons_zero]
  refine then_normal (hK11 _ _ ?_)
  clear hK11 K11
  refine wpIn_cond_false rfl ?_
  refine wpIn_skip ?_
  refine then_normal (hK10 _ _ ?_)
  clear hK10 K10
  refine wpIn_seq_k (fun K12 hK12 => ?_)
  refine wpIn_region_lit ?_
  refine wpi_exG (v := .pointer (some ⟨p, 0, none⟩)) (fun _ => trivial) (wn rfl) rfl (ex_move rfl rfl) ?_
  refine wpi_exG (v := .int .i64 (from_ : Int)) (fun _ => trivial) (wn rfl) rfl (ex_move rfl rfl) ?_
  refine wpi_exG (v := .int .i64 (n : Int)) (fun _ => trivial) (wn rfl) rfl (ex_move rfl rfl) ?_
  simp only [Act.put, List.setIfInBounds_toArray, List.set_cons_succ, List.set_cons_zero]
  refine wpi_exG (v := .int .i64 (after : Int)) (fun _ => trivial) (wn rfl) rfl (ex_move rfl rfl) ?_
  refine wpi_exG (v := .agg #[.pointer (some ⟨p, 0, none⟩), .int .i64 (from_ : Int), .int .i64 (n : Int), .int .i64 0, .int .i64 (after : Int), .bool false]) (fun _ => trivial) (wn rfl) rfl (ex_buildN (vs := #[(0, .pointer (some ⟨p, 0, none⟩)), (1, .int .i64 (from_ : Int)), (2, .int .i64 (n : Int)), (4, .int .i64 (after : Int))]) rfl (by simp only [List.map_toArray, List.map_cons, List.map_nil]; rfl) (by kernel_rfl)) ?_
  refine sl_box (L := [.pointer (some ⟨p, 0, none⟩), .int .i64 (from_ : Int), .int .i64 (n : Int), .int .i64 0, .int .i64 (after : Int), .bool false]) (fun _ => trivial) (wn rfl) rfl (p := .agg #[.pointer (some ⟨p, 0, none⟩), .int .i64 (from_ : Int), .int .i64 (n : Int), .int .i64 0, .int .i64 (after : Int), .bool false]) rfl hv (fun w => by kernel_rfl) (fun b13 w14 hv => ?_)
  simp only [Act.put, List.setIfInBounds_toArray, List.set_cons_succ, List.set_cons_zero]
  refine wpi_exG (v := .pointer (some ⟨b13, 0, none⟩)) (fun _ => trivial) (wn rfl) rfl (ex_assign rfl rfl) ?_
  refine wpListIn_nil ?_
  simp only [Act.put, List.setIfInBounds_toArray, List.set_cons_succ, List.set_cons_zero]
  refine then_normal (hK12 _ _ ?_)
  clear hK12 K12
  refine wpIn_seq_k (fun K15 hK15 => ?_)
  refine wpIn_region_lit ?_
  refine wpi_exG (v := .slice none 0 0) (fun _ => trivial) (wn rfl) rfl (ex_assign rfl rfl) ?_
  refine wpListIn_nil ?_
  simp only [Act.put, List.setIfInBounds_toArray, List.set_cons_succ, List.set_cons_zero]
  refine then_normal (hK15 _ _ ?_)
  clear hK15 K15
  refine wpIn_seq_k (fun K16 hK16 => ?_)
  refine wpIn_block ?_
  replace hv := hv.new (Ext.rfl' _) (Res.row 55 2 (.slice none 0 0) 0 []) (World.ownsRow_nil _ _ _ _) (fun b hb => by simp [Value.ownBlock] at hb) (by simp [Value.ownBlock])
  replace hv := hv.front 1 rfl
  simp only [List.eraseIdx_cons_succ, List.eraseIdx_cons_zero] at hv
  gi_loopw [14] (fun x14 wr => ∃ (C : Base) (used : Nat) (es : List (List UInt8)) (ad : Option Addr) (c : Nat) (xs : List Value), x14 = .slice ad es.length c ∧ B.Le C ∧ OpenI rb after used es ∧ used ≤ n ∧ EntsAt C after es xs ∧ Inv C (Res.cell b13 [.pointer (some ⟨p, 0, none⟩), .int .i64 (from_ : Int), .int .i64 (n : Int), .int .i64 (used : Int), .int .i64 ((after + es.length : Nat) : Int), .bool false] 111 :: Res.row 55 2 (.slice ad es.length c) es.length xs :: Res.cell b8 (rb.map B8) 5 :: diskR p E F7 :: H) wr) (fun x14 _ => n + 1 - slLen x14)
  case atStart => exact ⟨B, 0, [], none, 0, [], rfl, Base.Le.refl _, .zero, by omega, rfl, hv⟩
  case round =>
    obtain ⟨C, used, es, ad, c, xs, rfl, hBC, hop, hun, hen, hv⟩ := hrel
    have hel := hop.len
    refine wpIn_seq_k (fun K18 hK18 => ?_)
    refine wpIn_seq_k (fun K19 hK19 => ?_)
    refine wpIn_region_lit ?_
    refine wpi_exG (v := .pointer (some ⟨b13, 0, none⟩)) (fun _ => trivial) (wn rfl) rfl (ex_move rfl rfl) ?_
    refine wpi_exG (v := .pointer (some ⟨b13, 0, none⟩)) (fun _ => trivial) (wn rfl) rfl (ex_nil rfl rfl) ?_
    refine wpi_exG (v := .pointer (some ⟨b13, 4, none⟩)) (fun _ => trivial) (wn rfl) rfl (ex_field rfl rfl (g3fa111_4 _ _ _)) ?_
    simp only [Act.put, List.setIfInBounds_toArray, List.set_cons_succ, List.set_cons_zero]
    refine wpi_exG (v := .int .i64 ((after + es.length : Nat) : Int)) (fun _ => trivial) (wn rfl) rfl (ex_load rfl rfl (run_load1 g3na3 (hv.load 0 4 rfl rfl))) ?_
    refine wpi_exG (v := .bool true) (fun _ => trivial) (wn rfl) rfl (ex_lss (k := .i64) (m := ((after + es.length : Nat) : Int)) (n := 1152921504606846975) rfl rfl rfl (decide_eq_true (by omega))) ?_
    refine wpListIn_nil ?_
    simp only [Act.put, List.setIfInBounds_toArray, List.set_cons_succ, List.set_cons_zero]
    refine then_normal (hK19 _ _ ?_)
    clear hK19 K19
    refine wpIn_cond_true rfl ?_
    refine wpIn_skip ?_
    refine then_normal (hK18 _ _ ?_)
    clear hK18 K18
    refine wpIn_block ?_
    refine wpIn_seq_k (fun K20 hK20 => ?_)
    obtain ⟨za, hzs, hza, hzok⟩ := slice_from (ab := b8) (off := 0) (len := n * 64) (cap := n * 64) (lo := used * 64) (by omega) (Nat.le_refl _) (by unfold maxLen; omega)
    have hdl : (rb.drop (used * 64)).length = n * 64 - used * 64 := by rw [List.length_drop, hrl]
    by_cases hrec : RecOk (rb.drop (used * 64)) (after + es.length + 1)
    · refine region_mono mixed [SP.eq (.slice (some ⟨b8, 0, none⟩) (n * 64) (n * 64)), SP.eq (.pointer (some ⟨b13, 0, none⟩)), SP.eq (.pointer (some ⟨b13, 0, none⟩)), SP.eq (.pointer (some ⟨b13, 3, none⟩)), SP.eq (.int .i64 (used : Int)), SP.eq (.int .i64 ((used * 64 : Nat) : Int)), SP.eq (.slice za (n * 64 - used * 64) (n * 64 - used * 64)), SP.eq (.pointer (some ⟨b13, 0, none⟩)), SP.eq (.pointer (some ⟨b13, 0, none⟩)), SP.eq (.pointer (some ⟨b13, 4, none⟩)), SP.eq (.int .i64 ((after + es.length : Nat) : Int)), SP.eq (.int .i64 ((after + es.length + 1 : Nat) : Int)), spRec C (Res.cell b13 [.pointer (some ⟨p, 0, none⟩), .int .i64 (from_ : Int), .int .i64 (n : Int), .int .i64 (used : Int), .int .i64 ((after + es.length : Nat) : Int), .bool false] 111 :: Res.row 55 2 (.slice ad es.length c) es.length xs :: Res.cell b8 (rb.map B8) 5 :: diskR p E F7 :: H) ((rcB (rb.drop (used * 64)) (rcN (rb.drop (used * 64))) (secs (rcN (rb.drop (used * 64))) - 1)).map B8) (rcN (rb.drop (used * 64))) tupT, spRec C (Res.cell b13 [.pointer (some ⟨p, 0, none⟩), .int .i64 (from_ : Int), .int .i64 (n : Int), .int .i64 (used : Int), .int .i64 ((after + es.length : Nat) : Int), .bool false] 111 :: Res.row 55 2 (.slice ad es.length c) es.length xs :: Res.cell b8 (rb.map B8) 5 :: diskR p E F7 :: H) ((rcB (rb.drop (used * 64)) (rcN (rb.drop (used * 64))) (secs (rcN (rb.drop (used * 64))) - 1)).map B8) (rcN (rb.drop (used * 64))) tupT, spRec C (Res.cell b13 [.pointer (some ⟨p, 0, none⟩), .int .i64 (from_ : Int), .int .i64 (n : Int), .int .i64 (used : Int), .int .i64 ((after + es.length : Nat) : Int), .bool false] 111 :: Res.row 55 2 (.slice ad es.length c) es.length xs :: Res.cell b8 (rb.map B8) 5 :: diskR p E F7 :: H) ((rcB (rb.drop (used * 64)) (rcN (rb.drop (used * 64))) (secs (rcN (rb.drop (used * 64))) - 1)).map B8) (rcN (rb.drop (used * 64))) id, SP.eq (.bool true), spRec C (Res.cell b13 [.pointer (some ⟨p, 0, none⟩), .int .i64 (from_ : Int), .int .i64 (n : Int), .int .i64 (used : Int), .int .i64 ((after + es.length : Nat) : Int), .bool false] 111 :: Res.row 55 2 (.slice ad es.length c) es.length xs :: Res.cell b8 (rb.map B8) 5 :: diskR p E F7 :: H) ((rcB (rb.drop (used * 64)) (rcN (rb.drop (used * 64))) (secs (rcN (rb.drop (used * 64))) - 1)).map B8) (rcN (rb.drop (used * 64))) id, SP.eq (.bool true)] 92 rfl (by kernel_rfl) hv ⟨?_, ?_, ?_, ?_, ?_, ?_, ?_, ?_, ?_, ?_, ?_, ?_, ?_, ?_, ?_, ?_, ?_, ?_, trivial⟩ (fun i o w h => ?_) ?_
      · intro aa ww hv hR
        exact Ex.ok' (ex_move rfl (show aa.eval (.tmp 11) = _ from hR.keep 11 rfl)) (wn rfl) rfl
      · intro aa ww hv hR
        exact Ex.ok' (ex_move rfl (show aa.eval (.tmp 13) = _ from hR.keep 13 rfl)) (wn rfl) rfl
      · intro aa ww hv hR
        exact Ex.ok' (ex_nil rfl (show aa.eval (.tmp 48) = _ from hR.pred 1 48 rfl rfl)) (wn rfl) rfl
      · intro aa ww hv hR
        exact Ex.ok' (ex_field rfl (show aa.eval (.tmp 49) = _ from hR.pred 2 49 rfl rfl) (g3fa111_3 _ _ _)) (wn rfl) rfl
      · intro aa ww hv hR
        exact Ex.ok' (ex_load rfl (show aa.eval (.tmp 50) = _ from hR.pred 3 50 rfl rfl) (run_load1 g3na3 (hv.load 0 3 rfl rfl))) (wn rfl) rfl
      · intro aa ww hv hR
        exact Ex.ok' (ex_mul (m := (used : Int)) (n := 64) rfl (show aa.eval (.tmp 51) = _ from hR.pred 4 51 rfl rfl) rfl (by rw [i64_in (by omega)]; omega)) (wn rfl) rfl
      · intro aa ww hv hR
        exact Ex.ok' (ex_slice (lo' := some (.int .i64 ((used * 64 : Nat) : Int))) rfl (show aa.eval (.tmp 47) = _ from hR.pred 0 47 rfl rfl) (congrArg some (show aa.eval (.tmp 52) = _ from hR.pred 5 52 rfl rfl)) rfl rfl (hzs _)) (wn rfl) rfl
      · intro aa ww hv hR
        exact Ex.ok' (ex_move rfl (show aa.eval (.tmp 13) = _ from hR.keep 13 rfl)) (wn rfl) rfl
      · intro aa ww hv hR
        exact Ex.ok' (ex_nil rfl (show aa.eval (.tmp 54) = _ from hR.pred 7 54 rfl rfl)) (wn rfl) rfl
      · intro aa ww hv hR
        exact Ex.ok' (ex_field rfl (show aa.eval (.tmp 55) = _ from hR.pred 8 55 rfl rfl) (g3fa111_4 _ _ _)) (wn rfl) rfl
      · intro aa ww hv hR
        exact Ex.ok' (ex_load rfl (show aa.eval (.tmp 56) = _ from hR.pred 9 56 rfl rfl) (run_load1 g3na3 (hv.load 0 4 rfl rfl))) (wn rfl) rfl
      · intro aa ww hv hR
        exact Ex.ok' (ex_add (m := ((after + es.length : Nat) : Int)) (n := 1) rfl (show aa.eval (.tmp 57) = _ from hR.pred 10 57 rfl rfl) rfl (by rw [i64_in (by omega)]; omega)) (wn rfl) rfl
      · intro aa ww hv hR
        refine stepOk_calls g3callable55 (wn rfl) rfl (args := #[.slice za (n * 64 - used * 64) (n * 64 - used * 64), .int .i64 ((after + es.length + 1 : Nat) : Int)]) (by simp only [List.map_toArray, List.map_cons, List.map_nil]; rw [show aa.eval (.tmp 53) = .slice za (n * 64 - used * 64) (n * 64 - used * 64) from hR.pred 6 53 rfl rfl, show aa.eval (.tmp 58) = .int .i64 ((after + es.length + 1 : Nat) : Int) from hR.pred 11 58 rfl rfl] <;> rfl) ?_
        refine (logRecord (Base.of ww) [] ww za _ _ (rb.drop (used * 64)) (after + es.length + 1) hdl (by omega) hzok (rdV_of ww ((rd_drop 2 rfl _ (fun h => hza (by omega))).src hv)) (by omega) (Inv.start ww)).mono ?_
        rintro e w2 (⟨h1, x, h2, h3⟩ | ⟨h1, b, h2, h3⟩)
        · exact absurd hrec h1
        · exact ⟨_, h2, ext_of h3, b, fresh_of hv (h3.out _ (.head _) b (.head _)), rfl, h3.head⟩
      · intro aa ww hv hR
        obtain ⟨b, hf, hve, hblk⟩ := hR.pred 12 59 rfl rfl
        exact stepOk_move (wn rfl) rfl (show aa.eval (.tmp 59) = _ from hve) ⟨b, hf, rfl, hblk⟩
      · intro aa ww hv hR
        obtain ⟨b, hf, hve, hblk⟩ := hR.pred 13 46 rfl rfl
        exact Ex.ok' (ex_extract rfl (show aa.eval (.tmp 46) = _ from hve) rfl) (wn rfl) ⟨b, hf, rfl, hblk⟩
      · intro aa ww hv hR
        obtain ⟨b, hf, hve, hblk⟩ := hR.pred 13 46 rfl rfl
        exact Ex.ok' (ex_extract rfl (show aa.eval (.tmp 46) = _ from hve) rfl) (wn rfl) rfl
      · intro aa ww hv hR
        obtain ⟨b, hf, hve, hblk⟩ := hR.pred 14 60 rfl rfl
        exact stepOk_assign (wn rfl) rfl (show aa.eval (.tmp 60) = _ from hve) ⟨b, hf, rfl, hblk⟩
      · intro aa ww hv hR
        exact stepOk_assign (wn rfl) rfl (show aa.eval (.tmp 61) = _ from hR.pred 15 61 rfl rfl) rfl
      · exact (no_none (by kernel_rfl) i o h).elim
      rintro _ w21 ⟨_, _, rfl, rfl, ⟨_, _, rfl, rfl, ⟨_, _, rfl, rfl, ⟨_, _, rfl, rfl, ⟨_, _, rfl, rfl, ⟨_, _, rfl, rfl, ⟨_, _, rfl, rfl, ⟨_, _, rfl, rfl, ⟨_, _, rfl, rfl, ⟨_, _, rfl, rfl, ⟨_, _, rfl, rfl, ⟨_, _, rfl, rfl, ⟨_, _, rfl, ⟨_, -, rfl, -⟩, ⟨_, _, rfl, ⟨_, -, rfl, -⟩, ⟨_, _, rfl, ⟨_, -, rfl, -⟩, ⟨_, _, rfl, rfl, ⟨_, _, rfl, ⟨bd, hbf, rfl, hblk⟩, ⟨_, _, rfl, rfl, rfl⟩⟩⟩⟩⟩⟩⟩⟩⟩⟩⟩⟩⟩⟩⟩⟩⟩⟩ hv
      simp only [putAll, Act.put, List.setIfInBounds_toArray, List.set_cons_succ, List.set_cons_zero]
      replace hv := Inv.adopt hv hblk hbf.1 hbf.2
      have hrn := hrec.n1
      have hsn := hrec.n2
      rw [List.length_drop, hrl] at hsn
      refine then_normal (hK20 _ _ ?_)
      clear hK20 K20
      refine wpIn_seq_k (fun K22 hK22 => ?_)
      refine wpIn_seq_k (fun K23 hK23 => ?_)
      refine wpIn_region_lit ?_
      refine wpi_exG (v := .bool true) (fun _ => trivial) (wn rfl) rfl (ex_move rfl rfl) ?_
      refine wpi_exG (v := .bool false) (fun _ => trivial) (wn rfl) rfl (ex_not rfl rfl rfl) ?_
      refine wpListIn_nil ?_
      simp only [Act.put, List.setIfInBounds_toArray, List.set_cons_succ, List.set_cons_zero]
      refine then_normal (hK23 _ _ ?_)
      clear hK23 K23
      refine wpIn_cond_false rfl ?_
      refine wpIn_skip ?_
      refine then_normal (hK22 _ _ ?_)
      clear hK22 K22
      refine wpIn_seq_k (fun K24 hK24 => ?_)
      refine wpIn_region_lit ?_
      refine wpi_exG (v := .pointer (some ⟨b13, 0, none⟩)) (fun _ => trivial) (wn rfl) rfl (ex_move rfl rfl) ?_
      refine wpi_exG (v := .pointer (some ⟨b13, 0, none⟩)) (fun _ => trivial) (wn rfl) rfl (ex_nil rfl rfl) ?_
      refine wpi_exG (v := .pointer (some ⟨b13, 4, none⟩)) (fun _ => trivial) (wn rfl) rfl (ex_field rfl rfl (g3fa111_4 _ _ _)) ?_
      simp only [Act.put, List.setIfInBounds_toArray, List.set_cons_succ, List.set_cons_zero]
      refine wpi_exG (v := .int .i64 ((after + es.length : Nat) : Int)) (fun _ => trivial) (wn rfl) rfl (ex_load rfl rfl (run_load1 g3na3 (hv.load 1 4 rfl rfl))) ?_
      refine wpi_exG (v := .int .i64 ((after + es.length + 1 : Nat) : Int)) (fun _ => trivial) (wn rfl) rfl (ex_add (m := ((after + es.length : Nat) : Int)) (n := 1) rfl rfl rfl (by rw [i64_in (by omega)]; omega)) ?_
      refine wpi_exG (v := .pointer (some ⟨b13, 0, none⟩)) (fun _ => trivial) (wn rfl) rfl (ex_nil rfl rfl) ?_
      simp only [Act.put, List.setIfInBounds_toArray, List.set_cons_succ, List.set_cons_zero]
      refine wpi_exG (v := .pointer (some ⟨b13, 4, none⟩)) (fun _ => trivial) (wn rfl) rfl (ex_field rfl rfl (g3fa111_4 _ _ _)) ?_
      refine sl_storeAt 1 (v := .int .i64 ((after + es.length + 1 : Nat) : Int)) (L' := [.pointer (some ⟨p, 0, none⟩), .int .i64 (from_ : Int), .int .i64 (n : Int), .int .i64 (used : Int), .int .i64 ((after + es.length + 1 : Nat) : Int), .bool false]) (fun _ => trivial) (wn rfl) rfl rfl rfl hv rfl g3sz3 (by simp) rfl rfl rfl (fun w25 hv => ?_)
      simp only [List.set_cons_succ, List.set_cons_zero] at hv
      refine wpListIn_nil ?_
      simp only [Act.put, List.setIfInBounds_toArray, List.set_cons_succ, List.set_cons_zero]
      refine then_normal (hK24 _ _ ?_)
      clear hK24 K24
      refine wpIn_seq_k (fun K26 hK26 => ?_)
      refine region_st mixed [.pointer (some ⟨b13, 0, none⟩), .pointer (some ⟨b13, 0, none⟩), .pointer (some ⟨b13, 3, none⟩), .int .i64 (used : Int), .slice (some ⟨bd, 0, none⟩) (rcN (rb.drop (used * 64))) (rcN (rb.drop (used * 64))), .int .i64 ((rcN (rb.drop (used * 64))) : Int), undef, .int .i64 ((used + secs (rcN (rb.drop (used * 64))) : Nat) : Int), .pointer (some ⟨b13, 0, none⟩), .pointer (some ⟨b13, 3, none⟩), undef] [6, 10] [⟨fun vals w => vals = [] ∧ Inv C (Res.cell bd ((rcB (rb.drop (used * 64)) (rcN (rb.drop (used * 64))) (secs (rcN (rb.drop (used * 64))) - 1)).map B8) 5 :: Res.cell b13 [.pointer (some ⟨p, 0, none⟩), .int .i64 (from_ : Int), .int .i64 (n : Int), .int .i64 (used : Int), .int .i64 ((after + es.length + 1 : Nat) : Int), .bool false] 111 :: Res.row 55 2 (.slice ad es.length c) es.length xs :: Res.cell b8 (rb.map B8) 5 :: diskR p E F7 :: H) w, fun _ _ _ ⟨h, hi⟩ he => ⟨h, hi.ext he⟩⟩, ⟨fun vals w => vals = [.int .i64 (secs (rcN (rb.drop (used * 64))) : Int)] ∧ Inv C (Res.cell bd ((rcB (rb.drop (used * 64)) (rcN (rb.drop (used * 64))) (secs (rcN (rb.drop (used * 64))) - 1)).map B8) 5 :: Res.cell b13 [.pointer (some ⟨p, 0, none⟩), .int .i64 (from_ : Int), .int .i64 (n : Int), .int .i64 (used : Int), .int .i64 ((after + es.length + 1 : Nat) : Int), .bool false] 111 :: Res.row 55 2 (.slice ad es.length c) es.length xs :: Res.cell b8 (rb.map B8) 5 :: diskR p E F7 :: H) w, fun _ _ _ ⟨h, hi⟩ he => ⟨h, hi.ext he⟩⟩, ⟨fun vals w => vals = [.int .i64 (secs (rcN (rb.drop (used * 64))) : Int), undef] ∧ Inv C (Res.cell bd ((rcB (rb.drop (used * 64)) (rcN (rb.drop (used * 64))) (secs (rcN (rb.drop (used * 64))) - 1)).map B8) 5 :: Res.cell b13 [.pointer (some ⟨p, 0, none⟩), .int .i64 (from_ : Int), .int .i64 (n : Int), .int .i64 ((used + secs (rcN (rb.drop (used * 64))) : Nat) : Int), .int .i64 ((after + es.length + 1 : Nat) : Int), .bool false] 111 :: Res.row 55 2 (.slice ad es.length c) es.length xs :: Res.cell b8 (rb.map B8) 5 :: diskR p E F7 :: H) w, fun _ _ _ ⟨h, hi⟩ he => ⟨h, hi.ext he⟩⟩] 92 rfl (by kernel_rfl) ⟨rfl, hv⟩ ⟨?_, ?_, ?_, ?_, ?_, ?_, ?_, ?_, ?_, ?_, ?_, trivial⟩ ?_
      · intro aa ww vals hJ hR
        exact add_step' rfl (Ex.adds' (ex_move rfl (show aa.eval (.tmp 13) = _ from hR.keep 13 rfl)) (wn rfl) rfl)
      · intro aa ww vals hJ hR
        exact add_step' rfl (Ex.adds' (ex_nil rfl (show aa.eval (.tmp 71) = _ from hR.v 0 71 rfl rfl rfl rfl)) (wn rfl) rfl)
      · intro aa ww vals hJ hR
        exact add_step' rfl (Ex.adds' (ex_field rfl (show aa.eval (.tmp 72) = _ from hR.v 1 72 rfl rfl rfl rfl) (g3fa111_3 _ _ _)) (wn rfl) rfl)
      · intro aa ww vals hJ hR
        have h2 : vals.length ≤ 1 := hR.hi 10 (by simp) rfl
        rcases (show vals.length = 0 ∨ vals.length = 1 by omega) with hl | hl
        · obtain ⟨hvals, hv⟩ := hJ.at0 hl
          exact add_step' rfl (Ex.adds' (ex_load rfl (show aa.eval (.tmp 73) = _ from hR.v 2 73 rfl rfl rfl rfl) (run_load1 g3na3 (hv.load 1 3 rfl rfl))) (wn rfl) rfl)
        · obtain ⟨hvals, hv⟩ := hJ.at0 hl
          exact add_step' rfl (Ex.adds' (ex_load rfl (show aa.eval (.tmp 73) = _ from hR.v 2 73 rfl rfl rfl rfl) (run_load1 g3na3 (hv.load 1 3 rfl rfl))) (wn rfl) rfl)
      · intro aa ww vals hJ hR
        exact add_step' rfl (Ex.adds' (ex_move rfl (show aa.eval (.tmp 15) = _ from hR.keep 15 rfl)) (wn rfl) rfl)
      · intro aa ww vals hJ hR
        exact add_step' rfl (Ex.adds' (ex_len0 Try.underlying24 rfl (show aa.eval (.tmp 75) = _ from hR.v 4 75 rfl rfl rfl rfl)) (wn rfl) rfl)
      · intro aa ww vals hJ hR
        refine mem_step' rfl fun hvl => ?_
        have hl : vals.length = 0 := hvl
        obtain ⟨hvals, hv⟩ := hJ.at0 hl
        refine stepMem_calls g3callable54 (wn rfl) rfl (args := #[.int .i64 ((rcN (rb.drop (used * 64))) : Int)]) (by simp only [List.map_toArray, List.map_cons, List.map_nil]; rw [show aa.eval (.tmp 76) = .int .i64 ((rcN (rb.drop (used * 64))) : Int) from hR.v 5 76 rfl rfl rfl rfl] <;> rfl) ((logSectors _ (rcN (rb.drop (used * 64))) (by omega)).mono ?_)
        rintro e w27 ⟨rfl, rfl⟩
        refine ⟨_, rfl, JS.next hl ⟨by rw [hvals]; rfl, hv⟩⟩
      · intro aa ww vals hJ hR
        have h1 : 0 < vals.length := hR.lo 6 (by simp) rfl
        have h2 : vals.length ≤ 1 := hR.hi 10 (by simp) rfl
        have hl : vals.length = 1 := by omega
        obtain ⟨hvals, hv⟩ := hJ.at0 hl
        exact add_step' rfl (Ex.adds' (ex_add (m := (used : Int)) (n := (secs (rcN (rb.drop (used * 64))) : Int)) rfl (show aa.eval (.tmp 74) = _ from hR.v 3 74 rfl rfl rfl rfl) (show aa.eval (.tmp 77) = _ from (hR.val 6 77 rfl rfl rfl).trans (by rw [hvals]; rfl)) (by rw [i64_in (by omega)]; omega)) (wn rfl) rfl)
      · intro aa ww vals hJ hR
        exact add_step' rfl (Ex.adds' (ex_nil rfl (show aa.eval (.tmp 71) = _ from hR.v 0 71 rfl rfl rfl rfl)) (wn rfl) rfl)
      · intro aa ww vals hJ hR
        exact add_step' rfl (Ex.adds' (ex_field rfl (show aa.eval (.tmp 79) = _ from hR.v 8 79 rfl rfl rfl rfl) (g3fa111_3 _ _ _)) (wn rfl) rfl)
      · intro aa ww vals hJ hR
        refine mem_step' rfl fun hvl => ?_
        have hl : vals.length = 1 := hvl
        obtain ⟨hvals, hv⟩ := hJ.at0 hl
        refine mem_storeAt 1 (v := .int .i64 ((used + secs (rcN (rb.drop (used * 64))) : Nat) : Int)) (L' := [.pointer (some ⟨p, 0, none⟩), .int .i64 (from_ : Int), .int .i64 (n : Int), .int .i64 ((used + secs (rcN (rb.drop (used * 64))) : Nat) : Int), .int .i64 ((after + es.length + 1 : Nat) : Int), .bool false]) (wn rfl) rfl (show aa.eval (.tmp 80) = _ from hR.v 9 80 rfl rfl rfl rfl) (show aa.eval (.tmp 78) = _ from hR.v 7 78 rfl rfl rfl rfl) hv rfl g3sz3 (by simp) rfl rfl rfl (fun w28 hv => ?_)
        exact JS.next hl ⟨by rw [hvals]; rfl, hv⟩
      rintro w29 vals ⟨rfl, hv⟩
      rw [show mixV [6, 10] [.int .i64 (secs (rcN (rb.drop (used * 64))) : Int), undef] 0 [.pointer (some ⟨b13, 0, none⟩), .pointer (some ⟨b13, 0, none⟩), .pointer (some ⟨b13, 3, none⟩), .int .i64 (used : Int), .slice (some ⟨bd, 0, none⟩) (rcN (rb.drop (used * 64))) (rcN (rb.drop (used * 64))), .int .i64 ((rcN (rb.drop (used * 64))) : Int), undef, .int .i64 ((used + secs (rcN (rb.drop (used * 64))) : Nat) : Int), .pointer (some ⟨b13, 0, none⟩), .pointer (some ⟨b13, 3, none⟩), undef] = [.pointer (some ⟨b13, 0, none⟩), .pointer (some ⟨b13, 0, none⟩), .pointer (some ⟨b13, 3, none⟩), .int .i64 (used : Int), .slice (some ⟨bd, 0, none⟩) (rcN (rb.drop (used * 64))) (rcN (rb.drop (used * 64))), .int .i64 ((rcN (rb.drop (used * 64))) : Int), .int .i64 (secs (rcN (rb.drop (used * 64))) : Int), .int .i64 ((used + secs (rcN (rb.drop (used * 64))) : Nat) : Int), .pointer (some ⟨b13, 0, none⟩), .pointer (some ⟨b13, 3, none⟩), undef] from rfl]
      simp only [putAll, Act.put, List.setIfInBounds_toArray, List.set_cons_succ, List.set_cons_zero]
      refine then_normal (hK26 _ _ ?_)
      clear hK26 K26
      refine wpIn_region_lit ?_
      refine wpi_exG (v := .slice ad es.length c) (fun _ => trivial) (wn rfl) rfl (ex_move rfl rfl) ?_
      refine wpi_exG (v := .pointer (some ⟨b13, 0, none⟩)) (fun _ => trivial) (wn rfl) rfl (ex_move rfl rfl) ?_
      refine wpi_exG (v := .pointer (some ⟨b13, 0, none⟩)) (fun _ => trivial) (wn rfl) rfl (ex_nil rfl rfl) ?_
      simp only [Act.put, List.setIfInBounds_toArray, List.set_cons_succ, List.set_cons_zero]
      refine wpi_exG (v := .pointer (some ⟨b13, 4, none⟩)) (fun _ => trivial) (wn rfl) rfl (ex_field rfl rfl (g3fa111_4 _ _ _)) ?_
      refine wpi_exG (v := .int .i64 ((after + es.length + 1 : Nat) : Int)) (fun _ => trivial) (wn rfl) rfl (ex_load rfl rfl (run_load1 g3na3 (hv.load 1 4 rfl rfl))) ?_
      refine wpi_exG (v := .slice (some ⟨bd, 0, none⟩) (rcN (rb.drop (used * 64))) (rcN (rb.drop (used * 64)))) (fun _ => trivial) (wn rfl) rfl (ex_move rfl rfl) ?_
      simp only [Act.put, List.setIfInBounds_toArray, List.set_cons_succ, List.set_cons_zero]
      refine wpi_exG (v := .agg #[.int .i64 ((after + es.length + 1 : Nat) : Int), .slice (some ⟨bd, 0, none⟩) (rcN (rb.drop (used * 64))) (rcN (rb.drop (used * 64)))]) (fun _ => trivial) (wn rfl) rfl (ex_buildN (vs := #[(0, .int .i64 ((after + es.length + 1 : Nat) : Int)), (1, .slice (some ⟨bd, 0, none⟩) (rcN (rb.drop (used * 64))) (rcN (rb.drop (used * 64))))]) rfl (by simp only [List.map_toArray, List.map_cons, List.map_nil]; rfl) (by kernel_rfl)) ?_
      refine sl_rowAgg (L := [.int .i64 ((after + es.length + 1 : Nat) : Int), .slice (some ⟨bd, 0, none⟩) (rcN (rb.drop (used * 64))) (rcN (rb.drop (used * 64)))]) (fun _ => trivial) (wn rfl) rfl rfl hv g3el73 rfl (by decide) (fun b30 w31 hv => ?_)
      replace hv := hv.front 3 rfl
      simp only [List.eraseIdx_cons_succ, List.eraseIdx_cons_zero] at hv
      refine sl_append (news := [.int .i64 ((after + es.length + 1 : Nat) : Int), .slice (some ⟨bd, 0, none⟩) (rcN (rb.drop (used * 64))) (rcN (rb.drop (used * 64)))]) (fun _ => trivial) (wn rfl) rfl rfl rfl g3el73 hv ⟨Nat.le_refl _, by unfold maxLen; omega, fun h => by cases h⟩ rfl (rd_all (hv.get 1 rfl)) (by intro u hu; simp only [List.mem_cons, List.not_mem_nil, or_false] at hu; rcases hu with rfl | rfl <;> rfl) (by unfold maxLen; omega) (by omega) (fun v32 w33 hv => ?_)
      obtain ⟨va34, vc35, rfl⟩ := row_slice hv.head
      simp only [Act.put, List.setIfInBounds_toArray, List.set_cons_succ, List.set_cons_zero]
      refine wpi_exG (v := .slice va34 (es.length + 1) vc35) (fun _ => trivial) (wn rfl) rfl (ex_assign rfl rfl) ?_
      refine wpListIn_nil ?_
      simp only [Act.put, List.setIfInBounds_toArray, List.set_cons_succ, List.set_cons_zero]
      refine blk_normal ?_
      refine then_normal ?_
      go_roundw
      case rel => 
        have hv2 := ((((((hv.front 5 rfl).front 5 rfl).front 2 rfl).front 5 rfl).front 5 rfl).sub (List.Sublist.cons_cons _ (List.Sublist.cons_cons _ (List.Sublist.cons_cons _ (List.Sublist.cons_cons _ (List.Sublist.cons_cons _ (List.Sublist.cons _ (List.Sublist.refl _))))))))
        have hI : C.I bd = none := hv2.out _ (.head _) bd (.head _)
        have hLe := Base.add_le (o := .cells ((rcB (rb.drop (used * 64)) (rcN (rb.drop (used * 64))) (secs (rcN (rb.drop (used * 64))) - 1)).map B8).toArray 5) hI
        have hv3 := hv2.freeze
        have hbl : (rcB (rb.drop (used * 64)) (rcN (rb.drop (used * 64))) (secs (rcN (rb.drop (used * 64))) - 1)).length = rcN (rb.drop (used * 64)) := rc_full hrec
        refine ⟨C.add bd _, used + secs (rcN (rb.drop (used * 64))), es ++ [rcB (rb.drop (used * 64)) (rcN (rb.drop (used * 64))) (secs (rcN (rb.drop (used * 64))) - 1)], va34, vc35, _, by rw [List.length_append, List.length_singleton], hBC.trans hLe, hop.next hrec, by have := hrec.n2; rw [List.length_drop] at this; omega, (hen.more hLe).snoc (ad := some ⟨bd, 0, none⟩) (c := rcN (rb.drop (used * 64))) (by rw [hbl]; exact ⟨Nat.le_refl _, by have := hrec.n1; unfold maxLen; omega, fun h => by cases h⟩) (rd_base Base.add_self), ?_⟩
        rw [hbl, List.length_append, List.length_singleton]
        exact hv3
      case measure => 
        have hp := secs_pos (rcN (rb.drop (used * 64)))
        have h2 := hrec.n2
        rw [List.length_drop] at h2
        simp only [slLen, List.length_append, List.length_singleton]
        omega
    · refine region_mono mixed [SP.eq (.slice (some ⟨b8, 0, none⟩) (n * 64) (n * 64)), SP.eq (.pointer (some ⟨b13, 0, none⟩)), SP.eq (.pointer (some ⟨b13, 0, none⟩)), SP.eq (.pointer (some ⟨b13, 3, none⟩)), SP.eq (.int .i64 (used : Int)), SP.eq (.int .i64 ((used * 64 : Nat) : Int)), SP.eq (.slice za (n * 64 - used * 64) (n * 64 - used * 64)), SP.eq (.pointer (some ⟨b13, 0, none⟩)), SP.eq (.pointer (some ⟨b13, 0, none⟩)), SP.eq (.pointer (some ⟨b13, 4, none⟩)), SP.eq (.int .i64 ((after + es.length : Nat) : Int)), SP.eq (.int .i64 ((after + es.length + 1 : Nat) : Int)), spNo, spNo, SP.any, SP.eq (.bool false), SP.any, SP.eq (.bool false)] 92 rfl (by kernel_rfl) hv ⟨?_, ?_, ?_, ?_, ?_, ?_, ?_, ?_, ?_, ?_, ?_, ?_, ?_, ?_, ?_, ?_, ?_, ?_, trivial⟩ (fun i o w h => ?_) ?_
      · intro aa ww hv hR
        exact Ex.ok' (ex_move rfl (show aa.eval (.tmp 11) = _ from hR.keep 11 rfl)) (wn rfl) rfl
      · intro aa ww hv hR
        exact Ex.ok' (ex_move rfl (show aa.eval (.tmp 13) = _ from hR.keep 13 rfl)) (wn rfl) rfl
      · intro aa ww hv hR
        exact Ex.ok' (ex_nil rfl (show aa.eval (.tmp 48) = _ from hR.pred 1 48 rfl rfl)) (wn rfl) rfl
      · intro aa ww hv hR
        exact Ex.ok' (ex_field rfl (show aa.eval (.tmp 49) = _ from hR.pred 2 49 rfl rfl) (g3fa111_3 _ _ _)) (wn rfl) rfl
      · intro aa ww hv hR
        exact Ex.ok' (ex_load rfl (show aa.eval (.tmp 50) = _ from hR.pred 3 50 rfl rfl) (run_load1 g3na3 (hv.load 0 3 rfl rfl))) (wn rfl) rfl
      · intro aa ww hv hR
        exact Ex.ok' (ex_mul (m := (used : Int)) (n := 64) rfl (show aa.eval (.tmp 51) = _ from hR.pred 4 51 rfl rfl) rfl (by rw [i64_in (by omega)]; omega)) (wn rfl) rfl
      · intro aa ww hv hR
        exact Ex.ok' (ex_slice (lo' := some (.int .i64 ((used * 64 : Nat) : Int))) rfl (show aa.eval (.tmp 47) = _ from hR.pred 0 47 rfl rfl) (congrArg some (show aa.eval (.tmp 52) = _ from hR.pred 5 52 rfl rfl)) rfl rfl (hzs _)) (wn rfl) rfl
      · intro aa ww hv hR
        exact Ex.ok' (ex_move rfl (show aa.eval (.tmp 13) = _ from hR.keep 13 rfl)) (wn rfl) rfl
      · intro aa ww hv hR
        exact Ex.ok' (ex_nil rfl (show aa.eval (.tmp 54) = _ from hR.pred 7 54 rfl rfl)) (wn rfl) rfl
      · intro aa ww hv hR
        exact Ex.ok' (ex_field rfl (show aa.eval (.tmp 55) = _ from hR.pred 8 55 rfl rfl) (g3fa111_4 _ _ _)) (wn rfl) rfl
      · intro aa ww hv hR
        exact Ex.ok' (ex_load rfl (show aa.eval (.tmp 56) = _ from hR.pred 9 56 rfl rfl) (run_load1 g3na3 (hv.load 0 4 rfl rfl))) (wn rfl) rfl
      · intro aa ww hv hR
        exact Ex.ok' (ex_add (m := ((after + es.length : Nat) : Int)) (n := 1) rfl (show aa.eval (.tmp 57) = _ from hR.pred 10 57 rfl rfl) rfl (by rw [i64_in (by omega)]; omega)) (wn rfl) rfl
      · intro aa ww hv hR
        refine stepOk_calls g3callable55 (wn rfl) rfl (args := #[.slice za (n * 64 - used * 64) (n * 64 - used * 64), .int .i64 ((after + es.length + 1 : Nat) : Int)]) (by simp only [List.map_toArray, List.map_cons, List.map_nil]; rw [show aa.eval (.tmp 53) = .slice za (n * 64 - used * 64) (n * 64 - used * 64) from hR.pred 6 53 rfl rfl, show aa.eval (.tmp 58) = .int .i64 ((after + es.length + 1 : Nat) : Int) from hR.pred 11 58 rfl rfl] <;> rfl) ?_
        refine (logRecord (Base.of ww) [] ww za _ _ (rb.drop (used * 64)) (after + es.length + 1) hdl (by omega) hzok (rdV_of ww ((rd_drop 2 rfl _ (fun h => hza (by omega))).src hv)) (by omega) (Inv.start ww)).mono ?_
        rintro e w2 (⟨h1, x, h2, h3⟩ | ⟨h1, b, h2, h3⟩)
        · exact ⟨_, h2, ext_of h3, x, rfl⟩
        · exact absurd h1 hrec
      · intro aa ww hv hR
        obtain ⟨x, hve⟩ := hR.pred 12 59 rfl rfl
        exact stepOk_move (wn rfl) rfl (show aa.eval (.tmp 59) = _ from hve) ⟨x, rfl⟩
      · intro aa ww hv hR
        obtain ⟨x, hve⟩ := hR.pred 13 46 rfl rfl
        exact Ex.ok' (ex_extract rfl (show aa.eval (.tmp 46) = _ from hve) rfl) (wn rfl) trivial
      · intro aa ww hv hR
        obtain ⟨x, hve⟩ := hR.pred 13 46 rfl rfl
        exact Ex.ok' (ex_extract rfl (show aa.eval (.tmp 46) = _ from hve) rfl) (wn rfl) rfl
      · intro aa ww hv hR
        exact stepOk_assign (v := aa.eval (.tmp 60)) (wn rfl) rfl rfl trivial
      · intro aa ww hv hR
        exact stepOk_assign (wn rfl) rfl (show aa.eval (.tmp 61) = _ from hR.pred 15 61 rfl rfl) rfl
      · exact (no_none (by kernel_rfl) i o h).elim
      rintro _ w36 ⟨_, _, rfl, rfl, ⟨_, _, rfl, rfl, ⟨_, _, rfl, rfl, ⟨_, _, rfl, rfl, ⟨_, _, rfl, rfl, ⟨_, _, rfl, rfl, ⟨_, _, rfl, rfl, ⟨_, _, rfl, rfl, ⟨_, _, rfl, rfl, ⟨_, _, rfl, rfl, ⟨_, _, rfl, rfl, ⟨_, _, rfl, rfl, ⟨_, _, rfl, ⟨_, rfl⟩, ⟨_, _, rfl, ⟨_, rfl⟩, ⟨v14, _, rfl, -, ⟨_, _, rfl, rfl, ⟨v16, _, rfl, -, ⟨_, _, rfl, rfl, rfl⟩⟩⟩⟩⟩⟩⟩⟩⟩⟩⟩⟩⟩⟩⟩⟩⟩⟩ hv
      simp only [putAll, Act.put, List.setIfInBounds_toArray, List.set_cons_succ, List.set_cons_zero]
      refine then_normal (hK20 _ _ ?_)
      clear hK20 K20
      refine wpIn_seq_k (fun K37 hK37 => ?_)
      refine wpIn_seq_k (fun K38 hK38 => ?_)
      refine wpIn_region_lit ?_
      refine wpi_exG (v := .bool false) (fun _ => trivial) (wn rfl) rfl (ex_move rfl rfl) ?_
      refine wpi_exG (v := .bool true) (fun _ => trivial) (wn rfl) rfl (ex_not rfl rfl rfl) ?_
      refine wpListIn_nil ?_
      simp only [Act.put, List.setIfInBounds_toArray, List.set_cons_succ, List.set_cons_zero]
      refine then_normal (hK38 _ _ ?_)
      clear hK38 K38
      refine wpIn_cond_true rfl ?_
      refine wpIn_exit ?_
      refine then_exit ?_
      clear hK37 K37
      refine blk_miss rfl ?_
      refine then_exit ?_
      refine blk_hit ?_
      refine then_normal (hK16 _ _ ?_)
      clear hK16 K16
      refine wpIn_seq_k (fun K39 hK39 => ?_)
      refine wpIn_region_lit ?_
      refine wpi_exG (v := .pointer (some ⟨b13, 0, none⟩)) (fun _ => trivial) (wn rfl) rfl (ex_move rfl rfl) ?_
      refine wpi_exG (v := .slice ad es.length c) (fun _ => trivial) (wn rfl) rfl (ex_move rfl rfl) ?_
      refine wpi_exG (v := .pointer (some ⟨b13, 0, none⟩)) (fun _ => trivial) (wn rfl) rfl (ex_assign rfl rfl) ?_
      simp only [Act.put, List.setIfInBounds_toArray, List.set_cons_succ, List.set_cons_zero]
      refine wpi_exG (v := .slice ad es.length c) (fun _ => trivial) (wn rfl) rfl (ex_assign rfl rfl) ?_
      refine wpi_exG (v := .int .i64 0) (fun _ => trivial) (wn rfl) rfl (ex_assign rfl rfl) ?_
      refine wpListIn_nil ?_
      simp only [Act.put, List.setIfInBounds_toArray, List.set_cons_succ, List.set_cons_zero]
      refine then_normal (hK39 _ _ ?_)
      clear hK39 K39
      refine wpIn_ret ?_
      refine bodyPost_ret (results_tmp3 rfl _ _ _) rfl ?_
      rw [hrb] at hop hrec
      exact ⟨C, _, used, es, _, _, xs, _, hBC, hop, hrec, hun, hen, rfl, ((((hv.front 3 rfl).front 2 rfl).front 2 rfl).sub (List.Sublist.cons_cons _ (List.Sublist.cons_cons _ (List.Sublist.cons_cons _ (List.Sublist.cons _ (List.Sublist.refl _))))))⟩
end Go.Proofs.Ytkannfkjnohdlaa
/- A row laid by for a while, with what can be read of it; a row that stays, of any width. -/
namespace Go.Pm
open Go.RowKit
theorem row_reads {e : TypeId} {size n c g cap : Nat} {cur : Array Value} {xs : List Value} {B : Base} (hlen : xs.length = n * size) (htake : cur.toList.take (n * size) = xs) (hI : B.I g = some (.cells cur e)) : RdV B [] (some ⟨g, 0, none⟩) xs := fun i hi => by
  refine ⟨g, 0, rfl, .inl ⟨_, _, _, hI, ?_⟩⟩
  have h2 : (cur.toList.take (n * size))[i]? = xs[i]? := by rw [htake]
  rw [List.getElem?_take_of_lt (by omega), List.getElem?_eq_getElem hi] at h2
  rw [Nat.zero_add, ← Array.getElem?_toList]
  exact h2
/-- a row laid by for a while: what it holds can be read -/
theorem Inv.rowBy {B : Base} {e : TypeId} {size n c : Nat} {ad : Option Addr} {xs : List Value} {H : List Res} {w : World} (hv : Inv B (Res.row e size (.slice ad n c) n xs :: H) w) :
    ∃ C : Base, B.Le C ∧ Inv C H w ∧ RdV C [] ad xs ∧ SliceOk ad n c ∧ ∀ K w', Inv C K w' → Inv B (Res.row e size (.slice ad n c) n xs :: K) w' := by
  have hr : w.ownsRow 0 e size (.slice ad n c) n xs := hv.head
  have hr' := hr
  rcases hr.2 with ⟨h1, h2⟩ | ⟨g, cap, cur, h1, hb, hg, hnc, hcm, hcs, htake⟩
  · simp only [Value.slice.injEq] at h1
    obtain ⟨rfl, rfl, rfl⟩ := h1
    have hx : xs = [] := List.eq_nil_of_length_eq_zero (by have := hr.1; omega)
    subst hx
    refine ⟨B, Base.Le.refl B, hv.drop, rdV_nil, ⟨by omega, by simp, fun _ => rfl⟩, fun K w' hK => ?_⟩
    exact hK.new (Ext.rfl' _) (Res.row e size (.slice none 0 0) 0 []) ⟨hr'.1, .inl ⟨rfl, rfl⟩⟩ (fun b hb => by simp [Value.ownBlock] at hb) (by simp [Value.ownBlock])
  · simp only [Value.slice.injEq] at h1
    obtain ⟨rfl, -, rfl⟩ := h1
    have hout : B.I g = none := hv.out _ (List.mem_cons_self) g (by simp [Value.ownBlock])
    have hc : Inv B (Res.cell g cur.toList e :: H) w := hv.as (Res.cell g cur.toList e) (by simpa using hg) (by simp [Value.ownBlock])
    have hf := hc.freeze
    simp only [Array.toArray_toList] at hf
    refine ⟨_, Base.add_le hout, hf, row_reads (c := c) (cap := c) hr.1 htake Base.add_self, ⟨hnc, hcm, fun h => by cases h⟩, fun K w' hK => ?_⟩
    have hblk := hK.base.blk g _ Base.add_self
    have hw := hK.weak (Base.add_le hout)
    refine Inv.join2 hw (K := [Res.row e size (.slice (some ⟨g, 0, none⟩) n c) n xs]) (fun r hr => ?_) (fun r hr b hb => ?_) ?_ (fun r hr b hb => ?_) (fun b hb hm => ?_)
    · simp at hr; subst hr; exact ⟨hr'.1, .inr ⟨g, c, cur, rfl, by omega, hblk, hnc, hcm, hcs, htake⟩⟩
    · simp at hr; subst hr; simp [Value.ownBlock] at hb; subst hb; exact (Array.getElem?_eq_some_iff.1 hblk).1
    · simp [Value.ownBlock]
    · simp at hr; subst hr; simp [Value.ownBlock] at hb; subst hb; exact hout
    · simp [Value.ownBlock] at hb
      subst hb
      obtain ⟨r, hr, hb⟩ := List.mem_flatMap.1 hm
      have := hK.out r hr b hb
      rw [Base.add_self] at this
      cases this
end Go.Pm
/- The log's sectors, as plain data: records, chains of records, what crashes leave. -/
namespace Go.Proofs.Ytkannfkjnohdlaa
open Go.RowKit Go.Pm
def bodySec (b : List UInt8) (i : Nat) : List UInt8 := 0 :: (piece b (63 * i) 63 ++ List.replicate (63 - (piece b (63 * i) 63).length) 0)
def logText (b : List UInt8) : List UInt8 := ((List.range (secs b.length - 1)).map (bodySec b)).flatten
def logHdr (st : Nat) (b : List UInt8) : List UInt8 := [82] ++ beOf 8 st ++ beOf 4 b.length ++ beOf 4 (Crc.sum b) ++ List.replicate 47 0
theorem bodySec_len (b : List UInt8) (i : Nat) : (bodySec b i).length = 64 := by
  have : (piece b (63 * i) 63).length ≤ 63 := by simp [piece]; omega
  simp only [bodySec, List.length_cons, List.length_append, List.length_replicate]
  omega
theorem logHdr_len (st : Nat) (b : List UInt8) : (logHdr st b).length = 64 := by
  simp only [logHdr, List.length_append, beOf_length, List.length_replicate, List.length_singleton]
theorem logText_len (b : List UInt8) : (logText b).length = 64 * (secs b.length - 1) := by
  unfold logText
  rw [List.length_flatten, List.map_map, show (List.length ∘ bodySec b) = fun _ => 64 from funext fun i => bodySec_len b i, List.map_const', List.length_range]
  simp [Nat.mul_comm]
theorem flat_sector {L : List (List UInt8)} (h : ∀ s ∈ L, s.length = 64) {i : Nat} (hi : i < L.length) : Disk.sector L.flatten i = L.getD i [] := by
  have e : (L.flatten.drop (64 * i)).take 64 = L.getD i [] := by
    have := flat_piece L h i 1
    unfold piece at this
    rw [Nat.one_mul] at this
    rw [Nat.mul_comm 64 i, this, List.getD_eq_getElem?_getD, List.getElem?_eq_getElem hi, List.drop_eq_getElem_cons hi]
    show ([L[i]] : List (List UInt8)).flatten = L[i]
    rw [List.flatten_cons, List.flatten_nil, List.append_nil]
  unfold Disk.sector Disk.pad
  rw [e]
  have hl : (L.getD i []).length = 64 := by
    rw [List.getD_eq_getElem?_getD, List.getElem?_eq_getElem hi]
    exact h _ (List.getElem_mem hi)
  rw [hl, Nat.sub_self, List.replicate_zero, List.append_nil]
theorem logText_nsec (b : List UInt8) : Disk.nsec (logText b) = secs b.length - 1 := by
  unfold Disk.nsec; rw [logText_len]; omega
theorem logText_sector (b : List UInt8) {i : Nat} (hi : i + 1 < secs b.length) : Disk.sector (logText b) i = bodySec b i := by
  unfold logText
  rw [flat_sector (fun s hs => by obtain ⟨j, -, rfl⟩ := List.mem_map.1 hs; exact bodySec_len b j) (by simp; omega)]
  simp [List.getD_eq_getElem?_getD, List.getElem?_map, List.getElem?_range (show i < secs b.length - 1 by omega)]
-- a region from a sector on
def rest (d : List (List UInt8)) (at_ : Nat) : List UInt8 := (d.drop at_).flatten
theorem rest_cons {d : List (List UInt8)} {at_ : Nat} (h : at_ < d.length) : rest d at_ = d.getD at_ [] ++ rest d (at_ + 1) := by
  unfold rest
  rw [List.drop_eq_getElem_cons h, List.flatten_cons, List.getD_eq_getElem?_getD, List.getElem?_eq_getElem h]
  rfl
theorem sec64 {d : List (List UInt8)} (h : ∀ s ∈ d, s.length = 64) {i : Nat} (hi : i < d.length) : (d.getD i []).length = 64 := by
  rw [List.getD_eq_getElem?_getD, List.getElem?_eq_getElem hi]
  exact h _ (List.getElem_mem hi)
theorem rest_len {d : List (List UInt8)} (h : ∀ s ∈ d, s.length = 64) (at_ : Nat) : (rest d at_).length = 64 * (d.length - at_) := by
  unfold rest
  rw [List.length_flatten]
  have e : (d.drop at_).map List.length = List.replicate (d.length - at_) 64 := by
    apply List.ext_getElem
    · simp
    · intro i h1 h2
      simp only [List.getElem_map, List.getElem_drop, List.getElem_replicate]
      exact h _ (List.getElem_mem _)
  rw [e]
  simp [Nat.mul_comm]
theorem rest_get {d : List (List UInt8)} (h : ∀ s ∈ d, s.length = 64) {j o : Nat} (ho : o < 64) : ∀ {at_ : Nat}, at_ + j < d.length → (rest d at_)[j * 64 + o]? = (d.getD (at_ + j) [])[o]? := by
  induction j with
  | zero =>
    intro at_ hj
    rw [rest_cons (by omega), List.getElem?_append_left (by rw [sec64 h (by omega)]; omega), Nat.zero_mul, Nat.zero_add, Nat.add_zero]
  | succ j ih =>
    intro at_ hj
    have hl := sec64 h (i := at_) (by omega)
    rw [rest_cons (by omega), List.getElem?_append_right (by rw [hl]; omega), hl, show (j + 1) * 64 + o - 64 = j * 64 + o by omega, ih (by omega), show at_ + 1 + j = at_ + (j + 1) by omega]
theorem rest_piece {d : List (List UInt8)} (h : ∀ s ∈ d, s.length = 64) {at_ j o m : Nat} (ho : o + m ≤ 64) (hj : at_ + j < d.length) : piece (rest d at_) (j * 64 + o) m = piece (d.getD (at_ + j) []) o m := by
  apply List.ext_getElem?
  intro i
  by_cases hi : i < m
  · rw [piece_get hi, piece_get hi, Nat.add_assoc, rest_get h (by omega) hj]
  · rw [List.getElem?_eq_none (by simp [piece]; omega), List.getElem?_eq_none (by simp [piece]; omega)]
-- records
structure RecD (d : List (List UInt8)) (at_ st : Nat) (b : List UInt8) : Prop where
  fits : at_ + secs b.length ≤ d.length
  n : b.length ≤ 1048576
  stm : st ≤ 1152921504606846975
  hd : d.getD at_ [] = logHdr st b
  body : ∀ i, i + 1 < secs b.length → d.getD (at_ + 1 + i) [] = bodySec b i
theorem hdr_stamp (st : Nat) (b : List UInt8) (h : st ≤ 1152921504606846975) : numOf (piece (logHdr st b) 1 8) = st := by
  have e8 : (256 : Nat) ^ 8 = 18446744073709551616 := by decide
  rw [piece_app (i := 1) (x := [82]) (y := beOf 8 st) (z := beOf 4 b.length ++ (beOf 4 (Crc.sum b) ++ List.replicate 47 0)) (by simp only [logHdr, List.append_assoc]) rfl (beOf_length _ _), numOf_be _ _ (by omega)]
theorem hdr_len (st : Nat) (b : List UInt8) (h : b.length ≤ 1048576) : numOf (piece (logHdr st b) 9 4) = b.length := by
  have e4 : (256 : Nat) ^ 4 = 4294967296 := by decide
  rw [piece_app (x := [82] ++ beOf 8 st) (y := beOf 4 b.length) (z := beOf 4 (Crc.sum b) ++ List.replicate 47 0) (by simp only [logHdr, List.append_assoc]) (by rw [List.length_append, beOf_length]; rfl) (beOf_length _ _), numOf_be _ _ (by omega)]
theorem hdr_sum (st : Nat) (b : List UInt8) : numOf (piece (logHdr st b) 13 4) = Crc.sum b := by
  have e4 : (256 : Nat) ^ 4 = 4294967296 := by decide
  rw [piece_app (x := [82] ++ beOf 8 st ++ beOf 4 b.length) (y := beOf 4 (Crc.sum b)) (z := List.replicate 47 0) (by simp only [logHdr, List.append_assoc]) (by rw [List.length_append, List.length_append, beOf_length, beOf_length]; rfl) (beOf_length _ _), numOf_be _ _ (by have := Crc.sum_lt b; omega)]
theorem hdr_zeros (st : Nat) (b : List UInt8) : piece (logHdr st b) 17 47 = List.replicate 47 0 := by
  rw [piece_app (x := [82] ++ beOf 8 st ++ beOf 4 b.length ++ beOf 4 (Crc.sum b)) (y := List.replicate 47 0) (z := []) (by simp only [logHdr, List.append_assoc, List.append_nil]) (by rw [List.length_append, List.length_append, List.length_append, beOf_length, beOf_length, beOf_length]; rfl) List.length_replicate]
theorem allZ_rep (n : Nat) : allZ (List.replicate n 0) = true := by simp [allZ]
theorem hdr_mark (st : Nat) (b : List UInt8) : (logHdr st b)[0]? = some 82 := rfl
theorem piece_take (b : List UInt8) (i n : Nat) : b.take i ++ piece b i n = b.take (i + n) := by
  unfold piece
  rw [List.take_add]
theorem rec_ok {d : List (List UInt8)} (h64 : ∀ s ∈ d, s.length = 64) {at_ st : Nat} {b : List UInt8} (h : RecD d at_ st b) :
    RecOk (rest d at_) st ∧ rcN (rest d at_) = b.length ∧ rcB (rest d at_) (rcN (rest d at_)) (secs (rcN (rest d at_)) - 1) = b := by
  have hp := secs_pos b.length
  have hf := h.fits
  have hsec : ∀ {o m : Nat}, o + m ≤ 64 → piece (rest d at_) o m = piece (logHdr st b) o m := fun {o m} ho => by
    have := rest_piece h64 (at_ := at_) (j := 0) ho (by omega)
    rw [Nat.zero_mul, Nat.zero_add, Nat.add_zero, h.hd] at this
    exact this
  have hn : rcN (rest d at_) = b.length := by unfold rcN; rw [hsec (by omega), hdr_len _ _ h.n]
  have hbod : ∀ {i o m : Nat}, i + 1 < secs b.length → o + m ≤ 64 → piece (rest d at_) ((i + 1) * 64 + o) m = piece (bodySec b i) o m := fun {i o m} hi ho => by
    rw [rest_piece h64 ho (by omega), show at_ + (i + 1) = at_ + 1 + i by omega, h.body i hi]
  have hpl : ∀ i, (piece b (63 * i) 63).length = rcM b.length i := fun i => by unfold rcM; simp [piece]
  have hm63 : ∀ i, rcM b.length i ≤ 63 := fun i => by unfold rcM; omega
  have hb1 : ∀ i, piece (bodySec b i) 1 (rcM b.length i) = piece b (63 * i) (rcM b.length i) := fun i => by
    rw [piece_app (i := 1) (s := bodySec b i) (x := [0]) (y := piece b (63 * i) 63) (z := List.replicate (63 - (piece b (63 * i) 63).length) 0) rfl rfl (hpl i)]
    unfold piece rcM
    rw [← List.length_drop (i := 63 * i) (l := b)]
    rw [List.take_eq_take_min]
  have hB : ∀ i, i + 1 ≤ secs b.length → rcB (rest d at_) b.length i = b.take (63 * i) := by
    intro i
    induction i with
    | zero => intro _; simp [rcB]
    | succ i ih =>
      intro hi
      rw [rcB, ih (by omega), hbod (by omega) (by have := hm63 i; omega), hb1 i, piece_take]
      unfold rcM
      by_cases hh : 63 ≤ b.length - 63 * i
      · rw [Nat.min_eq_left hh, show 63 * i + 63 = 63 * (i + 1) by omega]
      · rw [Nat.min_eq_right (by omega), List.take_of_length_le (by omega), List.take_of_length_le (by omega)]
  have hall : rcB (rest d at_) b.length (secs b.length - 1) = b := by
    rw [hB _ (by omega), List.take_of_length_le (secs_all _)]
  refine ⟨⟨?_, ?_, ?_, ?_, ?_, ?_, fun i hi => ?_, ?_⟩, hn, by rw [hn]; exact hall⟩
  · rw [rest_len h64]; omega
  · have := rest_get h64 (at_ := at_) (j := 0) (o := 0) (by omega) (by omega)
    rw [Nat.zero_mul, Nat.zero_add, Nat.add_zero, h.hd] at this
    rw [this]; rfl
  · rw [hsec (by omega), hdr_zeros]; exact allZ_rep 47
  · rw [hsec (by omega), hdr_stamp _ _ h.stm]
  · rw [hn]; exact h.n
  · rw [hn, rest_len h64]; omega
  · rw [hn] at hi ⊢
    have hm := hm63 i
    refine ⟨?_, ?_⟩
    · have := rest_get h64 (at_ := at_) (j := i + 1) (o := 0) (by omega) (by omega)
      rw [Nat.add_zero] at this
      rw [this, show at_ + (i + 1) = at_ + 1 + i by omega, h.body i hi]
      rfl
    · rw [hbod hi (by omega), piece_app (x := 0 :: piece b (63 * i) 63) (y := List.replicate (63 - (piece b (63 * i) 63).length) 0) (z := []) (by simp [bodySec]) (by simp [hpl]; omega) (by simp [hpl]; omega)]
      exact allZ_rep _
  · rw [hn, hall, hsec (by omega), hdr_sum]
theorem rec_not {d : List (List UInt8)} (h64 : ∀ s ∈ d, s.length = 64) {at_ st : Nat} (h : RecOk (rest d at_) st) : at_ < d.length ∧ (d.getD at_ [])[0]? = some 82 ∧ numOf (piece (d.getD at_ []) 1 8) = st := by
  have hl := h.len
  rw [rest_len h64] at hl
  have hat : at_ + 0 < d.length := by omega
  have h1 := rest_get h64 (o := 0) (by omega) hat
  have h2 := rest_piece h64 (o := 1) (m := 8) (by omega) hat
  rw [Nat.zero_mul, Nat.zero_add, Nat.add_zero] at h1 h2
  exact ⟨hat, by rw [← h1]; exact h.mark, by rw [← h2]; exact h.stamp⟩
-- chains of records
def LChain (d : List (List UInt8)) : Nat → Nat → List (List UInt8) → Nat → Prop
  | at_, _, [], e => e = at_
  | at_, st, b :: l, e => RecD d at_ (st + 1) b ∧ LChain d (at_ + secs b.length) (st + 1) l e
theorem LChain.le {d : List (List UInt8)} : ∀ {l : List (List UInt8)} {at_ st e : Nat}, LChain d at_ st l e → at_ ≤ e
  | [], _, _, _, h => Nat.le_of_eq h.symm
  | _ :: _, _, _, _, h => by have := LChain.le h.2; omega
theorem LChain.snoc {d : List (List UInt8)} {b : List UInt8} : ∀ {l : List (List UInt8)} {at_ st e : Nat}, LChain d at_ st l e → RecD d e (st + l.length + 1) b → LChain d at_ st (l ++ [b]) (e + secs b.length)
  | [], at_, st, e, h, hr => by
    cases (show e = at_ from h)
    exact ⟨hr, rfl⟩
  | c :: l, at_, st, e, h, hr => ⟨h.1, LChain.snoc h.2 (by rw [show st + 1 + l.length + 1 = st + (c :: l).length + 1 by simp; omega]; exact hr)⟩
theorem LChain.congr {d d' : List (List UInt8)} (hl : d'.length = d.length) : ∀ {l : List (List UInt8)} {at_ st e : Nat}, (∀ i, at_ ≤ i → i < e → d'.getD i [] = d.getD i []) → LChain d at_ st l e → LChain d' at_ st l e
  | [], _, _, _, _, h => h
  | b :: l, at_, st, e, hg, h => by
    have hle := LChain.le h.2
    have hp := secs_pos b.length
    refine ⟨⟨by rw [hl]; exact h.1.fits, h.1.n, h.1.stm, by rw [hg _ (Nat.le_refl _) (by omega)]; exact h.1.hd, fun i hi => by rw [hg _ (by omega) (by omega)]; exact h.1.body i hi⟩, LChain.congr hl (fun i h1 h2 => hg i (by omega) h2) h.2⟩
/-- what the sectors say: the entries behind a stamp -/
structure LHead (d : List (List UInt8)) (k used last after : Nat) (sure : List (List UInt8)) : Prop where
  len : d.length = k
  s64 : ∀ s ∈ d, s.length = 64
  chain : LChain d 0 after sure used
  lst : last = after + sure.length
  fit : used ≤ k
  old : ∀ i, i < k → (d.getD i [])[0]? = some 82 → numOf (piece (d.getD i []) 1 8) ≤ last
theorem LHead.stop {d : List (List UInt8)} {k used last after : Nat} {sure : List (List UInt8)} (h : LHead d k used last after sure) : ¬ RecOk (rest d used) (last + 1) := fun hr => by
  obtain ⟨h1, h2, h3⟩ := rec_not h.s64 hr
  have := h.old used (by rw [← h.len]; exact h1) h2
  omega
theorem put_cases (l : List (Nat × List UInt8)) : ∀ (d : List (List UInt8)) (i : Nat), (l.foldl Disk.put d).getD i [] = d.getD i [] ∨ ∃ p ∈ l, p.1 = i ∧ (l.foldl Disk.put d).getD i [] = p.2 := by
  induction l with
  | nil => intro d i; exact .inl rfl
  | cons p l ih =>
    intro d i
    rw [List.foldl_cons]
    rcases ih (Disk.put d p) i with h | ⟨q, h1, h2, h3⟩
    · by_cases hp : p.1 = i
      · by_cases hi : p.1 < d.length
        · refine .inr ⟨p, by simp, hp, ?_⟩
          rw [h, ← hp]
          exact set_getD' _ _ _ hi
        · refine .inl ?_
          rw [h]
          unfold Disk.put
          rw [List.set_eq_of_length_le (by omega)]
      · exact .inl (by rw [h]; exact set_getD _ _ _ _ hp)
    · exact .inr ⟨q, by simp [h1], h2, h3⟩
/-- body sectors behind the records: all is as it was -/
theorem LHead.body {d : List (List UInt8)} {k used last after : Nat} {sure : List (List UInt8)} (h : LHead d k used last after sure) {l : List (Nat × List UInt8)} (hl : ∀ p ∈ l, used ≤ p.1 ∧ p.2.length = 64 ∧ p.2[0]? = some 0) : LHead (l.foldl Disk.put d) k used last after sure := by
  refine ⟨by rw [Disk.foldl_put_length]; exact h.len, Disk.foldl_put_mem h.s64 fun p hp => (hl p hp).2.1, h.chain.congr (Disk.foldl_put_length _ _) fun i _ hi => ?_, h.lst, h.fit, fun i hi hm => ?_⟩
  · exact put_getD _ _ _ fun p hp => by have := (hl p hp).1; omega
  · rcases put_cases l d i with e | ⟨p, h1, -, e⟩
    · rw [e] at hm ⊢; exact h.old i hi hm
    · rw [e, (hl p h1).2.2] at hm; cases hm
/-- the header goes on its body -/
theorem LHead.next {d : List (List UInt8)} {k used last after : Nat} {sure : List (List UInt8)} (h : LHead d k used last after sure) {b : List UInt8} (hf : used + secs b.length ≤ k) (hn : b.length ≤ 1048576) (hst : last + 1 ≤ 1152921504606846975)
    (hb : ∀ i, i + 1 < secs b.length → d.getD (used + 1 + i) [] = bodySec b i) : LHead (d.set used (logHdr (last + 1) b)) k (used + secs b.length) (last + 1) after (sure ++ [b]) := by
  have hp := secs_pos b.length
  have hlen := h.len
  have hr : RecD (d.set used (logHdr (last + 1) b)) used (after + sure.length + 1) b := by
    rw [← h.lst]
    exact ⟨by rw [List.length_set]; omega, hn, hst, set_getD' _ _ _ (by omega), fun i hi => by rw [set_getD _ _ _ _ (by omega)]; exact hb i hi⟩
  refine ⟨by rw [List.length_set]; exact hlen, set64 h.s64 _ (logHdr_len _ _), ?_, by rw [h.lst, List.length_append, List.length_singleton]; omega, hf, fun i hi hm => ?_⟩
  · exact LChain.snoc (h.chain.congr (List.length_set ..) fun i _ hi => set_getD _ _ _ _ (by omega)) hr
  · by_cases e : used = i
    · subst e
      rw [set_getD' _ _ _ (by omega), hdr_stamp _ _ hst]
      exact Nat.le_refl _
    · rw [set_getD _ _ _ _ e] at hm ⊢
      exact Nat.le_succ_of_le (h.old i hi hm)
/-- a log and its disk: what is sure, what is under way -/
structure LState (D : Disk) (k used last after : Nat) (failed : Bool) (sure under : List (List UInt8)) : Prop where
  head : LHead D.dur k used last after sure
  rest : failed = false → D.pend = [] ∧ under = []
  fail : failed = true → ∃ b, under = [b] ∧ (D.pend = [] ∨ (used + secs b.length ≤ k ∧ b.length ≤ 1048576 ∧ (D.pend = Disk.writesOf (used + 1) (logText b) (secs b.length - 1) ∨ (D.pend = [(used, logHdr (last + 1) b)] ∧ ∀ i, i + 1 < secs b.length → D.dur.getD (used + 1 + i) [] = bodySec b i))))
theorem writes_body {used : Nat} {b : List UInt8} {p : Nat × List UInt8} (h : p ∈ Disk.writesOf (used + 1) (logText b) (secs b.length - 1)) : used ≤ p.1 ∧ p.2.length = 64 ∧ p.2[0]? = some 0 := by
  unfold Disk.writesOf at h
  obtain ⟨i, hi, rfl⟩ := List.mem_map.1 h
  have hi : i < secs b.length - 1 := by simpa using hi
  refine ⟨by simp; omega, Disk.sector_length _ _, ?_⟩
  show (Disk.sector (logText b) i)[0]? = some 0
  rw [logText_sector b (by omega)]
  rfl
theorem LState.crash {D : Disk} {k used last after : Nat} {failed : Bool} {sure under : List (List UInt8)} (h : LState D k used last after failed sure under) (hst : last + 1 ≤ 1152921504606846975) (ks : List Int) :
    LHead (D.crash ks).dur k used last after sure ∨ ∃ b, under = [b] ∧ LHead (D.crash ks).dur k (used + secs b.length) (last + 1) after (sure ++ [b]) := by
  have hdur : (D.crash ks).dur = (D.kept ks).foldl Disk.put D.dur := rfl
  have nil : D.pend = [] → LHead (D.crash ks).dur k used last after sure := fun hp => by
    have : D.kept ks = [] := by unfold Disk.kept; rw [hp]; rfl
    rw [hdur, this]
    exact h.head
  cases failed with
  | false => exact .inl (nil (h.rest rfl).1)
  | true =>
    obtain ⟨b, hu, hp | ⟨hf, hn, hp | ⟨hp, hb⟩⟩⟩ := h.fail rfl
    · exact .inl (nil hp)
    · refine .inl ?_
      rw [hdur]
      exact h.head.body fun p hk => writes_body (by rw [← hp]; exact Disk.kept_mem hk)
    · by_cases hk : D.kept ks = []
      · refine .inl ?_
        rw [hdur, hk]
        exact h.head
      · refine .inr ⟨b, hu, ?_⟩
        have e : D.kept ks = [(used, logHdr (last + 1) b)] := by
          unfold Disk.kept at hk ⊢
          rw [hp] at hk ⊢
          simp only [List.zipIdx_cons, List.zipIdx_nil, List.filter_cons, List.filter_nil] at hk ⊢
          split at hk
          · rename_i hh; rw [if_pos hh]; rfl
          · exact absurd rfl hk
        rw [hdur, e]
        exact h.head.next hf hn hst hb
/-- after a crash, opened behind the same stamp -/
theorem LHead.fresh {d : List (List UInt8)} {k used last after : Nat} {sure : List (List UInt8)} {D : Disk} (h : LHead d k used last after sure) (hd : D.dur = d) (hp : D.pend = []) : LState D k used last after false sure [] :=
  ⟨by rw [hd]; exact h, fun _ => ⟨hp, rfl⟩, fun e => by cases e⟩
theorem LState.reset {D : Disk} {k used last after : Nat} {sure under : List (List UInt8)} (h : LState D k used last after false sure under) : LState D k 0 last last false [] [] :=
  ⟨⟨h.head.len, h.head.s64, rfl, rfl, Nat.zero_le _, h.head.old⟩, fun _ => ⟨(h.rest rfl).1, rfl⟩, fun e => by cases e⟩
theorem LState.limit {D : Disk} {k used last after : Nat} {failed : Bool} {sure under : List (List UInt8)} (h : LState D k used last after failed sure under) (m : Int) : LState (D.limit m) k used last after failed sure under := by
  unfold Disk.limit
  split
  · exact h
  · exact ⟨h.head, h.rest, h.fail⟩
theorem lstate_zero (k : Nat) : LState (Disk.zero k) k 0 0 0 false [] [] := by
  refine ⟨⟨by simp [Disk.zero], fun s hs => ?_, rfl, rfl, Nat.zero_le _, fun i hi hm => ?_⟩, fun _ => ⟨rfl, rfl⟩, fun e => by cases e⟩
  · simp [Disk.zero] at hs
    rw [hs.2]; simp
  · simp only [Disk.zero, List.getD_eq_getElem?_getD, List.getElem?_replicate, hi, if_true, Option.getD_some] at hm
    simp at hm
theorem lhead_step {D : Disk} {k used last after : Nat} {sure : List (List UInt8)} (h : LHead D.dur k used last after sure) (hp : D.pend = []) {b : List UInt8} (hf : used + secs b.length ≤ k) (hn : b.length ≤ 1048576) (hst : last + 1 ≤ 1152921504606846975)
    (hb : ∀ i, i + 1 < secs b.length → D.dur.getD (used + 1 + i) [] = bodySec b i) :
    ((putHead D used (logHdr (last + 1) b)).1 = 0 ∧ LState (putHead D used (logHdr (last + 1) b)).2 k (used + secs b.length) (last + 1) after false (sure ++ [b]) []) ∨
    ((putHead D used (logHdr (last + 1) b)).1 = 20 ∧ LState (putHead D used (logHdr (last + 1) b)).2 k used last after true sure [b]) := by
  unfold putHead
  split
  · exact .inr ⟨rfl, h, fun e => (by cases e), fun _ => ⟨b, rfl, .inl hp⟩⟩
  split
  · exact .inr ⟨rfl, h, fun e => (by cases e), fun _ => ⟨b, rfl, .inr ⟨hf, hn, .inr ⟨write_head hp _ (logHdr_len _ _), hb⟩⟩⟩⟩
  · refine .inl ⟨rfl, ?_, fun _ => ⟨rfl, rfl⟩, fun e => (by cases e)⟩
    show LHead ((D.write used (logHdr (last + 1) b)).pend.foldl Disk.put D.dur) _ _ _ _ _
    rw [write_head hp _ (logHdr_len _ _)]
    exact h.next hf hn hst hb
theorem LState.append {D : Disk} {k used last after : Nat} {sure under : List (List UInt8)} (h : LState D k used last after false sure under) {b : List UInt8} (hf : used + secs b.length ≤ k) (hn : b.length ≤ 1048576) (hst : last + 1 ≤ 1152921504606846975) :
    ((putAll' D used (logText b) (logHdr (last + 1) b)).1 = 0 ∧ LState (putAll' D used (logText b) (logHdr (last + 1) b)).2 k (used + secs b.length) (last + 1) after false (sure ++ [b]) []) ∨
    ((putAll' D used (logText b) (logHdr (last + 1) b)).1 = 20 ∧ LState (putAll' D used (logText b) (logHdr (last + 1) b)).2 k used last after true sure [b]) := by
  obtain ⟨hp, -⟩ := h.rest rfl
  have hpos := secs_pos b.length
  have hpw : (D.write (used + 1) (logText b)).pend = Disk.writesOf (used + 1) (logText b) (secs b.length - 1) := by
    show D.pend ++ Disk.writesOf (used + 1) (logText b) (Disk.nsec (logText b)) = _
    rw [hp, List.nil_append, logText_nsec]
  unfold putAll'
  split
  · next h0 =>
    refine lhead_step h.head hp hf hn hst fun i hi => ?_
    rw [logText_len] at h0
    omega
  split
  · exact .inr ⟨rfl, h.head, fun e => (by cases e), fun _ => ⟨b, rfl, .inl hp⟩⟩
  split
  · exact .inr ⟨rfl, h.head, fun e => (by cases e), fun _ => ⟨b, rfl, .inr ⟨hf, hn, .inl hpw⟩⟩⟩
  · have hd : ((D.write (used + 1) (logText b)).sync).dur = (Disk.writesOf (used + 1) (logText b) (secs b.length - 1)).foldl Disk.put D.dur := by
      show (D.write (used + 1) (logText b)).pend.foldl Disk.put D.dur = _
      rw [hpw]
    refine lhead_step (by rw [hd]; exact h.head.body fun p hk => writes_body hk) rfl hf hn hst fun i hi => ?_
    rw [hd, put_writes _ _ _ _ (by rw [h.head.len]; omega) _ (by omega), logText_sector b hi]
theorem LState.off {D : Disk} {k used last after : Nat} {failed : Bool} {sure under : List (List UInt8)} (h : LState D k used last after failed sure under) : failed = true ↔ under ≠ [] := by
  cases failed with
  | true =>
    obtain ⟨b, hu, -⟩ := h.fail rfl
    simp [hu]
  | false => simp [(h.rest rfl).2]
end Go.Proofs.Ytkannfkjnohdlaa
/- What log.Open finds, out of what the sectors say. -/
namespace Go.Proofs.Ytkannfkjnohdlaa
open Go.RowKit Go.Pm
theorem drop_rest {d : List (List UInt8)} (h : ∀ s ∈ d, s.length = 64) (u : Nat) : d.flatten.drop (u * 64) = rest d u := flat_drop d h u
theorem open_pre {d : List (List UInt8)} {k used last after : Nat} {sure : List (List UInt8)} (h : LHead d k used last after sure) {u : Nat} {es : List (List UInt8)} (ho : OpenI d.flatten after u es) :
    ∃ more, sure = es ++ more ∧ LChain d u (after + es.length) more used := by
  induction ho with
  | zero => exact ⟨sure, rfl, h.chain⟩
  | next ho hr ih =>
    obtain ⟨more, h1, h2⟩ := ih
    rw [drop_rest h.s64] at hr ⊢
    cases more with
    | nil =>
      exfalso
      cases (show used = _ from h2)
      rw [List.append_nil] at h1
      subst h1
      have := h.stop
      rw [h.lst] at this
      exact this hr
    | cons b more =>
      obtain ⟨h3, h4⟩ := h2
      obtain ⟨-, h5, h6⟩ := rec_ok h.s64 h3
      rw [h6, h5]
      refine ⟨more, by rw [h1]; simp, ?_⟩
      rw [List.length_append, List.length_singleton, ← Nat.add_assoc]
      exact h4
theorem open_all {d : List (List UInt8)} {k used last after : Nat} {sure : List (List UInt8)} (h : LHead d k used last after sure) {u : Nat} {es : List (List UInt8)} (ho : OpenI d.flatten after u es) (hn : ¬ RecOk (d.flatten.drop (u * 64)) (after + es.length + 1)) : u = used ∧ es = sure := by
  obtain ⟨more, h1, h2⟩ := open_pre h ho
  rw [drop_rest h.s64] at hn
  cases more with
  | nil => exact ⟨(show used = u from h2).symm, by rw [h1, List.append_nil]⟩
  | cons b more => exact absurd (rec_ok h.s64 h2.1).1 hn
theorem view_dur (D : Disk) (hp : D.pend = []) : D.view D.pend 0 D.dur.length = D.dur := by
  rw [hp]
  apply List.ext_getElem
  · simp [Disk.view]
  · intro i h1 h2
    simp [Disk.view, Disk.over, List.getD_eq_getElem?_getD, List.getElem?_eq_getElem h2]
end Go.Proofs.Ytkannfkjnohdlaa
/- A range over a function that keeps a state of its own, over resources. -/
namespace Go.Pm
open Go.RowKit
/-- a loop's record -/
@[reducible] def Res.loop (l : Nat) (r : Loop) : Res := ⟨[l], fun w => w.heap[l]? = some (.loop r), fun _ _ h hb => (h l (by simp)).trans hb⟩
theorem Only.putObjL (w : World) (l : Nat) (o : Obj) : Only [l] w (w.putObj l o) :=
  ⟨rfl, rfl, rfl, by simp [World.putObj], fun k _ hk => World.putObj_heap_other (fun e => hk (by simp [e]))⟩
theorem Inv.loopTo {B : Base} {l : Nat} {r : Loop} {H : List Res} {W : World} (hv : Inv B (Res.loop l r :: H) W) (r' : Loop) : Inv B (Res.loop l r' :: H) (W.putObj l (.loop r')) := by
  have hl : l < W.heap.size := hv.headLt l (by simp)
  refine hv.upd (Res.loop l r') (Only.putObjL _ _ _) (World.putObj_heap_same hl) (fun b hb => .inl hb) (fun b hb => ?_) (by simp)
  have : b = l := by simpa using hb
  subst this
  simpa [World.putObj] using hl
theorem Inv.unloop {B : Base} {l : Nat} {r : Loop} {H : List Res} {W : World} (hv : Inv B (Res.loop l r :: H) W) (r' : Loop) : Inv B H (W.putObj l (.loop r')) := (hv.loopTo r').drop
theorem perm_mid2 {α : Type} (a b : α) (R X : List α) : (a :: b :: (R ++ X)).Perm (R ++ (a :: b :: X)) :=
  ((List.Perm.cons a List.perm_middle.symm).trans List.perm_middle.symm)
theorem perm_end2 {α : Type} (a b : α) (I X : List α) : (I ++ (a :: b :: X)).Perm (X ++ (a :: (b :: I))) := by
  refine List.perm_append_comm.trans ?_
  show ((a :: b :: X) ++ I).Perm _
  refine (perm_mid2 a b X I).trans ?_
  exact List.Perm.refl _
/-- the iterator's word: its own resources R0, what it hands over one by one (Step), what it has handed over at its end (S) -/
def SeqR {α : Type} (n : Nat) (P : Program) (gf : Nat) (lb : Array Value) (R0 : List Res) (encs : α → Array Value) (Step : List α → α → Prop) (S : List α → Prop) (B : Base) : Prop :=
  ∀ (l : Nat) (W : World) (K : List α → List Res), Inv B (R0 ++ K []) W →
    (∀ pre x W1 It, Step pre x → Inv B (It ++ K pre) W1 → YieldAt Fence.wide (n - 1) P l (encs x) W1 fun e W' => e = .returned (.bool true) ∧ Inv B (It ++ K (pre ++ [x])) W') →
    CallsIn Fence.wide n P gf (#[.func (.yield l) #[] #[]] ++ lb) W fun e W' => (∃ v, e = .returned v) ∧ ∃ xs, S xs ∧ Inv B (K xs) W'
theorem sl_rangeS {α : Type} {n : Nat} {P : Program} {g : Operand} {ps : Array Tmp} {assign body : Code} {Q : Exit → Act → World → Prop} {a : Act} {w : World}
    (h1 : 1 ≤ n) {gf : Nat} {lb : Array Value} (hg : a.eval g = .func (.func gf) #[] lb) (eg : ∀ args w, (callFunc gf args).run P w = .ok (.enter gf args) w)
    {B : Base} {R0 : List Res} {encs : α → Array Value} {Step : List α → α → Prop} {S : List α → Prop} (hseq : SeqR (n - 1) P gf lb R0 encs Step S B) (hps : ∀ x, (encs x).size = ps.size)
    (Hs : List α → List Res) (fr : α → Act) (hv : Inv B (R0 ++ Hs []) w)
    (hassign : ∀ (l : Nat) (pre : List α) (x : α) (T : List Res) (W : World), Step pre x → Inv B (Hs pre ++ T) W → assign.wpIn (Fence.wide.inRound l) (n - 1 - 1) P (fun e a' W' => e = .normal ∧ a' = fr x ∧ Inv B (Hs pre ++ T) W') { tmps := (ps.zip (encs x)).foldl (fun t (p, v) => t.setIfInBounds p v) a.tmps, defers := [] } W)
    (hbody : ∀ (l : Nat) (pre : List α) (x : α) (T : List Res) (W : World), Step pre x → Inv B (Hs pre ++ T) W → body.wpIn (Fence.wide.inRound l) (n - 1 - 1) P (fun e _ W' => e = .normal ∧ Inv B (Hs (pre ++ [x]) ++ T) W') (fr x) W)
    (hdone : ∀ (D : Nat) (xs : List α) (W : World), S xs → Inv B (Res.defd D :: Hs xs) W → Q .normal { a with defers := { target := .collected D, args := #[] } :: a.defers } W) :
    (Code.rangeFunc g ps assign body).wpIn Fence.wide n P Q a w := by
  refine wpIn_rangeFunc ?_
  intro fn hfn
  obtain ⟨rec, hrec⟩ : ∃ rec : LoopState → Option Code → Loop, rec = fun st pe => { state := st, pending := pe, fn, tmps := a.tmps, params := ps, assign, body, defers := w.heap.size } := ⟨_, rfl⟩
  obtain ⟨W1, hW1⟩ : ∃ W1, (w.alloc (.deferred (some []))).alloc (.loop (rec .ready none)) = W1 := ⟨_, rfl⟩
  have hd : Inv B (Res.defd w.heap.size :: (R0 ++ Hs [])) (w.alloc (.deferred (some []))) :=
    hv.new ((Below.refl _ _).alloc (Nat.le_refl _) _) _ (World.alloc_heap_new w _) (by simp) (by simp)
  have hL1 : Inv B (Res.loop (w.heap.size + 1) (rec .ready none) :: Res.defd w.heap.size :: (R0 ++ Hs [])) W1 := by
    rw [← hW1]
    refine hd.new ((Below.refl _ _).alloc (Nat.le_refl _) _) _ ?_ (by simp) (by simp)
    have := World.alloc_heap_new (w.alloc (.deferred (some []))) (.loop (rec .ready none))
    rwa [World.size_alloc] at this
  refine ⟨w.heap.size + 1, [{ target := .collected w.heap.size, args := #[] }], W1, { target := .fn (.func gf) lb, args := #[.func (.yield (w.heap.size + 1)) #[] #[]] }, W1, gf,
    #[.func (.yield (w.heap.size + 1)) #[] #[]] ++ lb, W1, ?_, ?_, ?_, ?_, fun _ => h1, ?_⟩
  · rw [← hW1, hrec]; exact run_enterLoop_outer _ _ _ _ _
  · simp only [resolve, hg]
    simp [go_sem]
  · intro f' hf'; trivial
  · simp [invoke, go_sem, eg]
  refine (hseq (w.heap.size + 1) W1 (fun pre => Res.loop (w.heap.size + 1) (rec .ready none) :: Res.defd w.heap.size :: Hs pre) (hL1.perm (perm_mid2 _ _ _ _)) ?_).mono ?_
  · intro pre x W It hst hi
    have hi2 := hi.perm (perm_end2 _ _ _ _)
    have hl : W.heap[w.heap.size + 1]? = some (.loop (rec .ready none)) := hi2.own (Res.loop (w.heap.size + 1) (rec .ready none)) (by simp)
    have hy := run_yield (P := P) (args := encs x) hl (by rw [hrec]; exact hps x)
    rw [hrec] at hy
    refine ⟨fn, _, assign, body, hy, roundIn_of_wpIn hfn (wpIn_mono (hassign _ pre x _ W hst hi2) ?_)⟩
    rintro e a' W2 ⟨rfl, rfl, h2⟩
    have hl2 : W2.heap[w.heap.size + 1]? = some (.loop (rec .ready none)) := h2.own (Res.loop (w.heap.size + 1) (rec .ready none)) (by simp)
    refine ⟨_, run_beginRound hl2 (by rw [hrec]), ?_⟩
    have h3 := ((h2.perm List.perm_middle).loopTo { rec .ready none with state := .busy }).perm List.perm_middle.symm
    refine wpIn_mono (hbody _ pre x _ _ hst h3) ?_
    rintro e a3 W3 ⟨rfl, h4⟩
    have hl4 : W3.heap[w.heap.size + 1]? = some (.loop { rec .ready none with state := .busy }) := h4.own (Res.loop (w.heap.size + 1) { rec .ready none with state := .busy }) (by simp)
    have hend := run_endRound (P := P) none hl4
    have h5 := ((h4.perm List.perm_middle).loopTo (rec .ready none)).perm List.perm_middle.symm
    refine ⟨_, _, hend, rfl, ?_⟩
    have h6 := h5.perm (perm_end2 _ _ It (Hs (pre ++ [x]))).symm
    rw [hrec] at h6 ⊢
    exact h6
  · rintro e W2 ⟨⟨v, rfl⟩, xs, hS, hi⟩
    have hl : W2.heap[w.heap.size + 1]? = some (.loop (rec .ready none)) := hi.own (Res.loop (w.heap.size + 1) (rec .ready none)) (by simp)
    have hend := run_endLoop (P := P) hl (by rw [hrec]; simp)
    refine ⟨none, _, by rw [hrec] at hend; exact hend, hdone _ xs _ hS (hi.unloop _)⟩
end Go.Pm
/- A range over a function, over resources that are not told beforehand: a row that grows. -/
namespace Go.Pm
open Go.RowKit
/-- the iterator's word, as SeqR: what is kept is any list of resources of a kind -/
def SeqP {α : Type} (n : Nat) (P : Program) (gf : Nat) (lb : Array Value) (R0 : List Res) (encs : α → Array Value) (Step : List α → α → Prop) (S : List α → Prop) (B : Base) : Prop :=
  ∀ (l : Nat) (W : World) (K : List α → List Res → Prop) (R : List Res), K [] R → Inv B (R0 ++ R) W →
    (∀ pre x W1 It R, Step pre x → K pre R → Inv B (It ++ R) W1 → YieldAt Fence.wide (n - 1) P l (encs x) W1 fun e W' => e = .returned (.bool true) ∧ ∃ R', K (pre ++ [x]) R' ∧ Inv B (It ++ R') W') →
    CallsIn Fence.wide n P gf (#[.func (.yield l) #[] #[]] ++ lb) W fun e W' => (∃ v, e = .returned v) ∧ ∃ xs R', S xs ∧ K xs R' ∧ Inv B R' W'
theorem sl_rangeP {α : Type} {n : Nat} {P : Program} {g : Operand} {ps : Array Tmp} {assign body : Code} {Q : Exit → Act → World → Prop} {a : Act} {w : World}
    (h1 : 1 ≤ n) {gf : Nat} {lb : Array Value} (hg : a.eval g = .func (.func gf) #[] lb) (eg : ∀ args w, (callFunc gf args).run P w = .ok (.enter gf args) w)
    {B : Base} {R0 : List Res} {encs : α → Array Value} {Step : List α → α → Prop} {S : List α → Prop} (hseq : SeqP (n - 1) P gf lb R0 encs Step S B) (hps : ∀ x, (encs x).size = ps.size)
    (Hs : List α → List Res → Prop) (fr : α → Act) {R1 : List Res} (hH : Hs [] R1) (hv : Inv B (R0 ++ R1) w)
    (hassign : ∀ (l : Nat) (pre : List α) (x : α) (R T : List Res) (W : World), Step pre x → Hs pre R → Inv B (R ++ T) W → assign.wpIn (Fence.wide.inRound l) (n - 1 - 1) P (fun e a' W' => e = .normal ∧ a' = fr x ∧ Inv B (R ++ T) W') { tmps := (ps.zip (encs x)).foldl (fun t (p, v) => t.setIfInBounds p v) a.tmps, defers := [] } W)
    (hbody : ∀ (l : Nat) (pre : List α) (x : α) (R T : List Res) (W : World), Step pre x → Hs pre R → Inv B (R ++ T) W → body.wpIn (Fence.wide.inRound l) (n - 1 - 1) P (fun e _ W' => e = .normal ∧ ∃ R', Hs (pre ++ [x]) R' ∧ Inv B (R' ++ T) W') (fr x) W)
    (hdone : ∀ (D : Nat) (xs : List α) (R : List Res) (W : World), S xs → Hs xs R → Inv B (Res.defd D :: R) W → Q .normal { a with defers := { target := .collected D, args := #[] } :: a.defers } W) :
    (Code.rangeFunc g ps assign body).wpIn Fence.wide n P Q a w := by
  refine wpIn_rangeFunc ?_
  intro fn hfn
  obtain ⟨rec, hrec⟩ : ∃ rec : LoopState → Option Code → Loop, rec = fun st pe => { state := st, pending := pe, fn, tmps := a.tmps, params := ps, assign, body, defers := w.heap.size } := ⟨_, rfl⟩
  obtain ⟨W1, hW1⟩ : ∃ W1, (w.alloc (.deferred (some []))).alloc (.loop (rec .ready none)) = W1 := ⟨_, rfl⟩
  have hd : Inv B (Res.defd w.heap.size :: (R0 ++ R1)) (w.alloc (.deferred (some []))) :=
    hv.new ((Below.refl _ _).alloc (Nat.le_refl _) _) _ (World.alloc_heap_new w _) (by simp) (by simp)
  have hL1 : Inv B (Res.loop (w.heap.size + 1) (rec .ready none) :: Res.defd w.heap.size :: (R0 ++ R1)) W1 := by
    rw [← hW1]
    refine hd.new ((Below.refl _ _).alloc (Nat.le_refl _) _) _ ?_ (by simp) (by simp)
    have := World.alloc_heap_new (w.alloc (.deferred (some []))) (.loop (rec .ready none))
    rwa [World.size_alloc] at this
  refine ⟨w.heap.size + 1, [{ target := .collected w.heap.size, args := #[] }], W1, { target := .fn (.func gf) lb, args := #[.func (.yield (w.heap.size + 1)) #[] #[]] }, W1, gf,
    #[.func (.yield (w.heap.size + 1)) #[] #[]] ++ lb, W1, ?_, ?_, ?_, ?_, fun _ => h1, ?_⟩
  · rw [← hW1, hrec]; exact run_enterLoop_outer _ _ _ _ _
  · simp only [resolve, hg]
    simp [go_sem]
  · intro f' hf'; trivial
  · simp [invoke, go_sem, eg]
  refine (hseq (w.heap.size + 1) W1 (fun pre R => ∃ R2, R = Res.loop (w.heap.size + 1) (rec .ready none) :: Res.defd w.heap.size :: R2 ∧ Hs pre R2) _ ⟨R1, rfl, hH⟩ (hL1.perm (perm_mid2 _ _ _ _)) ?_).mono ?_
  · rintro pre x W It _ hst ⟨R2, rfl, hR⟩ hi
    have hi2 := hi.perm (perm_end2 _ _ _ _)
    have hl : W.heap[w.heap.size + 1]? = some (.loop (rec .ready none)) := hi2.own (Res.loop (w.heap.size + 1) (rec .ready none)) (by simp)
    have hy := run_yield (P := P) (args := encs x) hl (by rw [hrec]; exact hps x)
    rw [hrec] at hy
    refine ⟨fn, _, assign, body, hy, roundIn_of_wpIn hfn (wpIn_mono (hassign _ pre x _ _ W hst hR hi2) ?_)⟩
    rintro e a' W2 ⟨rfl, rfl, h2⟩
    have hl2 : W2.heap[w.heap.size + 1]? = some (.loop (rec .ready none)) := h2.own (Res.loop (w.heap.size + 1) (rec .ready none)) (by simp)
    refine ⟨_, run_beginRound hl2 (by rw [hrec]), ?_⟩
    have h3 := ((h2.perm List.perm_middle).loopTo { rec .ready none with state := .busy }).perm List.perm_middle.symm
    refine wpIn_mono (hbody _ pre x _ _ _ hst hR h3) ?_
    rintro e a3 W3 ⟨rfl, R', hR', h4⟩
    have hl4 : W3.heap[w.heap.size + 1]? = some (.loop { rec .ready none with state := .busy }) := h4.own (Res.loop (w.heap.size + 1) { rec .ready none with state := .busy }) (by simp)
    have hend := run_endRound (P := P) none hl4
    have h5 := ((h4.perm List.perm_middle).loopTo (rec .ready none)).perm List.perm_middle.symm
    refine ⟨_, _, hend, rfl, _, ⟨R', rfl, hR'⟩, ?_⟩
    have h6 := h5.perm (perm_end2 _ _ It R').symm
    rw [hrec] at h6 ⊢
    exact h6
  · rintro e W2 ⟨⟨v, rfl⟩, xs, _, hS, ⟨R2, rfl, hR⟩, hi⟩
    have hl : W2.heap[w.heap.size + 1]? = some (.loop (rec .ready none)) := hi.own (Res.loop (w.heap.size + 1) (rec .ready none)) (by simp)
    have hend := run_endLoop (P := P) hl (by rw [hrec]; simp)
    refine ⟨none, _, by rw [hrec] at hend; exact hend, hdone _ xs _ _ hS hR (hi.unloop _)⟩
end Go.Pm
/- log.pieces: the iterator over a body's pieces. -/
namespace Go.Proofs.Ytkannfkjnohdlaa
open Go.RowKit Go.Pm
/-- a piece: where it lies, its slice's capacity, its number -/
structure Pce where
  ad : Option Addr
  c : Nat
  i : Nat
def pceEnc (len : Nat) (x : Pce) : Array Value := #[.slice x.ad (rcM len x.i) x.c]
structure PceStep (B : Base) (l : List UInt8) (pre : List Pce) (x : Pce) : Prop where
  i : x.i = pre.length
  lt : 63 * x.i < l.length
  ok : SliceOk x.ad (rcM l.length x.i) x.c
  rd : RdV B [] x.ad ((piece l (63 * x.i) (rcM l.length x.i)).map B8)
theorem run_to {t : TypeId} {P : Program} {w : World} {p : Option Addr} {n c m : Nat} (ht : P.underlying t = some (.slice (P.elem t))) (hs : ∀ w, (sizeOf (P.elem t)).run P w = .ok 1 w) (h1 : m ≤ c) :
    (Instr.sliceAt t (.slice p n c) none (some (.int .i64 (m : Int))) none).run P w = .ok (.slice p m c) w := by
  rw [run_sliceAt_slice w t _ _ _ _ ht, run_slice_h w t p n c ht .i64 m (by omega) (by omega), hs]
  have e0 : (p.map (·.add 0)) = p := by cases p <;> simp [Addr.add]
  simp only [Result.andThen, sliced, Int.toNat_natCast, Nat.sub_zero]
  split
  · rename_i h0
    rfl
  · rw [Nat.zero_mul, e0]
theorem rd_take {B : Base} {H : List Res} {a : Option Addr} {l : List UInt8} (hr : RdV B H a (l.map B8)) (m : Nat) : RdV B H a ((l.take m).map B8) := by
  intro i hi
  have hi' : i < l.length := by rw [List.length_map, List.length_take] at hi; omega
  obtain ⟨b, off, h1, h2⟩ := hr i (by rw [List.length_map]; exact hi')
  refine ⟨b, off, h1, ?_⟩
  have e : ((l.take m).map B8)[i] = (l.map B8)[i]'(by rw [List.length_map]; exact hi') := by simp
  rw [e]
  exact h2
theorem rd_from {B : Base} {H : List Res} {ab aoff : Nat} {za : Option Addr} {l : List UInt8} (m : Nat) (hr : RdV B H (some ⟨ab, aoff, none⟩) (l.map B8)) (hz : m < l.length → za = some ⟨ab, aoff + m, none⟩) : RdV B H za ((l.drop m).map B8) := by
  by_cases ho : m < l.length
  · rw [hz ho]
    have := rd_sub hr m (l.length - m) (by omega)
    have e : piece l m (l.length - m) = l.drop m := by unfold piece; rw [List.take_of_length_le (by rw [List.length_drop]; exact Nat.le_refl _)]
    rw [e] at this
    exact this
  · rw [List.drop_eq_nil_of_le (by omega)]
    exact rdV_nil
theorem szB (w : World) : (sizeOf (Try.prog.elem 24)).run Try.prog w = .ok 1 w := by kernel_rfl
theorem naB (w : World) : (isAgg 24).run Try.prog w = .ok false w := by kernel_rfl
theorem szS : (Try.prog.info? 24).map (·.size) = some 1 := by kernel_rfl
set_option maxRecDepth 100000 in
set_option maxHeartbeats 1000000 in
theorem logPieces (m : Nat) (B : Base) (bx : Nat) (a : Option Addr) (cap : Nat) (l : List UInt8) (hok : SliceOk a l.length cap) (hr : RdV B [] a (l.map B8)) :
    SeqP m Try.prog 68 #[.pointer (some ⟨bx, 0, none⟩)] [Res.cell bx [.slice a l.length cap] 24] (pceEnc l.length) (PceStep B l) (fun xs => 63 * xs.length ≥ l.length ∧ (xs.length = 0 ∨ 63 * (xs.length - 1) < l.length)) B := by
  intro ll W K R1 hK1 hv hY
  refine callsIn_of_wp Try.func68 rfl trivial ?_ rfl
  simp only [Try.ntmps68, List.size_toArray, List.length_cons, List.length_nil, Nat.reduceAdd, Nat.reduceSub, Array.replicate_succ, Array.replicate_zero, List.push_toArray, List.append_toArray, List.nil_append, List.cons_append]
  refine wpIn_block ?_
  gi_loopw [3] (fun x3 wr => ∃ (i : Nat) (pre : List Pce) (ad : Option Addr) (c : Nat) (R : List Res), K pre R ∧ pre.length = i ∧ (i = 0 ∨ 63 * (i - 1) < l.length) ∧ SliceOk ad (l.length - 63 * i) c ∧ RdV B [] ad ((l.drop (63 * i)).map B8) ∧ Inv B (Res.cell bx [.slice ad (l.length - 63 * i) c] 24 :: R) wr) (fun _ wr => slLen ((wr.cell? ⟨bx, 0, none⟩).getD (.bool false)))
  case atStart => exact ⟨0, [], a, cap, R1, hK1, rfl, .inl rfl, by simpa using hok, by simpa using hr, by simpa using hv⟩
  case round =>
    obtain ⟨i, pre, ad, c, R, hK, hpre, hi, hsok, hrd, hv⟩ := hrel
    have hmu : slLen ((wr.cell? ⟨bx, 0, none⟩).getD (.bool false)) = l.length - 63 * i := by
      rw [show (⟨bx, 0, none⟩ : Addr) = ⟨bx, 0 + 0, none⟩ from rfl, hv.load 0 0 rfl rfl]
      rfl
    by_cases hlt : 63 * i < l.length
    · (repeat ((fail_if_success refine wpIn_region_lit ?_); (fail_if_success refine wpIn_cond (t := true) ?_ ?_); gi_step))
      refine wpIn_region_lit ?_
      refine wpi_exG (v := .slice ad (l.length - 63 * i) c) (fun _ => trivial) (wn rfl) rfl (ex_load rfl rfl (run_load1 naB (hv.load 0 0 rfl rfl))) ?_
      refine wpi_exG (v := .int .i64 ((l.length - 63 * i : Nat) : Int)) (fun _ => trivial) (wn rfl) rfl (ex_len0 Try.underlying24 rfl rfl) ?_
      refine wpi_exG (v := .bool true) (fun _ => trivial) (wn rfl) rfl (ex_gtr (k := .i64) (m := ((l.length - 63 * i : Nat) : Int)) (n := 0) rfl rfl rfl (decide_eq_true (by omega))) ?_
      refine wpListIn_nil ?_
      simp only [Act.put, List.setIfInBounds_toArray, List.set_cons_succ, List.set_cons_zero]
      (repeat ((fail_if_success refine wpIn_region_lit ?_); (fail_if_success refine wpIn_cond (t := true) ?_ ?_); gi_step))
      refine wpIn_cond_true rfl ?_
      (repeat ((fail_if_success refine wpIn_region_lit ?_); (fail_if_success refine wpIn_cond (t := true) ?_ ?_); gi_step))
      refine wpIn_region_lit ?_
      refine wpi_exG (v := .slice ad (l.length - 63 * i) c) (fun _ => trivial) (wn rfl) rfl (ex_load rfl rfl (run_load1 naB (hv.load 0 0 rfl rfl))) ?_
      refine wpi_exG (v := .int .i64 ((l.length - 63 * i : Nat) : Int)) (fun _ => trivial) (wn rfl) rfl (ex_len0 Try.underlying24 rfl rfl) ?_
      refine wpi_exG (v := .int .i64 (rcM l.length i : Int)) (fun _ => trivial) (wn rfl) rfl (ex_min2 (m := 63) (n := ((l.length - 63 * i : Nat) : Int)) rfl rfl rfl (by unfold rcM; split <;> omega)) ?_
      refine wpi_exG (v := .int .i64 (rcM l.length i : Int)) (fun _ => trivial) (wn rfl) rfl (ex_assign rfl rfl) ?_
      refine wpListIn_nil ?_
      simp only [Act.put, List.setIfInBounds_toArray, List.set_cons_succ, List.set_cons_zero]
      (repeat ((fail_if_success refine wpIn_region_lit ?_); (fail_if_success refine wpIn_cond (t := true) ?_ ?_); gi_step))
      have hm := rcM_le l.length i
      have hml : rcM l.length i ≤ l.length - 63 * i := by unfold rcM; exact Nat.min_le_right _ _
      have hm1 : 1 ≤ rcM l.length i := by unfold rcM; omega
      have hsle := hsok.le
      have hsmx := hsok.max
      have hst : PceStep B l pre ⟨ad, c, i⟩ := ⟨hpre.symm, hlt, ⟨by show rcM l.length i ≤ c; omega, hsmx, hsok.nil⟩, rd_take hrd _⟩
      have hyl := hY pre ⟨ad, c, i⟩ wr [Res.cell bx [.slice ad (l.length - 63 * i) c] 24] R hst hK hv
      refine wpIn_region_lit ?_
      refine wpi_exG (v := .func (.yield ll) #[] #[]) (fun _ => trivial) (wn rfl) rfl (ex_move rfl rfl) ?_
      refine wpi_exG (v := .slice ad (l.length - 63 * i) c) (fun _ => trivial) (wn rfl) rfl (ex_load rfl rfl (run_load1 naB (hv.load 0 0 rfl rfl))) ?_
      refine wpi_exG (v := .int .i64 (rcM l.length i : Int)) (fun _ => trivial) (wn rfl) rfl (ex_move rfl rfl) ?_
      refine wpi_exG (v := .slice ad (rcM l.length i) c) (fun _ => trivial) (wn rfl) rfl (ex_slice (hi' := some (.int .i64 (rcM l.length i : Int))) rfl rfl rfl rfl rfl (run_to Try.underlying24 szB (by omega))) ?_
      simp only [Act.put, List.setIfInBounds_toArray, List.set_cons_succ, List.set_cons_zero]
      refine wpi_yield (args := #[.slice ad (rcM l.length i) c]) (fun _ => trivial) rfl rfl rfl rfl (by simp only [List.map_toArray, List.map_cons, List.map_nil]; rfl) hyl ?_
      rintro e W3 ⟨rfl, R', hK3, hv3⟩
      refine ⟨_, rfl, ?_⟩
      refine wpi_ex (fun _ => trivial) rfl rfl (ex_un (v := .bool false) rfl rfl (by simp [go_sem])) ?_
      refine wpListIn_nil ?_
      simp only [Act.put, List.setIfInBounds_toArray, List.set_cons_succ, List.set_cons_zero]
      (repeat ((fail_if_success refine wpIn_region_lit ?_); (fail_if_success refine wpIn_cond (t := true) ?_ ?_); gi_step))
      refine wpIn_cond_false rfl ?_
      (repeat ((fail_if_success refine wpIn_region_lit ?_); (fail_if_success refine wpIn_cond (t := true) ?_ ?_); gi_step))
      replace hv3 : Pm.Inv B (Res.cell bx [.slice ad (l.length - 63 * i) c] 24 :: R') W3 := hv3
      obtain ⟨ab, aoff, rfl, -⟩ := hrd 0 (by rw [List.length_map, List.length_drop]; omega)
      obtain ⟨za, hzs, hza, hzok⟩ := slice_from (ab := ab) (off := aoff) (len := l.length - 63 * i) (cap := c) (lo := rcM l.length i) hml hsle hsmx
      refine wpIn_region_lit ?_
      refine wpi_exG (v := .slice (some ⟨ab, aoff, none⟩) (l.length - 63 * i) c) (fun _ => trivial) (wn rfl) rfl (ex_load rfl rfl (run_load1 naB (hv3.load 0 0 rfl rfl))) ?_
      refine wpi_exG (v := .int .i64 (rcM l.length i : Int)) (fun _ => trivial) (wn rfl) rfl (ex_move rfl rfl) ?_
      refine wpi_exG (v := .slice za (l.length - 63 * i - rcM l.length i) (c - rcM l.length i)) (fun _ => trivial) (wn rfl) rfl (ex_slice (lo' := some (.int .i64 (rcM l.length i : Int))) rfl rfl rfl rfl rfl (hzs _)) ?_
      simp only [Act.put, List.setIfInBounds_toArray, List.set_cons_succ, List.set_cons_zero]
      refine sl_storeAt 0 (v := .slice za (l.length - 63 * i - rcM l.length i) (c - rcM l.length i)) (L' := [.slice za (l.length - 63 * i - rcM l.length i) (c - rcM l.length i)]) (fun _ => trivial) (wn rfl) rfl rfl rfl hv3 rfl szS (by simp) rfl rfl rfl (fun w4 hv => ?_)
      simp only [List.set_cons_succ, List.set_cons_zero] at hv
      refine wpListIn_nil ?_
      simp only [Act.put, List.setIfInBounds_toArray, List.set_cons_succ, List.set_cons_zero]
      (repeat ((fail_if_success refine wpIn_region_lit ?_); (fail_if_success refine wpIn_cond (t := true) ?_ ?_); gi_step))
      go_roundw
      case rel =>
        have hnum : l.length - 63 * i - rcM l.length i = l.length - 63 * (i + 1) := by unfold rcM; omega
        refine ⟨i + 1, pre ++ [⟨_, c, i⟩], za, c - rcM l.length i, R', hK3, by rw [List.length_append, hpre]; rfl, .inr (by rw [Nat.add_sub_cancel]; exact hlt), by rw [← hnum]; exact hzok, ?_, by rw [← hnum]; exact hv⟩
        have hd := rd_from (za := za) (rcM l.length i) hrd (fun hh => hza (by rw [List.length_drop] at hh; omega))
        rw [List.drop_drop] at hd
        by_cases hh : 63 ≤ l.length - 63 * i
        · have e : rcM l.length i = 63 := by unfold rcM; exact Nat.min_eq_left hh
          rw [e, show 63 * i + 63 = 63 * (i + 1) by omega] at hd
          exact hd
        · rw [List.drop_eq_nil_of_le (by omega)]
          exact rdV_nil
      case measure =>
        rw [hmu, show (⟨bx, 0, none⟩ : Addr) = ⟨bx, 0 + 0, none⟩ from rfl, hv.load 0 0 rfl rfl]
        simp only [Option.getD_some, slLen]
        omega
    · (repeat ((fail_if_success refine wpIn_region_lit ?_); (fail_if_success refine wpIn_cond (t := true) ?_ ?_); gi_step))
      refine wpIn_region_lit ?_
      refine wpi_exG (v := .slice ad (l.length - 63 * i) c) (fun _ => trivial) (wn rfl) rfl (ex_load rfl rfl (run_load1 naB (hv.load 0 0 rfl rfl))) ?_
      refine wpi_exG (v := .int .i64 ((l.length - 63 * i : Nat) : Int)) (fun _ => trivial) (wn rfl) rfl (ex_len0 Try.underlying24 rfl rfl) ?_
      refine wpi_exG (v := .bool false) (fun _ => trivial) (wn rfl) rfl (ex_gtr (k := .i64) (m := ((l.length - 63 * i : Nat) : Int)) (n := 0) rfl rfl rfl (decide_eq_false (by omega))) ?_
      refine wpListIn_nil ?_
      simp only [Act.put, List.setIfInBounds_toArray, List.set_cons_succ, List.set_cons_zero]
      (repeat ((fail_if_success refine wpIn_region_lit ?_); (fail_if_success refine wpIn_cond (t := true) ?_ ?_); gi_step))
      refine wpIn_cond_false rfl ?_
      (repeat ((fail_if_success refine wpIn_region_lit ?_); (fail_if_success refine wpIn_cond (t := true) ?_ ?_); gi_step))
      go_end0
      exact ⟨⟨_, rfl⟩, pre, R, ⟨by omega, by rw [hpre]; rcases hi with h | h; exact .inl h; exact .inr h⟩, hK, hv.drop⟩
end Go.Proofs.Ytkannfkjnohdlaa
