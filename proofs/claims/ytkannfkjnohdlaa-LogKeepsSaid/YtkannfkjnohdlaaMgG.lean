/- CrcApart's walk. -/
import Derived.Test.YtkannfkjnohdlaaMgB
import Derived.Test.YtkannfkjnohdlaaMgA
import Derived.Test.YtkannfkjnohdlaaMgD
import Derived.Test.YtkannfkjnohdlaaMgF
import Derived.Test.YtkannfkjnohdlaaMgC
namespace Go.Proofs.Ytkannfkjnohdlaa
open Go.RowKit Go.Pm

set_option maxHeartbeats 2000000 in
theorem crcApartBig (w : World) (a : Option Addr) (cap : Nat) (l : List UInt8) (at_ : Int) (xs : Array Value) (hok : SliceOk a l.length cap) (hbig : l.length < 4 ∨ 1000 < l.length) :
    Calls Try.prog 4 #[.slice a l.length cap, .int .i64 at_, .agg xs] w fun e w' => e = .returned (.bool true) ∧ Below w.heap.size w w' := by
  obtain ⟨h1, h2, _⟩ := hok
  unfold maxLen at h2
  by_cases h4 : l.length < 4
  · go_enter Try.func4, Try.ntmps4
    go_wp2_with fail
    refine (crcAwake _).mono ?_
    rintro e w1 ⟨rfl, hb1⟩
    go_wp2_with fail
    refine (crcAwake _).mono ?_
    rintro e w2 ⟨rfl, hb2⟩
    go_wp2_with fail
    go_ret
    exact ⟨rfl, ((((Below.refl _ _).alloc (Nat.le_refl _) _).trans (hb1.mono (by simp))).trans (hb2.mono (by have := hb1.size; simp at this; omega)))⟩
  · have hbig' : 1000 < l.length := by omega
    clear hbig
    go_enter Try.func4, Try.ntmps4
    go_wp2_with fail
    refine (crcAwake _).mono ?_
    rintro e w1 ⟨rfl, hb1⟩
    go_wp2_with fail
    refine (crcAwake _).mono ?_
    rintro e w2 ⟨rfl, hb2⟩
    go_wp2_with fail
    go_ret
    exact ⟨rfl, ((((Below.refl _ _).alloc (Nat.le_refl _) _).trans (hb1.mono (by simp))).trans (hb2.mono (by have := hb1.size; simp at this; omega)))⟩

/-- l with i of the bytes cs from place k on -/
def ov (l : List UInt8) (k : Nat) (cs : List UInt8) : Nat → List UInt8
  | 0 => l
  | i + 1 => (ov l k cs i).set (k + i) (cs.getD i 0)
theorem ov_length (l : List UInt8) (k : Nat) (cs : List UInt8) (i : Nat) : (ov l k cs i).length = l.length := by
  induction i with
  | zero => rfl
  | succ i ih => simp [ov, ih]

theorem cut4 (l : List UInt8) (k : Nat) (h : k + 4 ≤ l.length) : ∃ p q b0 b1 b2 b3, l = p ++ b0 :: b1 :: b2 :: b3 :: q ∧ p.length = k := by
  have hd : (l.drop k).length = l.length - k := List.length_drop
  have hl := (List.take_append_drop k l).symm
  match hr : l.drop k with
  | [] => rw [hr] at hd; simp at hd; omega
  | [_] => rw [hr] at hd; simp at hd; omega
  | [_, _] => rw [hr] at hd; simp at hd; omega
  | [_, _, _] => rw [hr] at hd; simp at hd; omega
  | b0 :: b1 :: b2 :: b3 :: q => exact ⟨l.take k, q, b0, b1, b2, b3, by rw [hr] at hl; exact hl, by simp; omega⟩
theorem ov4 (l : List UInt8) (k : Nat) (c0 c1 c2 c3 : UInt8) (h : k + 4 ≤ l.length) :
    ∃ p q b0 b1 b2 b3, l = p ++ [b0, b1, b2, b3] ++ q ∧ ov l k [c0, c1, c2, c3] 4 = p ++ [c0, c1, c2, c3] ++ q := by
  obtain ⟨p, q, b0, b1, b2, b3, rfl, rfl⟩ := cut4 l k h
  refine ⟨p, q, b0, b1, b2, b3, by simp, ?_⟩
  simp [ov]
theorem apart (l : List UInt8) (k : Nat) (c0 c1 c2 c3 : UInt8) (h : k + 4 ≤ l.length) : Crc.sum l = Crc.sum (ov l k [c0, c1, c2, c3] 4) ↔ l = ov l k [c0, c1, c2, c3] 4 := by
  constructor
  · intro he
    obtain ⟨p, q, b0, b1, b2, b3, h1, h2⟩ := ov4 l k c0 c1 c2 c3 h
    rw [h2] at he ⊢
    have he' : Crc.sum (p ++ [b0, b1, b2, b3] ++ q) = Crc.sum (p ++ [c0, c1, c2, c3] ++ q) := by rw [← h1]; exact he
    obtain ⟨rfl, rfl, rfl, rfl⟩ := Crc.sum_apart p q _ _ _ _ _ _ _ _ he'
    exact h1
  · intro he; rw [← he]

theorem both_eq {m n : Nat} {l L : List UInt8} (h : m = n ↔ l = L) : (((m : Int) == (n : Int)) == (l == L)) = true := by
  rw [beq_iff_eq, Bool.eq_iff_iff, beq_iff_eq, beq_iff_eq, ← h]
  omega
theorem elemRow : Elem Try.prog 22 24 (.slice none 0 0) 1 24 := ⟨Try.underlying22, info_parts (by kernel_rfl), rfl, by decide⟩
theorem callSum : Callable Try.prog 15 := ⟨_, Try.func15, by kernel_rfl, by kernel_rfl⟩

theorem tmod_bd (x : Int) (n : Nat) (h : 0 < n) : -(n : Int) < x.tmod n ∧ x.tmod n < n := by
  have h1 := Int.tmod_lt_of_pos x (b := n) (by omega)
  have h2 := Int.tmod_lt_of_pos (-x) (b := n) (by omega)
  rw [Int.neg_tmod] at h2
  omega

set_option maxRecDepth 100000 in
set_option maxHeartbeats 2000000 in
theorem crcApartMain (w : World) (a : Option Addr) (cap : Nat) (l : List UInt8) (at_ : Int) (c0 c1 c2 c3 : UInt8) (hok : SliceOk a l.length cap) (hb : Bytes w (· < w.heap.size) a l) (h4 : 4 ≤ l.length) (h1000 : l.length ≤ 1000)
    (_hat1 : -9223372036854775808 ≤ at_) (_hat2 : at_ ≤ 9223372036854775807) :
    Calls Try.prog 4 #[.slice a l.length cap, .int .i64 at_, .agg #[B8 c0, B8 c1, B8 c2, B8 c3]] w fun e w' => e = .returned (.bool true) ∧ Below w.heap.size w w' := by
  have hokH := Lib.hid hok
  have hbH := Lib.hid hb
  clear hok hb
  go_enter Try.func4, Try.ntmps4
  go_wp2_with fail
  refine (crcAwake _).mono ?_
  rintro e w1 ⟨rfl, hb1⟩
  have hsz : (w.alloc (Obj.cells #[B8 c0, B8 c1, B8 c2, B8 c3] 29)).heap.size = w.heap.size + 1 := by simp
  have hbw : Below w.heap.size w w1 := ((Below.refl _ _).alloc (Nat.le_refl _) _).trans (hb1.mono (by simp))
  have hw1 : w.heap.size + 1 ≤ w1.heap.size := by have := hb1.size; omega
  have hcw : ∀ k, w1.cell? ⟨w.heap.size, k, none⟩ = #[B8 c0, B8 c1, B8 c2, B8 c3][k]? := by
    intro k
    rw [hb1.cell (p := ⟨w.heap.size, k, none⟩) (by simp), cell_new]
  have hcwH := Lib.hid hcw
  clear hcw hsz
  have hb1H := Lib.hid hb1
  clear hb1
  have hown0 := Lib.hid (World.ownsRow_lit (base := w1.heap.size) (e := 5) (size := 1) w1 #[] 0 (Nat.le_refl _) (by decide) (by decide))
  have hbA := Lib.hid ((hbH.out.frame (fun b hb => hbw.block b hb)).frame (w' := w1.alloc (.cells #[] 5)) (fun b hb => heap_old w1 _ b (by omega)))
  have hm := tmod_bd at_ (l.length - 3) (by omega)
  rw [show ((l.length - 3 : Nat) : Int) = (l.length : Int) - 3 by omega] at hm
  obtain ⟨hm1, hm2⟩ := hm
  go_wp2_with (at_builtin; refine wpList_append_src _ rfl _ _ 24 rfl elemU8 w1.heap.size rfl hown0.out rfl hokH.out (news := l.map B8) (by simp) hbA.out.src (oneCell_bytes _) (by unfold maxLen; omega) (by omega) (by simp) ?_)
  intro v w2 hown2 hgrow
  have hgrow := Lib.hid hgrow
  obtain ⟨g, c', hg, hv⟩ : ∃ g c', w1.heap.size ≤ g ∧ v = .slice (some ⟨g, 0, none⟩) l.length c' := by
    rcases hown2.2 with ⟨_, h0⟩ | ⟨g, c', _, h, hg, _⟩
    · omega
    · exact ⟨g, c', hg, h⟩
  subst hv
  have hbr0 : Below w1.heap.size w1 w2 := (((Below.refl _ _).alloc (Nat.le_refl _) _).grown hgrow.out (by simp) (fun k hk => by simp [Value.ownBlock] at hk; omega))
  have hown2 := Lib.hid hown2
  clear hgrow
  go_wp2_with fail
  obtain ⟨k, hk, hk4⟩ : ∃ k : Nat, (at_.tmod (↑l.length - 3) + ↑l.length - 3) % (↑l.length - 3) = (k : Int) ∧ k + 4 ≤ l.length := by
    have h0 := Int.emod_nonneg (at_.tmod (↑l.length - 3) + ↑l.length - 3) (b := (l.length : Int) - 3) (by omega)
    have h1 := Int.emod_lt_of_pos (at_.tmod (↑l.length - 3) + ↑l.length - 3) (b := (l.length : Int) - 3) (by omega)
    exact ⟨((at_.tmod (↑l.length - 3) + ↑l.length - 3) % (↑l.length - 3)).toNat, by omega, by omega⟩
  rw [hk]
  clear hk hm1 hm2
  go_loopw [9] (fun i wr => ∃ j : Nat, j ≤ 4 ∧ i = .int .i64 j ∧ wr.ownsRow w1.heap.size 5 1 (.slice (some ⟨g, 0, none⟩) l.length c') l.length ((ov l k [c0, c1, c2, c3] j).map B8) ∧ Below w1.heap.size w1 wr) (fun i _ => 4 - (intOf i).toNat)
  case atStart => exact ⟨0, by omega, rfl, hown2.out, hbr0⟩
  case round =>
    obtain ⟨j, hj, rfl, hown, hbr⟩ := hrel
    by_cases hj4 : j < 4
    · have hwj : wr.cell? ⟨w.heap.size, j, none⟩ = some (B8 ([c0, c1, c2, c3].getD j 0)) := by
        rw [hbr.cell (p := ⟨w.heap.size, j, none⟩) (by simp; omega), hcwH.out]
        match j, hj4 with
        | 0, _ => rfl
        | 1, _ => rfl
        | 2, _ => rfl
        | 3, _ => rfl
      have hst := Lib.hid (hown.stored (k + j) (B8 ([c0, c1, c2, c3].getD j 0)))
      rw [← List.map_set] at hst
      have hov : Hid ((ov l k [c0, c1, c2, c3] j).set (k + j) ([c0, c1, c2, c3].getD j 0) = ov l k [c0, c1, c2, c3] (j + 1)) := rfl
      rw [hov.out] at hst
      have hold : wr.cell? ⟨g, k + j, none⟩ = some (B8 ((ov l k [c0, c1, c2, c3] j).getD (k + j) 0)) := by
        rw [hown.cellAt (k + j) (by omega)]
        have := ov_length l k [c0, c1, c2, c3] j
        simp [show k + j < (ov l k [c0, c1, c2, c3] j).length by omega]
      have hfz := hown.frozenAt (k + j)
      generalize [c0, c1, c2, c3].getD j 0 = cj at *
      generalize (ov l k [c0, c1, c2, c3] j).getD (k + j) 0 = oj at *
      clear hov
      have hown := Lib.hid hown
      go_wp2_with fail
      go_roundw
      case rel => exact ⟨j + 1, by omega, by go_num, hst.out.1, hbr.setCell (by simpa using hg) _⟩
      case measure => simp [intOf]; omega
    · obtain rfl : j = 4 := by omega
      go_wp2_with fail
      have hL := ov_length l k [c0, c1, c2, c3] 4
      have hbyO : Bytes wr (fun b => b < wr.heap.size) (some ⟨g, 0, none⟩) (ov l k [c0, c1, c2, c3] 4) := by
        obtain ⟨a2, c2, e1, _, e3⟩ := owns_bytes (l := ov l k [c0, c1, c2, c3] 4) (by rw [hL]; exact hown)
        simp only [Value.slice.injEq] at e1
        rw [← e1.1] at e3
        exact e3.mono (fun b hb => hb.2.1)
      have hby : Bytes wr (fun b => b < wr.heap.size) a l := (hbH.out.frame (fun b hb => (hbw.trans (hbr.mono (by omega))).block b hb)).mono (fun b hb => by have := hbr.size; omega)
      have hap := Lib.hid (apart l k c0 c1 c2 c3 hk4)
      have hokO : SliceOk (some ⟨g, 0, none⟩) l.length c' := by
        rcases hown.2 with ⟨h, _⟩ | ⟨g2, c2, _, h, _, _, h1, h2, _⟩
        · simp at h
        · simp only [Value.slice.injEq] at h
          obtain ⟨_, _, rfl⟩ := h
          exact ⟨h1, h2, fun h => by cases h⟩
      generalize ov l k [c0, c1, c2, c3] 4 = L at *
      have HA := Lib.hid (fun (W : World) (hW : Below wr.heap.size wr W) => hby.frame (fun b hb => hW.block b hb))
      have HB := Lib.hid (fun (W : World) (hW : Below wr.heap.size wr W) => hbyO.frame (fun b hb => hW.block b hb))
      clear hby hbyO
      have hown := Lib.hid hown
      have hokO := Lib.hid hokO
      clear hbr0
      have hmix : Try.prog.follows .mixedOrders = true := by kernel_rfl
      refine wp_region_mono hmix [SP.eq (.slice a l.length cap), SP.box (.slice a l.length cap), SP.eq (.int .u32 (Crc.sum l)),
        SP.eq (.slice (some ⟨g, 0, none⟩) l.length c'), SP.box (.slice (some ⟨g, 0, none⟩) l.length c'), SP.eq (.int .u32 (Crc.sum L)), SP.eq (.bool ((Crc.sum l : Int) == (Crc.sum L : Int))),
        SP.eq (.slice a l.length cap), SP.eq (.string ⟨l.toArray⟩), SP.eq (.slice (some ⟨g, 0, none⟩) l.length c'), SP.eq (.string ⟨L.toArray⟩), SP.eq (.bool (l == L)), SP.eq (.bool (((Crc.sum l : Int) == (Crc.sum L : Int)) == (l == L))), SP.eq (.bool (((Crc.sum l : Int) == (Crc.sum L : Int)) == (l == L)))]
        64 rfl (by kernel_rfl) ⟨?_, ?_, ?_, ?_, ?_, ?_, ?_, ?_, ?_, ?_, ?_, ?_, ?_, ?_, trivial⟩ ?_
      · exact fun a w hE hR => stepOk_move rfl rfl (hR.keep 0 rfl) rfl
      · exact fun a w hE hR => stepOk_box elemRow rfl rfl (hR.pred 0 51 rfl rfl) rfl (fun _ _ h => h)
      · intro a w hE hR
        obtain ⟨b, h1, _, h3⟩ := hR.pred 1 52 rfl rfl
        refine stepOk_call1 callSum rfl rfl h1 ((crcSum1 _ _ _ _ _ l h3 _ (HA.out _ hE) rfl hokH.out).mono ?_)
        rintro e w' ⟨rfl, rfl⟩
        exact ⟨_, rfl, Ext.rfl' _, rfl⟩
      · exact fun a w hE hR => stepOk_move rfl rfl (hR.keep 7 rfl) rfl
      · exact fun a w hE hR => stepOk_box elemRow rfl rfl (hR.pred 3 54 rfl rfl) rfl (fun _ _ h => h)
      · intro a w hE hR
        obtain ⟨b, h1, _, h3⟩ := hR.pred 4 55 rfl rfl
        refine stepOk_call1 callSum rfl rfl h1 ((crcSum1 _ _ _ _ _ L h3 _ (HB.out _ hE) hL.symm hokO.out).mono ?_)
        rintro e w' ⟨rfl, rfl⟩
        exact ⟨_, rfl, Ext.rfl' _, rfl⟩
      · exact fun a w hE hR => stepOk_bin rfl rfl (hR.pred 2 53 rfl rfl) (hR.pred 5 56 rfl rfl) (by simp [go_sem]) (by simp [go_sem]) rfl
      · exact fun a w hE hR => stepOk_move rfl rfl (hR.keep 0 rfl) rfl
      · exact fun a w hE hR => stepOk_conv rfl rfl (hR.pred 7 58 rfl rfl) (run_str_of_bytes Try.underlying24 Try.underlying5 Try.underlying9 (HA.out _ hE) rfl) rfl
      · exact fun a w hE hR => stepOk_move rfl rfl (hR.keep 7 rfl) rfl
      · exact fun a w hE hR => stepOk_conv rfl rfl (hR.pred 9 60 rfl rfl) (run_str_of_bytes Try.underlying24 Try.underlying5 Try.underlying9 (HB.out _ hE) hL) rfl
      · exact fun a w hE hR => stepOk_bin rfl rfl (hR.pred 8 59 rfl rfl) (hR.pred 10 61 rfl rfl) (by simp [go_sem]) (by simp [go_sem]) rfl
      · exact fun a w hE hR => stepOk_bin rfl rfl (hR.pred 6 57 rfl rfl) (hR.pred 11 62 rfl rfl) (by simp [go_sem]) (by simp [go_sem]) rfl
      · exact fun a w hE hR => stepOk_assign rfl rfl (hR.pred 12 63 rfl rfl) rfl
      · intro vs w' hlen hE hF
        obtain ⟨v0, vs0, rfl, hl0⟩ := len_succ (n := 13) hlen
        obtain ⟨v1, vs1, rfl, hl1⟩ := len_succ (n := 12) hl0
        obtain ⟨v2, vs2, rfl, hl2⟩ := len_succ (n := 11) hl1
        obtain ⟨v3, vs3, rfl, hl3⟩ := len_succ (n := 10) hl2
        obtain ⟨v4, vs4, rfl, hl4⟩ := len_succ (n := 9) hl3
        obtain ⟨v5, vs5, rfl, hl5⟩ := len_succ (n := 8) hl4
        obtain ⟨v6, vs6, rfl, hl6⟩ := len_succ (n := 7) hl5
        obtain ⟨v7, vs7, rfl, hl7⟩ := len_succ (n := 6) hl6
        obtain ⟨v8, vs8, rfl, hl8⟩ := len_succ (n := 5) hl7
        obtain ⟨v9, vs9, rfl, hl9⟩ := len_succ (n := 4) hl8
        obtain ⟨v10, vs10, rfl, hl10⟩ := len_succ (n := 3) hl9
        obtain ⟨v11, vs11, rfl, hl11⟩ := len_succ (n := 2) hl10
        obtain ⟨v12, vs12, rfl, hl12⟩ := len_succ (n := 1) hl11
        obtain ⟨v13, vs13, rfl, hl13⟩ := len_succ (n := 0) hl12
        obtain rfl := List.eq_nil_of_length_eq_zero hl13
        obtain ⟨-, -, -, -, -, -, -, -, -, -, -, -, -, f13, -⟩ := hF
        obtain rfl := f13 rfl
        have hfin := both_eq hap.out
        rw [hfin]
        have hE' := Lib.hid hE
        clear hE hap
        simp only [putAll]
        go_wp2_with fail
        go_ret
        refine ⟨rfl, (hbw.trans (hbr.mono (by omega))).trans (hE'.out.mono ?_)⟩
        have := hbr.size
        omega
end Go.Proofs.Ytkannfkjnohdlaa
/- Arguments of laws: ints in slices. -/
namespace Go.Proofs.Ytkannfkjnohdlaa
open Go.RowKit Go.Pm
theorem rep_ints {w : World} {S : Nat → Prop} {cs : List Value} {l : List Int} (h : Rep w S (.slice (.int .i64)) cs l) :
    ∃ a cap, cs = [.slice a l.length cap] ∧ SliceOk a l.length cap ∧ Src w a (l.map intV) ∧ ∀ k ∈ l, -9223372036854775808 ≤ k ∧ k ≤ 9223372036854775807 := by
  obtain ⟨a, cap, h1, h2, h4⟩ := h
  refine ⟨a, cap, h1, h2, fun i hi => ?_, fun k hk => ?_⟩
  · obtain ⟨b, off, xs, e1, e2, e3, e4, e5, e6⟩ := h4 i (by simpa using hi)
    refine ⟨b, off, e1, ?_⟩
    have := e4 0 (by rw [e3]; decide)
    simp only [e5, List.getElem_cons_zero, Ty.size, Nat.mul_one, Nat.add_zero] at this
    rw [this]
    simp [intV, encInt]
  · obtain ⟨i, hi, rfl⟩ := List.getElem_of_mem hk
    obtain ⟨b, off, xs, e1, e2, e3, e4, e5, e6⟩ := h4 i hi
    exact bounds_i64 e6
end Go.Proofs.Ytkannfkjnohdlaa
/- An operation whose guard's operation was itself not wanted. -/
namespace Go.Pm
open Go.RowKit
section
variable {o : Oper} {a : Act}
theorem wanted_undef {ops : Array Oper} {j d : Nat} {b : Bool} (hgd : o.guard = some (j, b)) (hd : (ops[j]?).bind (·.dst) = some d) (h : a.tmps.getD d undef = undef) : Region.wanted o (yielded ops a.tmps) = false := by
  have hy : yielded ops a.tmps j = none := by
    unfold yielded
    rw [hd]
    simp only [Option.bind_some]
    rw [Array.getD_eq_getD_getElem?] at h
    cases h2 : a.tmps[d]? with
    | none => rfl
    | some x => rw [h2] at h; simp only [Option.getD_some] at h; rw [h]; rfl
  unfold Region.wanted
  rw [hgd]
  simp [hy]
end
end Go.Pm
/- SlotsKeep: its arguments; bools compared; aggregates from the base. -/
namespace Go.Pm
open Go.RowKit
section
variable {P : Program} {o : Oper} {a : Act} {w : World} {t u : TypeId} {x y : Operand}
theorem ex_beql {p q b : Bool} (ht : P.underlying t = some .bool) (ho : o.op = .binOp .eql t x y u) (hx : a.eval x = .bool p) (hy : a.eval y = .bool q) (hb : (p == q) = b) : Ex P a o w (.bool b) w := by
  subst hb
  have he : (Op.equal t (.bool p) (.bool q)).run P w = .ok (p == q) w := run_equal_bool w t p q ht
  unfold Ex; simp [execOp, ho, hx, hy, eqGuard, binOp, he]
theorem run_load_cells {b off : Nat} {xs : List Value} (hw : Wide P t xs.length) (h : ∀ j v, xs[j]? = some v → w.cell? ⟨b, off + j, none⟩ = some v) :
    (Instr.loadAt t (.pointer (some ⟨b, off, none⟩))).run P w = .ok (.agg xs.toArray) w := by
  have hl := run_loadCells_list (P := P) w ⟨b, off, none⟩ xs (fun j v hv => by
    have : (⟨b, off, none⟩ : Addr).add j = ⟨b, off + j, none⟩ := by unfold Addr.add; split <;> simp_all
    rw [this, h j v hv])
  simp [Instr.loadAt, Instr.sureAddr, loadVar, hw.agg, run_sizeOf hw.size, hl]
end
end Go.Pm
namespace Go.Proofs.Ytkannfkjnohdlaa
open Go.RowKit Go.Pm
theorem wrap12 (z : Int) : ∃ (r : Int) (n : Nat), z.tmod 12 = r ∧ -12 < r ∧ r < 12 ∧ (r + 12).tmod 12 = (n : Int) - 1 ∧ 1 ≤ n ∧ n ≤ 12 := by
  have h1 := Int.tmod_lt_of_pos z (show (0 : Int) < 12 by decide)
  have h2 : -12 < z.tmod 12 := by
    have := Int.tmod_lt_of_pos (-z) (show (0 : Int) < 12 by decide)
    rw [Int.neg_tmod] at this
    omega
  refine ⟨_, ((z.tmod 12 + 12) % 12 + 1).toNat, rfl, h2, h1, ?_, by omega, by omega⟩
  rw [Int.tmod_eq_emod_of_nonneg (by omega)]
  omega
theorem wrap9 (z : Int) : ∃ (r m : Int), z.tmod 9 = r ∧ -9 < r ∧ r < 9 ∧ (r + 9).tmod 9 = m ∧ m ≤ 9 := by
  have h1 := Int.tmod_lt_of_pos z (show (0 : Int) < 9 by decide)
  have h2 : -9 < z.tmod 9 := by
    have := Int.tmod_lt_of_pos (-z) (show (0 : Int) < 9 by decide)
    rw [Int.neg_tmod] at this
    omega
  refine ⟨_, (z.tmod 9 + 9) % 9, rfl, h2, h1, ?_, by omega⟩
  rw [Int.tmod_eq_emod_of_nonneg (by omega)]
abbrev actTy : Ty := .pair (.int .i64) (.pair (.int .i64) (.pair (.pair (.int .i64) (.pair (.slice (.int .u8)) .unit)) (.pair (.slice (.int .i64)) .unit)))
def RdActs8 (B : Base) (a : Option Addr) (n : Nat) : Prop := ∀ i, i < n → ∃ (b off : Nat) (kd nn xs : Int) (xb : List UInt8) (ks : List Int) (ax : Option Addr) (cx : Nat) (ak : Option Addr) (ck : Nat), a = some ⟨b, off, none⟩ ∧
  (∀ H w, Inv B H w → ∀ j v, [.int .i64 kd, .int .i64 nn, .int .i64 xs, .slice ax xb.length cx, .slice ak ks.length ck][j]? = some v → w.cell? ⟨b, off + i * 5 + j, none⟩ = some v) ∧
  SliceOk ax xb.length cx ∧ RdV B [] ax (xb.map B8) ∧ RdV B [] ak (ks.map intV) ∧ ∀ k ∈ ks, -9223372036854775808 ≤ k ∧ k ≤ 9223372036854775807
theorem rep_acts8 {W : World} {cs : List Value} {l : List actTy.den} (h : Rep W (· < W.heap.size) (.slice actTy) cs l) :
    ∃ a cap, cs = [.slice a l.length cap] ∧ SliceOk a l.length cap ∧ RdActs8 (Base.of W) a l.length := by
  obtain ⟨a, cap, h1, h2, h4⟩ := h
  refine ⟨a, cap, h1, h2, fun i hi => ?_⟩
  obtain ⟨b, off, xs, e1, e2, e3, e4, e5⟩ := h4 i hi
  match xs, e3 with
  | [x0, x1, x2, x3, x4], _ =>
    obtain ⟨⟨k1, _⟩, ⟨m1, _⟩, ⟨⟨s1, _⟩, hbody, _⟩, hkeep, _⟩ := e5
    obtain ⟨ax, cx, f1, f2, f3⟩ := rep_bytes.1 hbody
    obtain ⟨ak, ck, g1, g2, g3, g4⟩ := rep_ints hkeep
    have k1' : [x0] = _ := k1
    have m1' : [x1] = _ := m1
    have s1' : [x2] = _ := s1
    have f1' : [x3] = _ := f1
    have g1' : [x4] = _ := g1
    simp only [List.cons.injEq, and_true] at k1' m1' s1' f1' g1'
    subst k1' m1' s1' f1' g1'
    refine ⟨b, off, encInt .i64 l[i].1, encInt .i64 l[i].2.1, encInt .i64 l[i].2.2.1.1, l[i].2.2.1.2.1, l[i].2.2.2.1, ax, cx, ak, ck, e1, fun H w hv j v hj => ?_, f2, rdV_of W f3.src, rdV_of W g3, g4⟩
    obtain ⟨hj1, hj2⟩ := List.getElem?_eq_some_iff.1 hj
    have := e4 j hj1
    rw [← hj2]
    refine Eq.trans ?_ this
    exact World.cell?_of_block (by rw [Array.getElem?_eq_getElem e2]; exact hv.base.blk b _ (Array.getElem?_eq_getElem e2))
end Go.Proofs.Ytkannfkjnohdlaa
/- The log, as plain data. -/
namespace Go.Pm
def secs (n : Nat) : Nat := if n = 0 then 1 else 2 + (n - 1) / 63
theorem secs_pos (n : Nat) : 1 ≤ secs n := by unfold secs; split <;> omega
theorem secs_fit {n i : Nat} (h : i + 1 < secs n) : 63 * i < n := by unfold secs at h; split at h <;> omega
theorem secs_all (n : Nat) : n ≤ 63 * (secs n - 1) := by unfold secs; split <;> omega
theorem secs_le (n : Nat) : secs n ≤ n + 1 := by unfold secs; split <;> omega
def allZ (l : List UInt8) : Bool := l.all (· == 0)
theorem allZ_nil : allZ [] = true := rfl
theorem allZ_snoc (l : List UInt8) (c : UInt8) : allZ (l ++ [c]) = (allZ l && (c == 0)) := by simp [allZ]
theorem allZ_of_take {l : List UInt8} {i : Nat} (h : allZ (l.take i) = false) : allZ l = false := by
  rw [← List.take_append_drop i l]
  unfold allZ at h ⊢
  rw [List.all_append, h, Bool.false_and]
def rcN (s : List UInt8) : Nat := numOf (piece s 9 4)
/-- how many octets of the body are in body sector i -/
def rcM (n i : Nat) : Nat := min 63 (n - 63 * i)
/-- the body's octets in the first i body sectors -/
def rcB (s : List UInt8) (n : Nat) : Nat → List UInt8
  | 0 => []
  | i + 1 => rcB s n i ++ piece s ((i + 1) * 64 + 1) (rcM n i)
structure RecOk (s : List UInt8) (st : Nat) : Prop where
  len : 64 ≤ s.length
  mark : s[0]? = some 82
  zeros : allZ (piece s 17 47) = true
  stamp : numOf (piece s 1 8) = st
  n1 : rcN s ≤ 1048576
  n2 : secs (rcN s) ≤ s.length / 64
  body : ∀ i, i + 1 < secs (rcN s) → s[(i + 1) * 64]? = some 0 ∧ allZ (piece s ((i + 1) * 64 + (1 + rcM (rcN s) i)) (64 - (1 + rcM (rcN s) i))) = true
  sum : Crc.sum (rcB s (rcN s) (secs (rcN s) - 1)) = numOf (piece s 13 4)
theorem rcM_le (n i : Nat) : rcM n i ≤ 63 := Nat.min_le_left _ _
theorem rcM_sum (n i : Nat) : min n (63 * i) + rcM n i = min n (63 * (i + 1)) := by unfold rcM; omega
theorem rcB_len {s : List UInt8} {n : Nat} (i : Nat) : (i + 1) * 64 ≤ s.length → (rcB s n i).length = min n (63 * i) := by
  induction i with
  | zero =>
    intro _
    rw [Nat.mul_zero, Nat.min_zero]
    rfl
  | succ i ih =>
    intro h
    have hm := rcM_le n i
    have h1 : (i + 1) * 64 + 1 + rcM n i ≤ s.length := by
      rw [Nat.succ_mul (i + 1) 64] at h
      clear ih
      generalize rcM n i = m at hm ⊢
      omega
    have hp : (piece s ((i + 1) * 64 + 1) (rcM n i)).length = rcM n i := piece_length h1
    have h2 : (i + 1) * 64 ≤ s.length := Nat.le_trans (Nat.le_trans (Nat.le_add_right _ _) (Nat.le_add_right _ _)) h1
    have ih := ih h2
    show (rcB s n i ++ piece s ((i + 1) * 64 + 1) (rcM n i)).length = _
    rw [List.length_append, hp, ih, rcM_sum]
end Go.Pm
/- log: Sectors, zero, number, put, Last, Reset -/
namespace Go.Proofs.Ytkannfkjnohdlaa
open Go.RowKit Go.Pm
theorem secs_int (n : Nat) (h : n ≠ 0) (hn : n ≤ 1000000000) : IntKind.i64.wrap (((n : Int) - 1).tdiv 63) = (((n - 1) / 63 : Nat) : Int) := by
  rw [show ((n : Int) - 1) = ((n - 1 : Nat) : Int) by omega, Int.tdiv_eq_ediv_of_nonneg (by omega), i64_in (by omega)]
  omega

set_option maxRecDepth 100000 in
set_option maxHeartbeats 2000000 in
theorem logSectors (w : World) (n : Nat) (hn : n ≤ 1000000000) :
    Calls Try.prog 54 #[.int .i64 (n : Int)] w fun e w' => e = .returned (.int .i64 (secs n : Int)) ∧ w = w' := by
  refine (callsIn_wide (n := 5)).1 ?_
  refine callsIn_of_wp Try.func54 rfl trivial ?_
  simp only [Try.ntmps54, List.size_toArray, List.length_cons, List.length_nil, Nat.reduceAdd, Nat.reduceSub, Array.replicate_succ, Array.replicate_zero, List.push_toArray, List.append_toArray, List.nil_append, List.cons_append]
  refine wpIn_seq_k (fun K1 hK1 => ?_)
  refine wpIn_region_lit ?_
  refine wpi_exG (v := .int .i64 0) (fun _ => trivial) (wn rfl) rfl (ex_assign rfl rfl) ?_
  refine wpListIn_nil ?_
  simp only [Act.put, List.setIfInBounds_toArray, List.set_cons_succ, List.set_cons_zero]
  refine then_normal (hK1 _ _ ?_)
  clear hK1 K1
  refine wpIn_seq_k (fun K2 hK2 => ?_)
  refine wpIn_seq_k (fun K3 hK3 => ?_)
  refine wpIn_region_lit ?_
  refine wpi_exG (v := .int .i64 (n : Int)) (fun _ => trivial) (wn rfl) rfl (ex_move rfl rfl) ?_
  by_cases hb4 : (n : Int) ≤ 0
  · refine wpi_exG (v := .bool true) (fun _ => trivial) (wn rfl) rfl (ex_leq (k := .i64) (m := (n : Int)) (n := 0) rfl rfl rfl (decide_eq_true hb4)) ?_
    refine wpListIn_nil ?_
    simp only [Act.put, List.setIfInBounds_toArray, List.set_cons_succ, List.set_cons_zero]
    refine then_normal (hK3 _ _ ?_)
    clear hK3 K3
    refine wpIn_cond_true rfl ?_
    refine wpIn_seq_k (fun K5 hK5 => ?_)
    refine wpIn_region_lit ?_
    refine wpi_exG (v := .int .i64 1) (fun _ => trivial) (wn rfl) rfl (ex_assign rfl rfl) ?_
    refine wpListIn_nil ?_
    simp only [Act.put, List.setIfInBounds_toArray, List.set_cons_succ, List.set_cons_zero]
    refine then_normal (hK5 _ _ ?_)
    clear hK5 K5
    refine wpIn_ret ?_
    refine then_ret ?_
    clear hK2 K2
    refine bodyPost_ret (results_tmp rfl _ _ _) rfl ?_
    have hs : secs n = 1 := by unfold secs; rw [if_pos (by omega)]
    rw [hs]; exact ⟨rfl, rfl⟩
  · refine wpi_exG (v := .bool false) (fun _ => trivial) (wn rfl) rfl (ex_leq (k := .i64) (m := (n : Int)) (n := 0) rfl rfl rfl (decide_eq_false hb4)) ?_
    refine wpListIn_nil ?_
    simp only [Act.put, List.setIfInBounds_toArray, List.set_cons_succ, List.set_cons_zero]
    refine then_normal (hK3 _ _ ?_)
    clear hK3 K3
    refine wpIn_cond_false rfl ?_
    refine wpIn_skip ?_
    refine then_normal (hK2 _ _ ?_)
    clear hK2 K2
    refine wpIn_seq_k (fun K6 hK6 => ?_)
    refine wpIn_region_lit ?_
    refine wpi_exG (v := .int .i64 (n : Int)) (fun _ => trivial) (wn rfl) rfl (ex_move rfl rfl) ?_
    refine wpi_exG (v := .int .i64 ((n : Int) - 1)) (fun _ => trivial) (wn rfl) rfl (ex_sub (m := (n : Int)) (n := 1) rfl rfl rfl (i64_in (by omega))) ?_
    refine wpi_exG (v := .int .i64 (((n - 1) / 63 : Nat) : Int)) (fun _ => trivial) (wn rfl) rfl (ex_quo (m := ((n : Int) - 1)) (n := 63) rfl rfl rfl (by decide) (secs_int n (by omega) hn)) ?_
    simp only [Act.put, List.setIfInBounds_toArray, List.set_cons_succ, List.set_cons_zero]
    refine wpi_exG (v := .int .i64 (2 + (((n - 1) / 63 : Nat) : Int))) (fun _ => trivial) (wn rfl) rfl (ex_add (m := 2) (n := (((n - 1) / 63 : Nat) : Int)) rfl rfl rfl (i64_in (by omega))) ?_
    refine wpi_exG (v := .int .i64 (2 + (((n - 1) / 63 : Nat) : Int))) (fun _ => trivial) (wn rfl) rfl (ex_assign rfl rfl) ?_
    refine wpListIn_nil ?_
    simp only [Act.put, List.setIfInBounds_toArray, List.set_cons_succ, List.set_cons_zero]
    refine then_normal (hK6 _ _ ?_)
    clear hK6 K6
    refine wpIn_ret ?_
    refine bodyPost_ret (results_tmp rfl _ _ _) rfl ?_
    have hs : secs n = 2 + (n - 1) / 63 := by unfold secs; rw [if_neg (by omega)]
    rw [hs]; exact ⟨rfl, rfl⟩
theorem g1es24 (w : World) : (sizeOf (Try.prog.elem 24)).run Try.prog w = .ok 1 w := by kernel_rfl
theorem g1na5 (w : World) : (isAgg 5).run Try.prog w = .ok false w := by kernel_rfl
set_option maxRecDepth 100000 in
set_option maxHeartbeats 2000000 in
theorem logZero (B : Base) (H : List Res) (w : World) (a : Option Addr) (n cap : Nat) (l : List UInt8) (hn : l.length = n) (hm : n ≤ 1000000000) (hr : RdV B H a (l.map B8)) (hv : Inv B H w) :
    Calls Try.prog 63 #[.slice a n cap] w fun e w' => e = .returned (.bool (allZ l)) ∧ Inv B H w' := by
  refine (callsIn_wide (n := 5)).1 ?_
  refine callsIn_of_wp Try.func63 rfl trivial ?_
  simp only [Try.ntmps63, List.size_toArray, List.length_cons, List.length_nil, Nat.reduceAdd, Nat.reduceSub, Array.replicate_succ, Array.replicate_zero, List.push_toArray, List.append_toArray, List.nil_append, List.cons_append]
  refine wpIn_seq_k (fun K1 hK1 => ?_)
  refine wpIn_region_lit ?_
  refine wpi_exG (v := .bool false) (fun _ => trivial) (wn rfl) rfl (ex_assign rfl rfl) ?_
  refine wpListIn_nil ?_
  simp only [Act.put, List.setIfInBounds_toArray, List.set_cons_succ, List.set_cons_zero]
  refine then_normal (hK1 _ _ ?_)
  clear hK1 K1
  refine wpIn_seq_k (fun K2 hK2 => ?_)
  refine wpIn_seq_k (fun K3 hK3 => ?_)
  refine wpIn_region_lit ?_
  refine wpi_exG (v := .slice a n cap) (fun _ => trivial) (wn rfl) rfl (ex_move rfl rfl) ?_
  refine wpi_exG (v := .int .i64 (n : Int)) (fun _ => trivial) (wn rfl) rfl (ex_len0 Try.underlying24 rfl rfl) ?_
  refine wpi_exG (v := .int .i64 0) (fun _ => trivial) (wn rfl) rfl (ex_move rfl rfl) ?_
  refine wpListIn_nil ?_
  simp only [Act.put, List.setIfInBounds_toArray, List.set_cons_succ, List.set_cons_zero]
  refine then_normal (hK3 _ _ ?_)
  clear hK3 K3
  refine wpIn_block ?_
  gi_loopw [7] (fun x7 wr => ∃ i : Nat, x7 = .int .i64 (i : Int) ∧ i ≤ n ∧ allZ (l.take i) = true ∧ Inv B H wr) (fun x7 _ => n - (intOf x7).toNat)
  case atStart => exact ⟨0, rfl, by omega, rfl, hv⟩
  case round =>
    obtain ⟨i, rfl, hi, hz, hv⟩ := hrel
    refine wpIn_seq_k (fun K5 hK5 => ?_)
    refine wpIn_region_lit ?_
    by_cases hb6 : (i : Int) < (n : Int)
    · refine wpi_exG (v := .bool true) (fun _ => trivial) (wn rfl) rfl (ex_lss (k := .i64) (m := (i : Int)) (n := (n : Int)) rfl rfl rfl (decide_eq_true hb6)) ?_
      refine wpListIn_nil ?_
      simp only [Act.put, List.setIfInBounds_toArray, List.set_cons_succ, List.set_cons_zero]
      refine then_normal (hK5 _ _ ?_)
      clear hK5 K5
      refine wpIn_seq_k (fun K7 hK7 => ?_)
      refine wpIn_cond_true rfl ?_
      refine wpIn_skip ?_
      refine then_normal (hK7 _ _ ?_)
      clear hK7 K7
      refine wpIn_seq_k (fun K8 hK8 => ?_)
      refine wpIn_block ?_
      refine wpIn_seq_k (fun K9 hK9 => ?_)
      refine wpIn_region_lit ?_
      have hin : i < l.length := by omega
      obtain ⟨ab, aoff, rfl, hcell⟩ := hr.cellAt hv i (by rw [List.length_map]; exact hin)
      have htake : l.take (i + 1) = l.take i ++ [l[i]] := by rw [List.take_succ_eq_append_getElem hin]
      simp only [List.getElem_map] at hcell
      generalize l[i] = c at *
      have hc := c.toNat_lt
      refine wpi_exG (v := .pointer (some ⟨ab, aoff + i, none⟩)) (fun _ => trivial) (wn rfl) rfl (ex_index rfl rfl rfl (run_idx1 (k := i) Try.underlying24 g1es24 (by omega))) ?_
      refine wpi_exG (v := .int .u8 (c.toNat : Int)) (fun _ => trivial) (wn rfl) rfl (ex_load rfl rfl (run_load1 g1na5 hcell)) ?_
      refine wpi_exG (v := .int .u8 (c.toNat : Int)) (fun _ => trivial) (wn rfl) rfl (ex_assign rfl rfl) ?_
      refine wpListIn_nil ?_
      simp only [Act.put, List.setIfInBounds_toArray, List.set_cons_succ, List.set_cons_zero]
      refine then_normal (hK9 _ _ ?_)
      clear hK9 K9
      refine wpIn_seq_k (fun K10 hK10 => ?_)
      refine wpIn_region_lit ?_
      refine wpi_exG (v := .int .u8 (c.toNat : Int)) (fun _ => trivial) (wn rfl) rfl (ex_move rfl rfl) ?_
      by_cases hb11 : (c.toNat : Int) ≠ 0
      · refine wpi_exG (v := .bool true) (fun _ => trivial) (wn rfl) rfl (ex_neq (k := .u8) (m := (c.toNat : Int)) (n := 0) rfl rfl rfl (decide_eq_true hb11)) ?_
        refine wpListIn_nil ?_
        simp only [Act.put, List.setIfInBounds_toArray, List.set_cons_succ, List.set_cons_zero]
        refine then_normal (hK10 _ _ ?_)
        clear hK10 K10
        refine wpIn_cond_true rfl ?_
        refine wpIn_seq_k (fun K12 hK12 => ?_)
        refine wpIn_region_lit ?_
        refine wpi_exG (v := .bool false) (fun _ => trivial) (wn rfl) rfl (ex_assign rfl rfl) ?_
        refine wpListIn_nil ?_
        simp only [Act.put, List.setIfInBounds_toArray, List.set_cons_succ, List.set_cons_zero]
        refine then_normal (hK12 _ _ ?_)
        clear hK12 K12
        refine wpIn_ret ?_
        refine blk_ret ?_
        refine then_ret ?_
        clear hK8 K8
        refine then_ret ?_
        refine blk_ret ?_
        refine then_ret ?_
        clear hK2 K2
        refine bodyPost_ret (results_tmp rfl _ _ _) rfl ?_
        have hz2 : allZ l = false := allZ_of_take (i := i + 1) (by rw [htake, allZ_snoc, hz, Bool.true_and]; exact beq_eq_false_iff_ne.2 (fun e => by subst e; have h00 : (0 : UInt8).toNat = 0 := rfl; omega))
        rw [hz2]; exact ⟨rfl, hv⟩
      · refine wpi_exG (v := .bool false) (fun _ => trivial) (wn rfl) rfl (ex_neq (k := .u8) (m := (c.toNat : Int)) (n := 0) rfl rfl rfl (decide_eq_false hb11)) ?_
        refine wpListIn_nil ?_
        simp only [Act.put, List.setIfInBounds_toArray, List.set_cons_succ, List.set_cons_zero]
        refine then_normal (hK10 _ _ ?_)
        clear hK10 K10
        refine wpIn_cond_false rfl ?_
        refine wpIn_skip ?_
        refine blk_normal ?_
        refine then_normal (hK8 _ _ ?_)
        clear hK8 K8
        refine wpIn_region_lit ?_
        refine wpi_exG (v := .int .i64 ((i : Int) + 1)) (fun _ => trivial) (wn rfl) rfl (ex_add (m := (i : Int)) (n := 1) rfl rfl rfl (i64_in (by omega))) ?_
        refine wpi_exG (v := .int .i64 ((i : Int) + 1)) (fun _ => trivial) (wn rfl) rfl (ex_move rfl rfl) ?_
        refine wpListIn_nil ?_
        simp only [Act.put, List.setIfInBounds_toArray, List.set_cons_succ, List.set_cons_zero]
        refine then_normal ?_
        go_roundw
        case rel => exact ⟨i + 1, by simp, by omega, by rw [htake, allZ_snoc, hz, Bool.true_and]; exact beq_iff_eq.2 (UInt8.toNat_inj.1 (by show c.toNat = 0; omega)), hv⟩
        case measure => show n - ((i : Int) + 1).toNat < n - (i : Int).toNat; omega
    · refine wpi_exG (v := .bool false) (fun _ => trivial) (wn rfl) rfl (ex_lss (k := .i64) (m := (i : Int)) (n := (n : Int)) rfl rfl rfl (decide_eq_false hb6)) ?_
      refine wpListIn_nil ?_
      simp only [Act.put, List.setIfInBounds_toArray, List.set_cons_succ, List.set_cons_zero]
      refine then_normal (hK5 _ _ ?_)
      clear hK5 K5
      refine wpIn_seq_k (fun K13 hK13 => ?_)
      refine wpIn_cond_false rfl ?_
      refine wpIn_exit ?_
      refine then_exit ?_
      clear hK13 K13
      refine then_exit ?_
      refine blk_hit ?_
      refine then_normal (hK2 _ _ ?_)
      clear hK2 K2
      refine wpIn_seq_k (fun K14 hK14 => ?_)
      refine wpIn_region_lit ?_
      refine wpi_exG (v := .bool true) (fun _ => trivial) (wn rfl) rfl (ex_assign rfl rfl) ?_
      refine wpListIn_nil ?_
      simp only [Act.put, List.setIfInBounds_toArray, List.set_cons_succ, List.set_cons_zero]
      refine then_normal (hK14 _ _ ?_)
      clear hK14 K14
      refine wpIn_ret ?_
      refine bodyPost_ret (results_tmp rfl _ _ _) rfl ?_
      rw [List.take_of_length_le (by omega)] at hz
      rw [hz]; exact ⟨rfl, hv⟩
set_option maxRecDepth 100000 in
set_option maxHeartbeats 2000000 in
theorem logNumber (B : Base) (H : List Res) (w : World) (a : Option Addr) (n cap : Nat) (l : List UInt8) (hn : l.length = n) (h8 : n ≤ 8) (hr : RdV B H a (l.map B8)) (hv : Inv B H w) :
    Calls Try.prog 64 #[.slice a n cap] w fun e w' => e = .returned (.int .u64 (numOf l : Int)) ∧ Inv B H w' := by
  refine (callsIn_wide (n := 5)).1 ?_
  refine callsIn_of_wp Try.func64 rfl trivial ?_
  simp only [Try.ntmps64, List.size_toArray, List.length_cons, List.length_nil, Nat.reduceAdd, Nat.reduceSub, Array.replicate_succ, Array.replicate_zero, List.push_toArray, List.append_toArray, List.nil_append, List.cons_append]
  refine wpIn_seq_k (fun K1 hK1 => ?_)
  refine wpIn_region_lit ?_
  refine wpi_exG (v := .int .u64 0) (fun _ => trivial) (wn rfl) rfl (ex_assign rfl rfl) ?_
  refine wpListIn_nil ?_
  simp only [Act.put, List.setIfInBounds_toArray, List.set_cons_succ, List.set_cons_zero]
  refine then_normal (hK1 _ _ ?_)
  clear hK1 K1
  refine wpIn_seq_k (fun K2 hK2 => ?_)
  refine wpIn_region_lit ?_
  refine wpi_exG (v := .int .u64 0) (fun _ => trivial) (wn rfl) rfl (ex_assign rfl rfl) ?_
  refine wpListIn_nil ?_
  simp only [Act.put, List.setIfInBounds_toArray, List.set_cons_succ, List.set_cons_zero]
  refine then_normal (hK2 _ _ ?_)
  clear hK2 K2
  refine wpIn_seq_k (fun K3 hK3 => ?_)
  refine wpIn_seq_k (fun K4 hK4 => ?_)
  refine wpIn_region_lit ?_
  refine wpi_exG (v := .slice a n cap) (fun _ => trivial) (wn rfl) rfl (ex_move rfl rfl) ?_
  refine wpi_exG (v := .int .i64 (n : Int)) (fun _ => trivial) (wn rfl) rfl (ex_len0 Try.underlying24 rfl rfl) ?_
  refine wpi_exG (v := .int .i64 0) (fun _ => trivial) (wn rfl) rfl (ex_move rfl rfl) ?_
  refine wpListIn_nil ?_
  simp only [Act.put, List.setIfInBounds_toArray, List.set_cons_succ, List.set_cons_zero]
  refine then_normal (hK4 _ _ ?_)
  clear hK4 K4
  refine wpIn_block ?_
  gi_loopw [3, 8] (fun x3 x8 wr => ∃ i : Nat, x3 = .int .u64 (numOf (l.take i) : Int) ∧ x8 = .int .i64 (i : Int) ∧ i ≤ n ∧ Inv B H wr) (fun x3 x8 _ => n - (intOf x8).toNat)
  case atStart => exact ⟨0, rfl, rfl, by omega, hv⟩
  case round =>
    obtain ⟨i, rfl, rfl, hi, hv⟩ := hrel
    refine wpIn_seq_k (fun K6 hK6 => ?_)
    refine wpIn_region_lit ?_
    by_cases hb7 : (i : Int) < (n : Int)
    · have hm := num_small (l.take i) (by rw [List.length_take]; omega)
      refine wpi_exG (v := .bool true) (fun _ => trivial) (wn rfl) rfl (ex_lss (k := .i64) (m := (i : Int)) (n := (n : Int)) rfl rfl rfl (decide_eq_true hb7)) ?_
      refine wpListIn_nil ?_
      simp only [Act.put, List.setIfInBounds_toArray, List.set_cons_succ, List.set_cons_zero]
      refine then_normal (hK6 _ _ ?_)
      clear hK6 K6
      refine wpIn_seq_k (fun K8 hK8 => ?_)
      refine wpIn_cond_true rfl ?_
      refine wpIn_skip ?_
      refine then_normal (hK8 _ _ ?_)
      clear hK8 K8
      refine wpIn_seq_k (fun K9 hK9 => ?_)
      refine wpIn_block ?_
      refine wpIn_seq_k (fun K10 hK10 => ?_)
      refine wpIn_region_lit ?_
      have hin : i < l.length := by omega
      obtain ⟨ab, aoff, rfl, hcell⟩ := hr.cellAt hv i (by rw [List.length_map]; exact hin)
      have htake : l.take (i + 1) = l.take i ++ [l[i]] := by rw [List.take_succ_eq_append_getElem hin]
      simp only [List.getElem_map] at hcell
      generalize l[i] = c at *
      have hc := c.toNat_lt
      refine wpi_exG (v := .pointer (some ⟨ab, aoff + i, none⟩)) (fun _ => trivial) (wn rfl) rfl (ex_index rfl rfl rfl (run_idx1 (k := i) Try.underlying24 g1es24 (by omega))) ?_
      refine wpi_exG (v := .int .u8 (c.toNat : Int)) (fun _ => trivial) (wn rfl) rfl (ex_load rfl rfl (run_load1 g1na5 hcell)) ?_
      refine wpi_exG (v := .int .u8 (c.toNat : Int)) (fun _ => trivial) (wn rfl) rfl (ex_assign rfl rfl) ?_
      refine wpListIn_nil ?_
      simp only [Act.put, List.setIfInBounds_toArray, List.set_cons_succ, List.set_cons_zero]
      refine then_normal (hK10 _ _ ?_)
      clear hK10 K10
      refine wpIn_region_lit ?_
      refine wpi_exG (v := .int .u64 (numOf (l.take i) : Int)) (fun _ => trivial) (wn rfl) rfl (ex_move rfl rfl) ?_
      refine wpi_exG (v := .int .u64 ((numOf (l.take i) * 256 : Nat) : Int)) (fun _ => trivial) (wn rfl) rfl (ex_shl (m := (numOf (l.take i) : Int)) (n := 8) rfl rfl rfl (by decide) (shl8 _ hm)) ?_
      refine wpi_exG (v := .int .u8 (c.toNat : Int)) (fun _ => trivial) (wn rfl) rfl (ex_move rfl rfl) ?_
      simp only [Act.put, List.setIfInBounds_toArray, List.set_cons_succ, List.set_cons_zero]
      refine wpi_exG (v := .int .u64 (c.toNat : Int)) (fun _ => trivial) (wn rfl) rfl (ex_int (m := (c.toNat : Int)) Try.underlying5 Try.underlying114 rfl rfl (u64_in (by omega))) ?_
      refine wpi_exG (v := .int .u64 ((numOf (l.take i) * 256 + c.toNat : Nat) : Int)) (fun _ => trivial) (wn rfl) rfl (ex_bits (m := ((numOf (l.take i) * 256 : Nat) : Int)) (n := (c.toNat : Int)) rfl rfl rfl rfl (or_byte _ _ hm hc)) ?_
      refine wpi_exG (v := .int .u64 ((numOf (l.take i) * 256 + c.toNat : Nat) : Int)) (fun _ => trivial) (wn rfl) rfl (ex_assign rfl rfl) ?_
      refine wpListIn_nil ?_
      simp only [Act.put, List.setIfInBounds_toArray, List.set_cons_succ, List.set_cons_zero]
      refine blk_normal ?_
      refine then_normal (hK9 _ _ ?_)
      clear hK9 K9
      refine wpIn_region_lit ?_
      refine wpi_exG (v := .int .i64 ((i : Int) + 1)) (fun _ => trivial) (wn rfl) rfl (ex_add (m := (i : Int)) (n := 1) rfl rfl rfl (i64_in (by omega))) ?_
      refine wpi_exG (v := .int .i64 ((i : Int) + 1)) (fun _ => trivial) (wn rfl) rfl (ex_move rfl rfl) ?_
      refine wpListIn_nil ?_
      simp only [Act.put, List.setIfInBounds_toArray, List.set_cons_succ, List.set_cons_zero]
      refine then_normal ?_
      go_roundw
      case rel => exact ⟨i + 1, by rw [htake, numOf_snoc], by simp, by omega, hv⟩
      case measure => show n - ((i : Int) + 1).toNat < n - (i : Int).toNat; omega
    · refine wpi_exG (v := .bool false) (fun _ => trivial) (wn rfl) rfl (ex_lss (k := .i64) (m := (i : Int)) (n := (n : Int)) rfl rfl rfl (decide_eq_false hb7)) ?_
      refine wpListIn_nil ?_
      simp only [Act.put, List.setIfInBounds_toArray, List.set_cons_succ, List.set_cons_zero]
      refine then_normal (hK6 _ _ ?_)
      clear hK6 K6
      refine wpIn_seq_k (fun K11 hK11 => ?_)
      refine wpIn_cond_false rfl ?_
      refine wpIn_exit ?_
      refine then_exit ?_
      clear hK11 K11
      refine then_exit ?_
      refine blk_hit ?_
      refine then_normal (hK3 _ _ ?_)
      clear hK3 K3
      refine wpIn_seq_k (fun K12 hK12 => ?_)
      refine wpIn_region_lit ?_
      refine wpi_exG (v := .int .u64 (numOf (l.take i) : Int)) (fun _ => trivial) (wn rfl) rfl (ex_move rfl rfl) ?_
      refine wpi_exG (v := .int .u64 (numOf (l.take i) : Int)) (fun _ => trivial) (wn rfl) rfl (ex_assign rfl rfl) ?_
      refine wpListIn_nil ?_
      simp only [Act.put, List.setIfInBounds_toArray, List.set_cons_succ, List.set_cons_zero]
      refine then_normal (hK12 _ _ ?_)
      clear hK12 K12
      refine wpIn_ret ?_
      refine bodyPost_ret (results_tmp rfl _ _ _) rfl ?_
      rw [List.take_of_length_le (by omega)]
      exact ⟨rfl, hv⟩
theorem g1sz5 : (Try.prog.info? 5).map (·.size) = some 1 := by kernel_rfl
set_option maxRecDepth 100000 in
set_option maxHeartbeats 2000000 in
theorem logPut (B : Base) (H : List Res) (w : World) (hb o cap m n : Nat) (pre mid post : List Value) (t : TypeId) (ho : pre.length = o) (hmid : mid.length = m) (hm : m ≤ 8) (hn : n < 18446744073709551616) (hv : Inv B (Res.cell hb (pre ++ mid ++ post) t :: H) w) :
    Calls Try.prog 66 #[.slice (some ⟨hb, o, none⟩) m cap, .int .u64 (n : Int)] w fun e w' => e = .returned (.tuple #[]) ∧ Inv B (Res.cell hb (pre ++ (beOf m n).map B8 ++ post) t :: H) w' := by
  refine (callsIn_wide (n := 5)).1 ?_
  refine callsIn_of_wp Try.func66 rfl trivial ?_
  simp only [Try.ntmps66, List.size_toArray, List.length_cons, List.length_nil, Nat.reduceAdd, Nat.reduceSub, Array.replicate_succ, Array.replicate_zero, List.push_toArray, List.append_toArray, List.nil_append, List.cons_append]
  refine wpIn_seq_k (fun K1 hK1 => ?_)
  refine wpIn_region_lit ?_
  refine wpi_exG (v := .slice (some ⟨hb, o, none⟩) m cap) (fun _ => trivial) (wn rfl) rfl (ex_move rfl rfl) ?_
  refine wpi_exG (v := .int .i64 (m : Int)) (fun _ => trivial) (wn rfl) rfl (ex_len0 Try.underlying24 rfl rfl) ?_
  refine wpi_exG (v := .int .i64 ((m : Int) - 1)) (fun _ => trivial) (wn rfl) rfl (ex_sub (m := (m : Int)) (n := 1) rfl rfl rfl (i64_in (by omega))) ?_
  simp only [Act.put, List.setIfInBounds_toArray, List.set_cons_succ, List.set_cons_zero]
  refine wpi_exG (v := .int .i64 ((m : Int) - 1)) (fun _ => trivial) (wn rfl) rfl (ex_assign rfl rfl) ?_
  refine wpListIn_nil ?_
  simp only [Act.put, List.setIfInBounds_toArray, List.set_cons_succ, List.set_cons_zero]
  refine then_normal (hK1 _ _ ?_)
  clear hK1 K1
  refine wpIn_block ?_
  gi_loopw [1, 4] (fun x1 x4 wr => ∃ i : Nat, x1 = .int .u64 ((n / 256 ^ i : Nat) : Int) ∧ x4 = .int .i64 ((m : Int) - 1 - (i : Int)) ∧ i ≤ m ∧ Inv B (Res.cell hb (pre ++ putMid m n mid i ++ post) t :: H) wr) (fun x1 x4 _ => ((intOf x4) + 1).toNat)
  case atStart => exact ⟨0, by simp, by simp, by omega, by rw [putMid_zero hmid]; exact hv⟩
  case round =>
    obtain ⟨i, rfl, rfl, hi, hv⟩ := hrel
    refine wpIn_seq_k (fun K3 hK3 => ?_)
    refine wpIn_seq_k (fun K4 hK4 => ?_)
    refine wpIn_region_lit ?_
    refine wpi_exG (v := .int .i64 ((m : Int) - 1 - (i : Int))) (fun _ => trivial) (wn rfl) rfl (ex_move rfl rfl) ?_
    by_cases hb5 : ((m : Int) - 1 - (i : Int)) ≥ 0
    · refine wpi_exG (v := .bool true) (fun _ => trivial) (wn rfl) rfl (ex_geq (k := .i64) (m := ((m : Int) - 1 - (i : Int))) (n := 0) rfl rfl rfl (decide_eq_true hb5)) ?_
      refine wpListIn_nil ?_
      simp only [Act.put, List.setIfInBounds_toArray, List.set_cons_succ, List.set_cons_zero]
      refine then_normal (hK4 _ _ ?_)
      clear hK4 K4
      refine wpIn_cond_true rfl ?_
      refine wpIn_skip ?_
      refine then_normal (hK3 _ _ ?_)
      clear hK3 K3
      refine wpIn_seq_k (fun K6 hK6 => ?_)
      refine wpIn_block ?_
      refine wpIn_seq_k (fun K7 hK7 => ?_)
      refine wpIn_region_lit ?_
      refine wpi_exG (v := .slice (some ⟨hb, o, none⟩) m cap) (fun _ => trivial) (wn rfl) rfl (ex_move rfl rfl) ?_
      refine wpi_exG (v := .int .i64 ((m : Int) - 1 - (i : Int))) (fun _ => trivial) (wn rfl) rfl (ex_move rfl rfl) ?_
      refine wpi_exG (v := .int .u64 ((n / 256 ^ i : Nat) : Int)) (fun _ => trivial) (wn rfl) rfl (ex_move rfl rfl) ?_
      simp only [Act.put, List.setIfInBounds_toArray, List.set_cons_succ, List.set_cons_zero]
      refine wpi_exG (v := .int .u8 ((UInt8.ofNat (n / 256 ^ i)).toNat : Int)) (fun _ => trivial) (wn rfl) rfl (ex_int (m := ((n / 256 ^ i : Nat) : Int)) Try.underlying114 Try.underlying5 rfl rfl (u8_of _)) ?_
      have he : ((m : Int) - 1 - (i : Int)) = ((m - 1 - i : Nat) : Int) := by omega
      refine wpi_exG (v := .pointer (some ⟨hb, o + (m - 1 - i), none⟩)) (fun _ => trivial) (wn rfl) rfl (ex_index rfl rfl (congrArg (Value.int .i64) he) (run_idx1 (k := m - 1 - i) Try.underlying24 g1es24 (by omega))) ?_
      refine sl_storeAt 0 (v := B8 (UInt8.ofNat (n / 256 ^ i))) (L' := pre ++ putMid m n mid (i + 1) ++ post) (fun _ => trivial) (wn rfl) rfl rfl rfl hv rfl g1sz5 (by simp [putMid_len hmid (show i ≤ m by omega)]; omega) rfl rfl (by rw [← ho, set_mid _ _ _ _ _ (by rw [putMid_len hmid (by omega)]; omega), putMid_succ hmid (by omega)]) (fun w8 hv => ?_)
      simp only [List.set_cons_succ, List.set_cons_zero] at hv
      refine wpListIn_nil ?_
      simp only [Act.put, List.setIfInBounds_toArray, List.set_cons_succ, List.set_cons_zero]
      refine then_normal (hK7 _ _ ?_)
      clear hK7 K7
      refine wpIn_region_lit ?_
      refine wpi_exG (v := .int .u64 ((n / 256 ^ i : Nat) : Int)) (fun _ => trivial) (wn rfl) rfl (ex_move rfl rfl) ?_
      refine wpi_exG (v := .int .u64 ((n / 256 ^ (i + 1) : Nat) : Int)) (fun _ => trivial) (wn rfl) rfl (ex_shr (m := ((n / 256 ^ i : Nat) : Int)) (n := 8) rfl rfl rfl (by decide) (by rw [shr8, Nat.div_div_eq_div_mul, ← Nat.pow_succ])) ?_
      refine wpi_exG (v := .int .u64 ((n / 256 ^ (i + 1) : Nat) : Int)) (fun _ => trivial) (wn rfl) rfl (ex_assign rfl rfl) ?_
      refine wpListIn_nil ?_
      simp only [Act.put, List.setIfInBounds_toArray, List.set_cons_succ, List.set_cons_zero]
      refine blk_normal ?_
      refine then_normal (hK6 _ _ ?_)
      clear hK6 K6
      refine wpIn_region_lit ?_
      refine wpi_exG (v := .int .i64 ((m : Int) - 1 - (i : Int))) (fun _ => trivial) (wn rfl) rfl (ex_move rfl rfl) ?_
      refine wpi_exG (v := .int .i64 (((m : Int) - 1 - (i : Int)) - 1)) (fun _ => trivial) (wn rfl) rfl (ex_sub (m := ((m : Int) - 1 - (i : Int))) (n := 1) rfl rfl rfl (i64_in (by omega))) ?_
      refine wpi_exG (v := .int .i64 (((m : Int) - 1 - (i : Int)) - 1)) (fun _ => trivial) (wn rfl) rfl (ex_assign rfl rfl) ?_
      refine wpListIn_nil ?_
      simp only [Act.put, List.setIfInBounds_toArray, List.set_cons_succ, List.set_cons_zero]
      refine then_normal ?_
      go_roundw
      case rel => exact ⟨i + 1, rfl, congrArg (Value.int .i64) (by omega), by omega, hv⟩
      case measure => show ((m : Int) - 1 - (i : Int) - 1 + 1).toNat < ((m : Int) - 1 - (i : Int) + 1).toNat; omega
    · refine wpi_exG (v := .bool false) (fun _ => trivial) (wn rfl) rfl (ex_geq (k := .i64) (m := ((m : Int) - 1 - (i : Int))) (n := 0) rfl rfl rfl (decide_eq_false hb5)) ?_
      refine wpListIn_nil ?_
      simp only [Act.put, List.setIfInBounds_toArray, List.set_cons_succ, List.set_cons_zero]
      refine then_normal (hK4 _ _ ?_)
      clear hK4 K4
      refine wpIn_cond_false rfl ?_
      refine wpIn_exit ?_
      refine then_exit ?_
      clear hK3 K3
      refine then_exit ?_
      refine blk_hit ?_
      go_end0
      obtain rfl : i = m := by omega
      rw [putMid_all] at hv
      exact ⟨rfl, hv⟩
theorem g1fa111_4 (w : World) (b o : Nat) : (Instr.fieldAt 111 (.pointer (some ⟨b, o, none⟩)) 4).run Try.prog w = .ok (.pointer (some ⟨b, o + 4, none⟩)) w := by kernel_rfl
theorem g1na3 (w : World) : (isAgg 3).run Try.prog w = .ok false w := by kernel_rfl
set_option maxRecDepth 100000 in
set_option maxHeartbeats 2000000 in
theorem logLast (B : Base) (H : List Res) (w : World) (q p from_ n used last : Nat) (failed : Bool) (hv : Inv B (Res.cell q [.pointer (some ⟨p, 0, none⟩), .int .i64 (from_ : Int), .int .i64 (n : Int), .int .i64 (used : Int), .int .i64 (last : Int), .bool failed] 111 :: H) w) :
    Calls Try.prog 41 #[.pointer (some ⟨q, 0, none⟩)] w fun e w' => e = .returned (.int .i64 (last : Int)) ∧ w = w' := by
  refine (callsIn_wide (n := 5)).1 ?_
  refine callsIn_of_wp Try.func41 rfl trivial ?_
  simp only [Try.ntmps41, List.size_toArray, List.length_cons, List.length_nil, Nat.reduceAdd, Nat.reduceSub, Array.replicate_succ, Array.replicate_zero, List.push_toArray, List.append_toArray, List.nil_append, List.cons_append]
  refine wpIn_seq_k (fun K1 hK1 => ?_)
  refine wpIn_region_lit ?_
  refine wpi_exG (v := .int .i64 0) (fun _ => trivial) (wn rfl) rfl (ex_assign rfl rfl) ?_
  refine wpListIn_nil ?_
  simp only [Act.put, List.setIfInBounds_toArray, List.set_cons_succ, List.set_cons_zero]
  refine then_normal (hK1 _ _ ?_)
  clear hK1 K1
  refine wpIn_seq_k (fun K2 hK2 => ?_)
  refine wpIn_region_lit ?_
  refine wpi_exG (v := .pointer (some ⟨q, 0, none⟩)) (fun _ => trivial) (wn rfl) rfl (ex_move rfl rfl) ?_
  refine wpi_exG (v := .pointer (some ⟨q, 0, none⟩)) (fun _ => trivial) (wn rfl) rfl (ex_nil rfl rfl) ?_
  refine wpi_exG (v := .pointer (some ⟨q, 4, none⟩)) (fun _ => trivial) (wn rfl) rfl (ex_field rfl rfl (g1fa111_4 _ _ _)) ?_
  simp only [Act.put, List.setIfInBounds_toArray, List.set_cons_succ, List.set_cons_zero]
  refine wpi_exG (v := .int .i64 (last : Int)) (fun _ => trivial) (wn rfl) rfl (ex_load rfl rfl (run_load1 g1na3 (hv.load 0 4 rfl rfl))) ?_
  refine wpi_exG (v := .int .i64 (last : Int)) (fun _ => trivial) (wn rfl) rfl (ex_assign rfl rfl) ?_
  refine wpListIn_nil ?_
  simp only [Act.put, List.setIfInBounds_toArray, List.set_cons_succ, List.set_cons_zero]
  refine then_normal (hK2 _ _ ?_)
  clear hK2 K2
  refine wpIn_ret ?_
  refine bodyPost_ret (results_tmp rfl _ _ _) rfl ?_
  exact ⟨rfl, rfl⟩
theorem g1fa111_5 (w : World) (b o : Nat) : (Instr.fieldAt 111 (.pointer (some ⟨b, o, none⟩)) 5).run Try.prog w = .ok (.pointer (some ⟨b, o + 5, none⟩)) w := by kernel_rfl
theorem g1na4 (w : World) : (isAgg 4).run Try.prog w = .ok false w := by kernel_rfl
theorem g1fa111_3 (w : World) (b o : Nat) : (Instr.fieldAt 111 (.pointer (some ⟨b, o, none⟩)) 3).run Try.prog w = .ok (.pointer (some ⟨b, o + 3, none⟩)) w := by kernel_rfl
theorem g1sz3 : (Try.prog.info? 3).map (·.size) = some 1 := by kernel_rfl
set_option maxRecDepth 100000 in
set_option maxHeartbeats 2000000 in
theorem logReset (B : Base) (H : List Res) (w : World) (q p from_ n used last : Nat) (hl : last ≤ 1152921504606846975) (hv : Inv B (Res.cell q [.pointer (some ⟨p, 0, none⟩), .int .i64 (from_ : Int), .int .i64 (n : Int), .int .i64 (used : Int), .int .i64 (last : Int), .bool false] 111 :: H) w) :
    Calls Try.prog 42 #[.pointer (some ⟨q, 0, none⟩), .int .i64 (last : Int)] w fun e w' => e = .returned (.int .i64 0) ∧ Inv B (Res.cell q [.pointer (some ⟨p, 0, none⟩), .int .i64 (from_ : Int), .int .i64 (n : Int), .int .i64 (0 : Int), .int .i64 (last : Int), .bool false] 111 :: H) w' := by
  refine (callsIn_wide (n := 5)).1 ?_
  refine callsIn_of_wp Try.func42 rfl trivial ?_
  simp only [Try.ntmps42, List.size_toArray, List.length_cons, List.length_nil, Nat.reduceAdd, Nat.reduceSub, Array.replicate_succ, Array.replicate_zero, List.push_toArray, List.append_toArray, List.nil_append, List.cons_append]
  refine wpIn_seq_k (fun K1 hK1 => ?_)
  refine wpIn_region_lit ?_
  refine wpi_exG (v := .int .i64 0) (fun _ => trivial) (wn rfl) rfl (ex_assign rfl rfl) ?_
  refine wpListIn_nil ?_
  simp only [Act.put, List.setIfInBounds_toArray, List.set_cons_succ, List.set_cons_zero]
  refine then_normal (hK1 _ _ ?_)
  clear hK1 K1
  refine wpIn_seq_k (fun K2 hK2 => ?_)
  refine wpIn_seq_k (fun K3 hK3 => ?_)
  refine wpIn_region_lit ?_
  refine wpi_exG (v := .pointer (some ⟨q, 0, none⟩)) (fun _ => trivial) (wn rfl) rfl (ex_move rfl rfl) ?_
  refine wpi_exG (v := .pointer (some ⟨q, 0, none⟩)) (fun _ => trivial) (wn rfl) rfl (ex_nil rfl rfl) ?_
  refine wpi_exG (v := .pointer (some ⟨q, 5, none⟩)) (fun _ => trivial) (wn rfl) rfl (ex_field rfl rfl (g1fa111_5 _ _ _)) ?_
  simp only [Act.put, List.setIfInBounds_toArray, List.set_cons_succ, List.set_cons_zero]
  refine wpi_exG (v := .bool false) (fun _ => trivial) (wn rfl) rfl (ex_load rfl rfl (run_load1 g1na4 (hv.load 0 5 rfl rfl))) ?_
  refine wpListIn_nil ?_
  simp only [Act.put, List.setIfInBounds_toArray, List.set_cons_succ, List.set_cons_zero]
  refine then_normal (hK3 _ _ ?_)
  clear hK3 K3
  refine wpIn_cond_false rfl ?_
  refine wpIn_skip ?_
  refine then_normal (hK2 _ _ ?_)
  clear hK2 K2
  refine wpIn_seq_k (fun K4 hK4 => ?_)
  refine wpIn_seq_k (fun K5 hK5 => ?_)
  refine wpIn_region_lit ?_
  refine wpi_exG (v := .int .i64 (last : Int)) (fun _ => trivial) (wn rfl) rfl (ex_move rfl rfl) ?_
  refine wpi_exG (v := .pointer (some ⟨q, 0, none⟩)) (fun _ => trivial) (wn rfl) rfl (ex_move rfl rfl) ?_
  refine wpi_exG (v := .pointer (some ⟨q, 0, none⟩)) (fun _ => trivial) (wn rfl) rfl (ex_nil rfl rfl) ?_
  simp only [Act.put, List.setIfInBounds_toArray, List.set_cons_succ, List.set_cons_zero]
  refine wpi_exG (v := .pointer (some ⟨q, 4, none⟩)) (fun _ => trivial) (wn rfl) rfl (ex_field rfl rfl (g1fa111_4 _ _ _)) ?_
  refine wpi_exG (v := .int .i64 (last : Int)) (fun _ => trivial) (wn rfl) rfl (ex_load rfl rfl (run_load1 g1na3 (hv.load 0 4 rfl rfl))) ?_
  refine wpi_exG (v := .bool false) (fun _ => trivial) (wn rfl) rfl (ex_lss (k := .i64) (m := (last : Int)) (n := (last : Int)) rfl rfl rfl (decide_eq_false (by omega))) ?_
  simp only [Act.put, List.setIfInBounds_toArray, List.set_cons_succ, List.set_cons_zero]
  refine wpi_exG (v := .bool false) (fun _ => trivial) (wn rfl) rfl (ex_move rfl rfl) ?_
  refine wpi_exG (v := .int .i64 (last : Int)) (fun _ => trivial) (wanted_of (j := 6) (d := 15) (b := false) rfl rfl rfl) rfl (ex_move rfl rfl) ?_
  refine wpi_exG (v := .bool false) (fun _ => trivial) (wanted_of (j := 6) (d := 15) (b := false) rfl rfl rfl) rfl (ex_gtr (k := .i64) (m := (last : Int)) (n := 1152921504606846975) rfl rfl rfl (decide_eq_false (by omega))) ?_
  simp only [Act.put, List.setIfInBounds_toArray, List.set_cons_succ, List.set_cons_zero]
  refine wpi_exG (v := .bool false) (fun _ => trivial) (wn rfl) rfl (ex_pick (b := false) rfl rfl rfl) ?_
  refine wpListIn_nil ?_
  simp only [Act.put, List.setIfInBounds_toArray, List.set_cons_succ, List.set_cons_zero]
  refine then_normal (hK5 _ _ ?_)
  clear hK5 K5
  refine wpIn_cond_false rfl ?_
  refine wpIn_skip ?_
  refine then_normal (hK4 _ _ ?_)
  clear hK4 K4
  refine wpIn_seq_k (fun K6 hK6 => ?_)
  refine wpIn_region_lit ?_
  refine wpi_exG (v := .pointer (some ⟨q, 0, none⟩)) (fun _ => trivial) (wn rfl) rfl (ex_move rfl rfl) ?_
  refine wpi_exG (v := .pointer (some ⟨q, 0, none⟩)) (fun _ => trivial) (wn rfl) rfl (ex_move rfl rfl) ?_
  refine wpi_exG (v := .int .i64 (last : Int)) (fun _ => trivial) (wn rfl) rfl (ex_move rfl rfl) ?_
  simp only [Act.put, List.setIfInBounds_toArray, List.set_cons_succ, List.set_cons_zero]
  refine wpi_exG (v := .pointer (some ⟨q, 0, none⟩)) (fun _ => trivial) (wn rfl) rfl (ex_nil rfl rfl) ?_
  refine wpi_exG (v := .pointer (some ⟨q, 3, none⟩)) (fun _ => trivial) (wn rfl) rfl (ex_field rfl rfl (g1fa111_3 _ _ _)) ?_
  refine sl_storeAt 0 (v := .int .i64 0) (L' := [.pointer (some ⟨p, 0, none⟩), .int .i64 (from_ : Int), .int .i64 (n : Int), .int .i64 0, .int .i64 (last : Int), .bool false]) (fun _ => trivial) (wn rfl) rfl rfl rfl hv rfl g1sz3 (by simp) rfl rfl rfl (fun w7 hv => ?_)
  simp only [List.set_cons_succ, List.set_cons_zero] at hv
  simp only [Act.put, List.setIfInBounds_toArray, List.set_cons_succ, List.set_cons_zero]
  refine wpi_exG (v := .pointer (some ⟨q, 0, none⟩)) (fun _ => trivial) (wn rfl) rfl (ex_nil rfl rfl) ?_
  refine wpi_exG (v := .pointer (some ⟨q, 4, none⟩)) (fun _ => trivial) (wn rfl) rfl (ex_field rfl rfl (g1fa111_4 _ _ _)) ?_
  refine sl_storeAt 0 (v := .int .i64 (last : Int)) (L' := [.pointer (some ⟨p, 0, none⟩), .int .i64 (from_ : Int), .int .i64 (n : Int), .int .i64 0, .int .i64 (last : Int), .bool false]) (fun _ => trivial) (wn rfl) rfl rfl rfl hv rfl g1sz3 (by simp) rfl rfl rfl (fun w8 hv => ?_)
  simp only [List.set_cons_succ, List.set_cons_zero] at hv
  refine wpListIn_nil ?_
  simp only [Act.put, List.setIfInBounds_toArray, List.set_cons_succ, List.set_cons_zero]
  refine then_normal (hK6 _ _ ?_)
  clear hK6 K6
  refine wpIn_seq_k (fun K9 hK9 => ?_)
  refine wpIn_region_lit ?_
  refine wpi_exG (v := .int .i64 0) (fun _ => trivial) (wn rfl) rfl (ex_assign rfl rfl) ?_
  refine wpListIn_nil ?_
  simp only [Act.put, List.setIfInBounds_toArray, List.set_cons_succ, List.set_cons_zero]
  refine then_normal (hK9 _ _ ?_)
  clear hK9 K9
  refine wpIn_ret ?_
  refine bodyPost_ret (results_tmp rfl _ _ _) rfl ?_
  exact ⟨rfl, hv⟩
set_option maxRecDepth 100000 in
set_option maxHeartbeats 2000000 in
theorem logResetOff (B : Base) (H : List Res) (w : World) (q p from_ n used last : Nat) (hl : last ≤ 1152921504606846975) (hv : Inv B (Res.cell q [.pointer (some ⟨p, 0, none⟩), .int .i64 (from_ : Int), .int .i64 (n : Int), .int .i64 (used : Int), .int .i64 (last : Int), .bool true] 111 :: H) w) :
    Calls Try.prog 42 #[.pointer (some ⟨q, 0, none⟩), .int .i64 (last : Int)] w fun e w' => e = .returned (.int .i64 20) ∧ w = w' := by
  refine (callsIn_wide (n := 5)).1 ?_
  refine callsIn_of_wp Try.func42 rfl trivial ?_
  simp only [Try.ntmps42, List.size_toArray, List.length_cons, List.length_nil, Nat.reduceAdd, Nat.reduceSub, Array.replicate_succ, Array.replicate_zero, List.push_toArray, List.append_toArray, List.nil_append, List.cons_append]
  refine wpIn_seq_k (fun K1 hK1 => ?_)
  refine wpIn_region_lit ?_
  refine wpi_exG (v := .int .i64 0) (fun _ => trivial) (wn rfl) rfl (ex_assign rfl rfl) ?_
  refine wpListIn_nil ?_
  simp only [Act.put, List.setIfInBounds_toArray, List.set_cons_succ, List.set_cons_zero]
  refine then_normal (hK1 _ _ ?_)
  clear hK1 K1
  refine wpIn_seq_k (fun K2 hK2 => ?_)
  refine wpIn_seq_k (fun K3 hK3 => ?_)
  refine wpIn_region_lit ?_
  refine wpi_exG (v := .pointer (some ⟨q, 0, none⟩)) (fun _ => trivial) (wn rfl) rfl (ex_move rfl rfl) ?_
  refine wpi_exG (v := .pointer (some ⟨q, 0, none⟩)) (fun _ => trivial) (wn rfl) rfl (ex_nil rfl rfl) ?_
  refine wpi_exG (v := .pointer (some ⟨q, 5, none⟩)) (fun _ => trivial) (wn rfl) rfl (ex_field rfl rfl (g1fa111_5 _ _ _)) ?_
  simp only [Act.put, List.setIfInBounds_toArray, List.set_cons_succ, List.set_cons_zero]
  refine wpi_exG (v := .bool true) (fun _ => trivial) (wn rfl) rfl (ex_load rfl rfl (run_load1 g1na4 (hv.load 0 5 rfl rfl))) ?_
  refine wpListIn_nil ?_
  simp only [Act.put, List.setIfInBounds_toArray, List.set_cons_succ, List.set_cons_zero]
  refine then_normal (hK3 _ _ ?_)
  clear hK3 K3
  refine wpIn_cond_true rfl ?_
  refine wpIn_seq_k (fun K4 hK4 => ?_)
  refine wpIn_region_lit ?_
  refine wpi_exG (v := .int .i64 20) (fun _ => trivial) (wn rfl) rfl (ex_assign rfl rfl) ?_
  refine wpListIn_nil ?_
  simp only [Act.put, List.setIfInBounds_toArray, List.set_cons_succ, List.set_cons_zero]
  refine then_normal (hK4 _ _ ?_)
  clear hK4 K4
  refine wpIn_ret ?_
  refine then_ret ?_
  clear hK2 K2
  refine bodyPost_ret (results_tmp rfl _ _ _) rfl ?_
  exact ⟨rfl, rfl⟩
end Go.Proofs.Ytkannfkjnohdlaa
/- log.record -/
namespace Go.Proofs.Ytkannfkjnohdlaa
open Go.RowKit Go.Pm
theorem rd_sub {B : Base} {H : List Res} {ab aoff : Nat} {s : List UInt8} (hr : RdV B H (some ⟨ab, aoff, none⟩) (s.map B8)) (off m : Nat) (h : off + m ≤ s.length) : RdV B H (some ⟨ab, aoff + off, none⟩) ((piece s off m).map B8) := by
  intro i hi
  have hi' : i < m := by rw [List.length_map, piece_length h] at hi; exact hi
  obtain ⟨b, o, h1, h2⟩ := hr (off + i) (by rw [List.length_map]; omega)
  simp only [Option.some.injEq, Addr.mk.injEq, and_true] at h1
  obtain ⟨rfl, rfl⟩ := h1
  refine ⟨ab, aoff + off, rfl, ?_⟩
  have e : ((piece s off m).map B8)[i] = (s.map B8)[off + i]'(by rw [List.length_map]; omega) := by simp [piece]
  rw [e, Nat.add_assoc]
  exact h2
set_option maxRecDepth 100000 in
theorem slice_from {ab off len cap lo : Nat} (h1 : lo ≤ len) (h2 : len ≤ cap) (h3 : cap ≤ maxLen) : ∃ za, (∀ w, (Instr.sliceAt 24 (.slice (some ⟨ab, off, none⟩) len cap) (some (.int .i64 (lo : Int))) none none).run Try.prog w = .ok (.slice za (len - lo) (cap - lo)) w) ∧ (lo < cap → za = some ⟨ab, off + lo, none⟩) ∧ SliceOk za (len - lo) (cap - lo) := by
  have hs : ∀ w, (sizeOf (Try.prog.elem 24)).run Try.prog w = .ok 1 w := fun w => by kernel_rfl
  by_cases hc : lo < cap
  · exact ⟨some ⟨ab, off + lo, none⟩, fun w => run_from1 Try.underlying24 hs h1 hc, fun _ => rfl, ⟨by omega, by omega, fun h => by cases h⟩⟩
  · have e1 : lo = cap := by omega
    refine ⟨some ⟨ab, off, none⟩, fun w => ?_, fun h => absurd h hc, ⟨by omega, by omega, fun h => by cases h⟩⟩
    rw [run_sliceAt_slice w 24 _ _ _ _ Try.underlying24, run_slice_l w 24 _ len cap Try.underlying24 .i64 lo (by omega) (by omega), hs]
    simp only [Result.andThen, sliced, Int.toNat_natCast]
    rw [if_pos e1.symm]
theorem quo64 (n : Nat) (h : n ≤ 1000000000) : IntKind.i64.wrap ((n : Int).tdiv 64) = ((n / 64 : Nat) : Int) := by
  rw [Int.tdiv_eq_ediv_of_nonneg (by omega), i64_in (by omega)]; omega
theorem rc_room {s : List UInt8} {j b : Nat} {w : World} {za : Nat} {zo zc : Nat} {a : Act} {o : Oper} {x y : Operand} (hs : (j + 1) * 64 + 64 ≤ s.length) (hj : j + 1 < secs (rcN s)) (ho : o.op = .call { callee := .builtin .append, args := #[x, y], argTypes := #[24, 24] })
    (hx : a.eval x = .slice (some ⟨b, 0, none⟩) (rcB s (rcN s) j).length (rcN s)) (hy : a.eval y = .slice (some ⟨za, zo, none⟩) (1 + rcM (rcN s) j - 1) zc) (hb : Blk w b ((rcB s (rcN s) j).map B8 ++ List.replicate (rcN s - (rcB s (rcN s) j).length) (.int .u8 0)) 5)
    (hr : Src w (some ⟨za, zo, none⟩) ((piece s ((j + 1) * 64 + 1) (rcM (rcN s) j)).map B8)) :
    Ex Try.prog a o w (.slice (some ⟨b, 0, none⟩) (rcB s (rcN s) (j + 1)).length (rcN s)) (setBlk w b ((rcB s (rcN s) (j + 1)).map B8 ++ List.replicate (rcN s - (rcB s (rcN s) (j + 1)).length) (.int .u8 0))) := by
  have hm := rcM_le (rcN s) j
  have hL := rcB_len (s := s) (n := rcN s) j (by omega)
  have hL2 := rcM_sum (rcN s) j
  have hle : min (rcN s) (63 * (j + 1)) ≤ rcN s := Nat.min_le_left _ _
  have hp : (piece s ((j + 1) * 64 + 1) (rcM (rcN s) j)).length = rcM (rcN s) j := piece_length (by omega)
  have hB : rcB s (rcN s) (j + 1) = rcB s (rcN s) j ++ piece s ((j + 1) * 64 + 1) (rcM (rcN s) j) := rfl
  have hlen : (rcB s (rcN s) (j + 1)).length = (rcB s (rcN s) j).length + rcM (rcN s) j := by rw [hB, List.length_append, hp]
  have e1 : List.replicate (rcN s - (rcB s (rcN s) j).length) (Value.int .u8 0) = List.replicate (rcM (rcN s) j) (.int .u8 0) ++ List.replicate (rcN s - (rcB s (rcN s) (j + 1)).length) (Value.int .u8 0) := by rw [List.replicate_append_replicate]; congr 1; omega
  rw [e1, ← List.append_assoc] at hb
  have h2 : 1 + rcM (rcN s) j - 1 = rcM (rcN s) j := by omega
  rw [h2] at hy
  have := ex_appendRoom (P := Try.prog) (l := (rcB s (rcN s) j).length) (c := rcN s) (m := rcM (rcN s) j) (news := (piece s ((j + 1) * 64 + 1) (rcM (rcN s) j)).map B8) elem8 ho hx hy hb (by simp) (by simp) (by simp [hp]) (by omega) hr (oneCell_bytes _)
  rw [hlen, hB, List.map_append]
  rw [hlen] at this
  exact this

theorem g2es24 (w : World) : (sizeOf (Try.prog.elem 24)).run Try.prog w = .ok 1 w := by kernel_rfl
theorem g2na5 (w : World) : (isAgg 5).run Try.prog w = .ok false w := by kernel_rfl
theorem g2callable63 : Callable Try.prog 63 := ⟨_, Try.func63, by kernel_rfl, by kernel_rfl⟩
theorem g2callable64 : Callable Try.prog 64 := ⟨_, Try.func64, by kernel_rfl, by kernel_rfl⟩
theorem g2callable54 : Callable Try.prog 54 := ⟨_, Try.func54, by kernel_rfl, by kernel_rfl⟩
theorem g2mk5 : (Try.prog.info? 5).map (fun i => (i.zero, i.size, i.bytes)) = some (some (.int .u8 0), 1, 1) := by kernel_rfl
theorem g2mk24 : (Try.prog.info? 24).map (fun i => (i.zero, i.size, i.bytes)) = some (some (.slice none 0 0), 1, 24) := by kernel_rfl
theorem g2el22 : Elem Try.prog 22 24 (.slice none 0 0) 1 24 := elem_of Try.underlying22 g2mk24 (by rfl) (by decide)
theorem g2callable15 : Callable Try.prog 15 := ⟨_, Try.func15, by kernel_rfl, by kernel_rfl⟩
set_option maxRecDepth 100000 in
set_option maxHeartbeats 2000000 in
theorem logRecord (B : Base) (H : List Res) (w : World) (a : Option Addr) (n cap : Nat) (s : List UInt8) (st : Nat) (hn : s.length = n) (hmx : n ≤ 1000000000) (hok : SliceOk a n cap) (hr : RdV B H a (s.map B8)) (hst : st ≤ 1152921504606846975) (hv : Inv B H w) :
    Calls Try.prog 55 #[.slice a n cap, .int .i64 (st : Int)] w fun e w' => (¬ RecOk s st ∧ ∃ v, e = .returned (.tuple #[v, .bool false]) ∧ Inv B H w') ∨ (RecOk s st ∧ ∃ b, e = .returned (.tuple #[.slice (some ⟨b, 0, none⟩) (rcN s) (rcN s), .bool true]) ∧ Inv B (Res.cell b ((rcB s (rcN s) (secs (rcN s) - 1)).map B8) 5 :: H) w') := by
  have hn4 := num4 s 9
  have hs4 := num4 s 13
  have hn8 := num8 s 1
  have hN : rcN s = numOf (piece s 9 4) := rfl
  have hle := hok.le
  have hsp := secs_pos (rcN s)
  have hcs := Crc.sum_lt (rcB s (rcN s) (secs (rcN s) - 1))
  refine (callsIn_wide (n := 5)).1 ?_
  refine callsIn_of_wp Try.func55 rfl trivial ?_
  simp only [Try.ntmps55, List.size_toArray, List.length_cons, List.length_nil, Nat.reduceAdd, Nat.reduceSub, Array.replicate_succ, Array.replicate_zero, List.push_toArray, List.append_toArray, List.nil_append, List.cons_append]
  refine wpIn_seq_k (fun K1 hK1 => ?_)
  refine wpIn_region_lit ?_
  refine wpi_exG (v := .slice none 0 0) (fun _ => trivial) (wn rfl) rfl (ex_assign rfl rfl) ?_
  refine wpi_exG (v := .bool false) (fun _ => trivial) (wn rfl) rfl (ex_assign rfl rfl) ?_
  refine wpListIn_nil ?_
  simp only [Act.put, List.setIfInBounds_toArray, List.set_cons_succ, List.set_cons_zero]
  refine then_normal (hK1 _ _ ?_)
  clear hK1 K1
  refine wpIn_seq_k (fun K2 hK2 => ?_)
  refine wpIn_seq_k (fun K3 hK3 => ?_)
  refine wpIn_region_lit ?_
  refine wpi_exG (v := .slice a n cap) (fun _ => trivial) (wn rfl) rfl (ex_move rfl rfl) ?_
  refine wpi_exG (v := .int .i64 (n : Int)) (fun _ => trivial) (wn rfl) rfl (ex_len0 Try.underlying24 rfl rfl) ?_
  by_cases hb4 : (n : Int) < 64
  · refine wpi_exG (v := .bool true) (fun _ => trivial) (wn rfl) rfl (ex_lss (k := .i64) (m := (n : Int)) (n := 64) rfl rfl rfl (decide_eq_true hb4)) ?_
    simp only [Act.put, List.setIfInBounds_toArray, List.set_cons_succ, List.set_cons_zero]
    refine wpi_exG (v := .bool true) (fun _ => trivial) (wn rfl) rfl (ex_move rfl rfl) ?_
    refine wpi_not (fun _ => trivial) (wanted_not (j := 3) (d := 14) (b := false) (b' := true) rfl rfl rfl (by decide)) ?_
    refine wpi_not (fun _ => trivial) (wanted_not (j := 3) (d := 14) (b := false) (b' := true) rfl rfl rfl (by decide)) ?_
    simp only [Act.put, List.setIfInBounds_toArray, List.set_cons_succ, List.set_cons_zero]
    refine wpi_not (fun _ => trivial) (wanted_not (j := 3) (d := 14) (b := false) (b' := true) rfl rfl rfl (by decide)) ?_
    refine wpi_not (fun _ => trivial) (wanted_not (j := 3) (d := 14) (b := false) (b' := true) rfl rfl rfl (by decide)) ?_
    refine wpi_exG (v := .bool true) (fun _ => trivial) (wn rfl) rfl (ex_pick (b := true) rfl rfl rfl) ?_
    simp only [Act.put, List.setIfInBounds_toArray, List.set_cons_succ, List.set_cons_zero]
    refine wpi_exG (v := .bool true) (fun _ => trivial) (wn rfl) rfl (ex_move rfl rfl) ?_
    refine wpi_not (fun _ => trivial) (wanted_not (j := 9) (d := 20) (b := false) (b' := true) rfl rfl rfl (by decide)) ?_
    refine wpi_not (fun _ => trivial) (wanted_not (j := 9) (d := 20) (b := false) (b' := true) rfl rfl rfl (by decide)) ?_
    simp only [Act.put, List.setIfInBounds_toArray, List.set_cons_succ, List.set_cons_zero]
    refine wpi_not (fun _ => trivial) (wanted_not (j := 9) (d := 20) (b := false) (b' := true) rfl rfl rfl (by decide)) ?_
    refine wpi_not (fun _ => trivial) (wanted_not (j := 9) (d := 20) (b := false) (b' := true) rfl rfl rfl (by decide)) ?_
    refine wpi_exG (v := .bool true) (fun _ => trivial) (wn rfl) rfl (ex_pick (b := true) rfl rfl rfl) ?_
    refine wpListIn_nil ?_
    simp only [Act.put, List.setIfInBounds_toArray, List.set_cons_succ, List.set_cons_zero]
    refine then_normal (hK3 _ _ ?_)
    clear hK3 K3
    refine wpIn_cond_true rfl ?_
    refine wpIn_seq_k (fun K5 hK5 => ?_)
    refine wpIn_region_lit ?_
    refine wpi_exG (v := .slice none 0 0) (fun _ => trivial) (wn rfl) rfl (ex_assign rfl rfl) ?_
    refine wpi_exG (v := .bool false) (fun _ => trivial) (wn rfl) rfl (ex_assign rfl rfl) ?_
    refine wpListIn_nil ?_
    simp only [Act.put, List.setIfInBounds_toArray, List.set_cons_succ, List.set_cons_zero]
    refine then_normal (hK5 _ _ ?_)
    clear hK5 K5
    refine wpIn_ret ?_
    refine then_ret ?_
    clear hK2 K2
    refine bodyPost_ret (results_tmp2 rfl _ _ _) rfl ?_
    refine .inl ⟨fun h => ?_, _, rfl, hv.tail 0⟩
    have w1 := h.len; have w2 := h.mark; have w3 := h.zeros; have w4 := h.stamp; have w5 := h.n1; have w6 := h.n2; have w7 := h.body
    omega
  · refine wpi_exG (v := .bool false) (fun _ => trivial) (wn rfl) rfl (ex_lss (k := .i64) (m := (n : Int)) (n := 64) rfl rfl rfl (decide_eq_false hb4)) ?_
    simp only [Act.put, List.setIfInBounds_toArray, List.set_cons_succ, List.set_cons_zero]
    refine wpi_exG (v := .bool false) (fun _ => trivial) (wn rfl) rfl (ex_move rfl rfl) ?_
    refine wpi_exG (v := .slice a n cap) (fun _ => trivial) (wanted_of (j := 3) (d := 14) (b := false) rfl rfl rfl) rfl (ex_move rfl rfl) ?_
    obtain ⟨ab, aoff, rfl, -⟩ := hr.cellAt hv 0 (by rw [List.length_map]; omega)
    refine wpi_exG (v := .pointer (some ⟨ab, aoff + 0, none⟩)) (fun _ => trivial) (wanted_of (j := 3) (d := 14) (b := false) rfl rfl rfl) rfl (ex_index rfl rfl rfl (run_idx1 (k := 0) Try.underlying24 g2es24 (by omega))) ?_
    simp only [Act.put, List.setIfInBounds_toArray, List.set_cons_succ, List.set_cons_zero]
    have hkk : 0 < s.length := by omega
    obtain ⟨c0, hc0⟩ : ∃ c, s[0]? = some c := ⟨_, List.getElem?_eq_getElem hkk⟩
    have hc0c := hc0
    rw [List.getElem?_eq_getElem hkk, Option.some.injEq] at hc0c
    obtain ⟨_, _, ee, hcellc0⟩ := (hr.more (Base.Le.refl _) (fun r hr => hr)).cellAt hv (0) (by rw [List.length_map]; exact hkk)
    simp only [Option.some.injEq, Addr.mk.injEq, and_true] at ee; obtain ⟨rfl, rfl⟩ := ee
    rw [List.getElem_map, hc0c] at hcellc0
    refine wpi_exG (v := .int .u8 (c0.toNat : Int)) (fun _ => trivial) (wanted_of (j := 3) (d := 14) (b := false) rfl rfl rfl) rfl (ex_load rfl rfl (run_load1 g2na5 hcellc0)) ?_
    by_cases hb6 : (c0.toNat : Int) ≠ 82
    · skip
      refine wpi_exG (v := .bool true) (fun _ => trivial) (wanted_of (j := 3) (d := 14) (b := false) rfl rfl rfl) rfl (ex_neq (k := .u8) (m := (c0.toNat : Int)) (n := 82) rfl rfl rfl (decide_eq_true hb6)) ?_
      refine wpi_exG (v := .bool true) (fun _ => trivial) (wn rfl) rfl (ex_pick (b := false) rfl rfl rfl) ?_
      simp only [Act.put, List.setIfInBounds_toArray, List.set_cons_succ, List.set_cons_zero]
      refine wpi_exG (v := .bool true) (fun _ => trivial) (wn rfl) rfl (ex_move rfl rfl) ?_
      refine wpi_not (fun _ => trivial) (wanted_not (j := 9) (d := 20) (b := false) (b' := true) rfl rfl rfl (by decide)) ?_
      refine wpi_not (fun _ => trivial) (wanted_not (j := 9) (d := 20) (b := false) (b' := true) rfl rfl rfl (by decide)) ?_
      simp only [Act.put, List.setIfInBounds_toArray, List.set_cons_succ, List.set_cons_zero]
      refine wpi_not (fun _ => trivial) (wanted_not (j := 9) (d := 20) (b := false) (b' := true) rfl rfl rfl (by decide)) ?_
      refine wpi_not (fun _ => trivial) (wanted_not (j := 9) (d := 20) (b := false) (b' := true) rfl rfl rfl (by decide)) ?_
      refine wpi_exG (v := .bool true) (fun _ => trivial) (wn rfl) rfl (ex_pick (b := true) rfl rfl rfl) ?_
      refine wpListIn_nil ?_
      simp only [Act.put, List.setIfInBounds_toArray, List.set_cons_succ, List.set_cons_zero]
      refine then_normal (hK3 _ _ ?_)
      clear hK3 K3
      refine wpIn_cond_true rfl ?_
      refine wpIn_seq_k (fun K7 hK7 => ?_)
      refine wpIn_region_lit ?_
      refine wpi_exG (v := .slice none 0 0) (fun _ => trivial) (wn rfl) rfl (ex_assign rfl rfl) ?_
      refine wpi_exG (v := .bool false) (fun _ => trivial) (wn rfl) rfl (ex_assign rfl rfl) ?_
      refine wpListIn_nil ?_
      simp only [Act.put, List.setIfInBounds_toArray, List.set_cons_succ, List.set_cons_zero]
      refine then_normal (hK7 _ _ ?_)
      clear hK7 K7
      refine wpIn_ret ?_
      refine then_ret ?_
      clear hK2 K2
      refine bodyPost_ret (results_tmp2 rfl _ _ _) rfl ?_
      refine .inl ⟨fun h => ?_, _, rfl, hv.tail 0⟩
      have w1 := h.len; have w2 := h.mark; have w3 := h.zeros; have w4 := h.stamp; have w5 := h.n1; have w6 := h.n2; have w7 := h.body
      rw [hc0] at w2; simp only [Option.some.injEq] at w2; subst w2; exact hb6 rfl
    · refine wpi_exG (v := .bool false) (fun _ => trivial) (wanted_of (j := 3) (d := 14) (b := false) rfl rfl rfl) rfl (ex_neq (k := .u8) (m := (c0.toNat : Int)) (n := 82) rfl rfl rfl (decide_eq_false hb6)) ?_
      refine wpi_exG (v := .bool false) (fun _ => trivial) (wn rfl) rfl (ex_pick (b := false) rfl rfl rfl) ?_
      simp only [Act.put, List.setIfInBounds_toArray, List.set_cons_succ, List.set_cons_zero]
      refine wpi_exG (v := .bool false) (fun _ => trivial) (wn rfl) rfl (ex_move rfl rfl) ?_
      refine wpi_exG (v := .slice (some ⟨ab, aoff, none⟩) n cap) (fun _ => trivial) (wanted_of (j := 9) (d := 20) (b := false) rfl rfl rfl) rfl (ex_move rfl rfl) ?_
      refine wpi_exG (v := .slice (some ⟨ab, aoff + 17, none⟩) (64 - 17) (cap - 17)) (fun _ => trivial) (wanted_of (j := 9) (d := 20) (b := false) rfl rfl rfl) rfl (ex_slice (lo' := some (.int .i64 17)) (hi' := some (.int .i64 64)) rfl rfl (congrArg some rfl) (congrArg some rfl) rfl (run_lohi1 Try.underlying24 g2es24 (l := 17) (h := 64) (by omega) (by omega) (by omega))) ?_
      simp only [Act.put, List.setIfInBounds_toArray, List.set_cons_succ, List.set_cons_zero]
      refine wpi_callG g2callable63 (fun _ => trivial) wideC rfl (wanted_of (j := 9) (d := 20) (b := false) rfl rfl rfl) rfl (args := #[.slice (some ⟨ab, aoff + 17, none⟩) (64 - 17) (cap - 17)]) (by simp only [List.map_toArray, List.map_cons, List.map_nil]; rfl) ((logZero _ _ _ _ (64 - 17) _ (piece s (17) (47)) (by rw [piece_length (by omega)] <;> omega) (by omega) (rd_sub (hr.more (Base.Le.refl _) (fun r hr => hr)) (17) (47) (by omega)) hv).mono ?_)
      rintro e w8 ⟨rfl, hv⟩
      refine ⟨_, rfl, ?_⟩
      refine wpi_exG (v := .bool (!(allZ (piece s 17 47)))) (fun _ => trivial) (wanted_of (j := 9) (d := 20) (b := false) rfl rfl rfl) rfl (ex_not rfl rfl rfl) ?_
      refine wpi_exG (v := .bool (!(allZ (piece s 17 47)))) (fun _ => trivial) (wn rfl) rfl (ex_pick (b := false) rfl rfl rfl) ?_
      refine wpListIn_nil ?_
      simp only [Act.put, List.setIfInBounds_toArray, List.set_cons_succ, List.set_cons_zero]
      refine then_normal (hK3 _ _ ?_)
      clear hK3 K3
      refine wpIn_cond_split (t := !(allZ (piece s 17 47))) rfl (fun hc9 => ?_) (fun hc9 => ?_)
      · refine wpIn_seq_k (fun K10 hK10 => ?_)
        refine wpIn_region_lit ?_
        refine wpi_exG (v := .slice none 0 0) (fun _ => trivial) (wn rfl) rfl (ex_assign rfl rfl) ?_
        refine wpi_exG (v := .bool false) (fun _ => trivial) (wn rfl) rfl (ex_assign rfl rfl) ?_
        refine wpListIn_nil ?_
        simp only [Act.put, List.setIfInBounds_toArray, List.set_cons_succ, List.set_cons_zero]
        refine then_normal (hK10 _ _ ?_)
        clear hK10 K10
        refine wpIn_ret ?_
        refine then_ret ?_
        clear hK2 K2
        refine bodyPost_ret (results_tmp2 rfl _ _ _) rfl ?_
        refine .inl ⟨fun h => ?_, _, rfl, hv.tail 0⟩
        have w1 := h.len; have w2 := h.mark; have w3 := h.zeros; have w4 := h.stamp; have w5 := h.n1; have w6 := h.n2; have w7 := h.body
        rw [w3] at hc9; cases hc9
      · refine wpIn_skip ?_
        refine then_normal (hK2 _ _ ?_)
        clear hK2 K2
        refine wpIn_seq_k (fun K11 hK11 => ?_)
        refine wpIn_seq_k (fun K12 hK12 => ?_)
        refine wpIn_region_lit ?_
        refine wpi_exG (v := .slice (some ⟨ab, aoff, none⟩) n cap) (fun _ => trivial) (wn rfl) rfl (ex_move rfl rfl) ?_
        refine wpi_exG (v := .slice (some ⟨ab, aoff + 1, none⟩) (9 - 1) (cap - 1)) (fun _ => trivial) (wn rfl) rfl (ex_slice (lo' := some (.int .i64 1)) (hi' := some (.int .i64 9)) rfl rfl (congrArg some rfl) (congrArg some rfl) rfl (run_lohi1 Try.underlying24 g2es24 (l := 1) (h := 9) (by omega) (by omega) (by omega))) ?_
        refine wpi_callG g2callable64 (fun _ => trivial) wideC rfl (wn rfl) rfl (args := #[.slice (some ⟨ab, aoff + 1, none⟩) (9 - 1) (cap - 1)]) (by simp only [List.map_toArray, List.map_cons, List.map_nil]; rfl) ((logNumber _ _ _ _ (9 - 1) _ (piece s 1 8) (by rw [piece_length (by omega)]) (by omega) (rd_sub (hr.more (Base.Le.refl _) (fun r hr => hr)) (1) (8) (by omega)) hv).mono ?_)
        rintro e w13 ⟨rfl, hv⟩
        refine ⟨_, rfl, ?_⟩
        simp only [Act.put, List.setIfInBounds_toArray, List.set_cons_succ, List.set_cons_zero]
        refine wpi_exG (v := .int .i64 (st : Int)) (fun _ => trivial) (wn rfl) rfl (ex_move rfl rfl) ?_
        refine wpi_exG (v := .int .u64 (st : Int)) (fun _ => trivial) (wn rfl) rfl (ex_int (m := (st : Int)) Try.underlying3 Try.underlying114 rfl rfl (u64_in (by omega))) ?_
        by_cases hb14 : (numOf (piece s 1 8) : Int) ≠ (st : Int)
        · refine wpi_exG (v := .bool true) (fun _ => trivial) (wn rfl) rfl (ex_neq (k := .u64) (m := (numOf (piece s 1 8) : Int)) (n := (st : Int)) rfl rfl rfl (decide_eq_true hb14)) ?_
          refine wpListIn_nil ?_
          simp only [Act.put, List.setIfInBounds_toArray, List.set_cons_succ, List.set_cons_zero]
          refine then_normal (hK12 _ _ ?_)
          clear hK12 K12
          refine wpIn_cond_true rfl ?_
          refine wpIn_seq_k (fun K15 hK15 => ?_)
          refine wpIn_region_lit ?_
          refine wpi_exG (v := .slice none 0 0) (fun _ => trivial) (wn rfl) rfl (ex_assign rfl rfl) ?_
          refine wpi_exG (v := .bool false) (fun _ => trivial) (wn rfl) rfl (ex_assign rfl rfl) ?_
          refine wpListIn_nil ?_
          simp only [Act.put, List.setIfInBounds_toArray, List.set_cons_succ, List.set_cons_zero]
          refine then_normal (hK15 _ _ ?_)
          clear hK15 K15
          refine wpIn_ret ?_
          refine then_ret ?_
          clear hK11 K11
          refine bodyPost_ret (results_tmp2 rfl _ _ _) rfl ?_
          refine .inl ⟨fun h => ?_, _, rfl, hv.tail 0⟩
          have w1 := h.len; have w2 := h.mark; have w3 := h.zeros; have w4 := h.stamp; have w5 := h.n1; have w6 := h.n2; have w7 := h.body
          omega
        · refine wpi_exG (v := .bool false) (fun _ => trivial) (wn rfl) rfl (ex_neq (k := .u64) (m := (numOf (piece s 1 8) : Int)) (n := (st : Int)) rfl rfl rfl (decide_eq_false hb14)) ?_
          refine wpListIn_nil ?_
          simp only [Act.put, List.setIfInBounds_toArray, List.set_cons_succ, List.set_cons_zero]
          refine then_normal (hK12 _ _ ?_)
          clear hK12 K12
          refine wpIn_cond_false rfl ?_
          refine wpIn_skip ?_
          refine then_normal (hK11 _ _ ?_)
          clear hK11 K11
          refine wpIn_seq_k (fun K16 hK16 => ?_)
          refine wpIn_region_lit ?_
          refine wpi_exG (v := .slice (some ⟨ab, aoff, none⟩) n cap) (fun _ => trivial) (wn rfl) rfl (ex_move rfl rfl) ?_
          refine wpi_exG (v := .slice (some ⟨ab, aoff + 9, none⟩) (13 - 9) (cap - 9)) (fun _ => trivial) (wn rfl) rfl (ex_slice (lo' := some (.int .i64 9)) (hi' := some (.int .i64 13)) rfl rfl (congrArg some rfl) (congrArg some rfl) rfl (run_lohi1 Try.underlying24 g2es24 (l := 9) (h := 13) (by omega) (by omega) (by omega))) ?_
          refine wpi_callG g2callable64 (fun _ => trivial) wideC rfl (wn rfl) rfl (args := #[.slice (some ⟨ab, aoff + 9, none⟩) (13 - 9) (cap - 9)]) (by simp only [List.map_toArray, List.map_cons, List.map_nil]; rfl) ((logNumber _ _ _ _ (13 - 9) _ (piece s 9 4) (by rw [piece_length (by omega)]) (by omega) (rd_sub (hr.more (Base.Le.refl _) (fun r hr => hr)) (9) (4) (by omega)) hv).mono ?_)
          rintro e w17 ⟨rfl, hv⟩
          refine ⟨_, rfl, ?_⟩
          simp only [Act.put, List.setIfInBounds_toArray, List.set_cons_succ, List.set_cons_zero]
          refine wpi_exG (v := .int .i64 (rcN s : Int)) (fun _ => trivial) (wn rfl) rfl (ex_int (m := (numOf (piece s 9 4) : Int)) Try.underlying114 Try.underlying3 rfl rfl (by rw [i64_in (by omega)]; exact congrArg _ hN.symm)) ?_
          refine wpi_exG (v := .int .i64 (rcN s : Int)) (fun _ => trivial) (wn rfl) rfl (ex_assign rfl rfl) ?_
          refine wpListIn_nil ?_
          simp only [Act.put, List.setIfInBounds_toArray, List.set_cons_succ, List.set_cons_zero]
          refine then_normal (hK16 _ _ ?_)
          clear hK16 K16
          refine wpIn_seq_k (fun K18 hK18 => ?_)
          refine wpIn_seq_k (fun K19 hK19 => ?_)
          refine wpIn_region_lit ?_
          refine wpi_exG (v := .int .i64 (rcN s : Int)) (fun _ => trivial) (wn rfl) rfl (ex_move rfl rfl) ?_
          by_cases hb20 : (rcN s : Int) > 1048576
          · refine wpi_exG (v := .bool true) (fun _ => trivial) (wn rfl) rfl (ex_gtr (k := .i64) (m := (rcN s : Int)) (n := 1048576) rfl rfl rfl (decide_eq_true hb20)) ?_
            refine wpi_exG (v := .bool true) (fun _ => trivial) (wn rfl) rfl (ex_move rfl rfl) ?_
            simp only [Act.put, List.setIfInBounds_toArray, List.set_cons_succ, List.set_cons_zero]
            refine wpi_not (fun _ => trivial) (wanted_not (j := 2) (d := 38) (b := false) (b' := true) rfl rfl rfl (by decide)) ?_
            refine wpi_not (fun _ => trivial) (wanted_not (j := 2) (d := 38) (b := false) (b' := true) rfl rfl rfl (by decide)) ?_
            refine wpi_not (fun _ => trivial) (wanted_not (j := 2) (d := 38) (b := false) (b' := true) rfl rfl rfl (by decide)) ?_
            simp only [Act.put, List.setIfInBounds_toArray, List.set_cons_succ, List.set_cons_zero]
            refine wpi_not (fun _ => trivial) (wanted_not (j := 2) (d := 38) (b := false) (b' := true) rfl rfl rfl (by decide)) ?_
            refine wpi_not (fun _ => trivial) (wanted_not (j := 2) (d := 38) (b := false) (b' := true) rfl rfl rfl (by decide)) ?_
            refine wpi_not (fun _ => trivial) (wanted_not (j := 2) (d := 38) (b := false) (b' := true) rfl rfl rfl (by decide)) ?_
            simp only [Act.put, List.setIfInBounds_toArray, List.set_cons_succ, List.set_cons_zero]
            refine wpi_exG (v := .bool true) (fun _ => trivial) (wn rfl) rfl (ex_pick (b := true) rfl rfl rfl) ?_
            refine wpListIn_nil ?_
            simp only [Act.put, List.setIfInBounds_toArray, List.set_cons_succ, List.set_cons_zero]
            refine then_normal (hK19 _ _ ?_)
            clear hK19 K19
            refine wpIn_cond_true rfl ?_
            refine wpIn_seq_k (fun K21 hK21 => ?_)
            refine wpIn_region_lit ?_
            refine wpi_exG (v := .slice none 0 0) (fun _ => trivial) (wn rfl) rfl (ex_assign rfl rfl) ?_
            refine wpi_exG (v := .bool false) (fun _ => trivial) (wn rfl) rfl (ex_assign rfl rfl) ?_
            refine wpListIn_nil ?_
            simp only [Act.put, List.setIfInBounds_toArray, List.set_cons_succ, List.set_cons_zero]
            refine then_normal (hK21 _ _ ?_)
            clear hK21 K21
            refine wpIn_ret ?_
            refine then_ret ?_
            clear hK18 K18
            refine bodyPost_ret (results_tmp2 rfl _ _ _) rfl ?_
            refine .inl ⟨fun h => ?_, _, rfl, hv.tail 0⟩
            have w1 := h.len; have w2 := h.mark; have w3 := h.zeros; have w4 := h.stamp; have w5 := h.n1; have w6 := h.n2; have w7 := h.body
            omega
          · refine wpi_exG (v := .bool false) (fun _ => trivial) (wn rfl) rfl (ex_gtr (k := .i64) (m := (rcN s : Int)) (n := 1048576) rfl rfl rfl (decide_eq_false hb20)) ?_
            refine wpi_exG (v := .bool false) (fun _ => trivial) (wn rfl) rfl (ex_move rfl rfl) ?_
            simp only [Act.put, List.setIfInBounds_toArray, List.set_cons_succ, List.set_cons_zero]
            refine wpi_exG (v := .int .i64 (rcN s : Int)) (fun _ => trivial) (wanted_of (j := 2) (d := 38) (b := false) rfl rfl rfl) rfl (ex_move rfl rfl) ?_
            refine wpi_callG g2callable54 (fun _ => trivial) wideC rfl (wanted_of (j := 2) (d := 38) (b := false) rfl rfl rfl) rfl (args := #[.int .i64 (rcN s : Int)]) (by simp only [List.map_toArray, List.map_cons, List.map_nil]; rfl) ((logSectors _ (rcN s) (by omega)).mono ?_)
            rintro e w22 ⟨rfl, rfl⟩
            refine ⟨_, rfl, ?_⟩
            refine wpi_exG (v := .slice (some ⟨ab, aoff, none⟩) n cap) (fun _ => trivial) (wanted_of (j := 2) (d := 38) (b := false) rfl rfl rfl) rfl (ex_move rfl rfl) ?_
            simp only [Act.put, List.setIfInBounds_toArray, List.set_cons_succ, List.set_cons_zero]
            refine wpi_exG (v := .int .i64 (n : Int)) (fun _ => trivial) (wanted_of (j := 2) (d := 38) (b := false) rfl rfl rfl) rfl (ex_len0 Try.underlying24 rfl rfl) ?_
            refine wpi_exG (v := .int .i64 ((n / 64 : Nat) : Int)) (fun _ => trivial) (wanted_of (j := 2) (d := 38) (b := false) rfl rfl rfl) rfl (ex_quo (m := (n : Int)) (n := 64) rfl rfl rfl (by decide) (quo64 n (by omega))) ?_
            by_cases hb23 : (secs (rcN s) : Int) > ((n / 64 : Nat) : Int)
            · refine wpi_exG (v := .bool true) (fun _ => trivial) (wanted_of (j := 2) (d := 38) (b := false) rfl rfl rfl) rfl (ex_gtr (k := .i64) (m := (secs (rcN s) : Int)) (n := ((n / 64 : Nat) : Int)) rfl rfl rfl (decide_eq_true hb23)) ?_
              simp only [Act.put, List.setIfInBounds_toArray, List.set_cons_succ, List.set_cons_zero]
              refine wpi_exG (v := .bool true) (fun _ => trivial) (wn rfl) rfl (ex_pick (b := false) rfl rfl rfl) ?_
              refine wpListIn_nil ?_
              simp only [Act.put, List.setIfInBounds_toArray, List.set_cons_succ, List.set_cons_zero]
              refine then_normal (hK19 _ _ ?_)
              clear hK19 K19
              refine wpIn_cond_true rfl ?_
              refine wpIn_seq_k (fun K24 hK24 => ?_)
              refine wpIn_region_lit ?_
              refine wpi_exG (v := .slice none 0 0) (fun _ => trivial) (wn rfl) rfl (ex_assign rfl rfl) ?_
              refine wpi_exG (v := .bool false) (fun _ => trivial) (wn rfl) rfl (ex_assign rfl rfl) ?_
              refine wpListIn_nil ?_
              simp only [Act.put, List.setIfInBounds_toArray, List.set_cons_succ, List.set_cons_zero]
              refine then_normal (hK24 _ _ ?_)
              clear hK24 K24
              refine wpIn_ret ?_
              refine then_ret ?_
              clear hK18 K18
              refine bodyPost_ret (results_tmp2 rfl _ _ _) rfl ?_
              refine .inl ⟨fun h => ?_, _, rfl, hv.tail 0⟩
              have w1 := h.len; have w2 := h.mark; have w3 := h.zeros; have w4 := h.stamp; have w5 := h.n1; have w6 := h.n2; have w7 := h.body
              omega
            · refine wpi_exG (v := .bool false) (fun _ => trivial) (wanted_of (j := 2) (d := 38) (b := false) rfl rfl rfl) rfl (ex_gtr (k := .i64) (m := (secs (rcN s) : Int)) (n := ((n / 64 : Nat) : Int)) rfl rfl rfl (decide_eq_false hb23)) ?_
              simp only [Act.put, List.setIfInBounds_toArray, List.set_cons_succ, List.set_cons_zero]
              refine wpi_exG (v := .bool false) (fun _ => trivial) (wn rfl) rfl (ex_pick (b := false) rfl rfl rfl) ?_
              refine wpListIn_nil ?_
              simp only [Act.put, List.setIfInBounds_toArray, List.set_cons_succ, List.set_cons_zero]
              refine then_normal (hK19 _ _ ?_)
              clear hK19 K19
              refine wpIn_cond_false rfl ?_
              refine wpIn_skip ?_
              refine then_normal (hK18 _ _ ?_)
              clear hK18 K18
              refine wpIn_seq_k (fun K25 hK25 => ?_)
              refine wpIn_region_lit ?_
              refine wpi_exG (v := .int .i64 (rcN s : Int)) (fun _ => trivial) (wn rfl) rfl (ex_move rfl rfl) ?_
              refine sl_make1 (len := 0) (cap := rcN s) (fun _ => trivial) (wn rfl) rfl rfl rfl Try.underlying24 g2mk5 rfl (by omega) (by unfold maxLen; omega) (by omega) hv (fun b26 w27 hv => ?_)
              refine wpi_exG (v := .slice (some ⟨b26, 0, none⟩) 0 (rcN s)) (fun _ => trivial) (wn rfl) rfl (ex_assign rfl rfl) ?_
              refine wpListIn_nil ?_
              simp only [Act.put, List.setIfInBounds_toArray, List.set_cons_succ, List.set_cons_zero]
              refine then_normal (hK25 _ _ ?_)
              clear hK25 K25
              refine wpIn_seq_k (fun K28 hK28 => ?_)
              refine wpIn_seq_k (fun K29 hK29 => ?_)
              refine wpIn_region_lit ?_
              refine wpi_exG (v := .int .i64 1) (fun _ => trivial) (wn rfl) rfl (ex_assign rfl rfl) ?_
              refine wpListIn_nil ?_
              simp only [Act.put, List.setIfInBounds_toArray, List.set_cons_succ, List.set_cons_zero]
              refine then_normal (hK29 _ _ ?_)
              clear hK29 K29
              refine wpIn_block ?_
              gi_loopw [7, 8] (fun x7 x8 wr => ∃ j : Nat, x7 = .slice (some ⟨b26, 0, none⟩) (rcB s (rcN s) j).length (rcN s) ∧ x8 = .int .i64 ((j + 1 : Nat) : Int) ∧ j + 1 ≤ secs (rcN s) ∧ (∀ k, k < j → s[(k + 1) * 64]? = some 0 ∧ allZ (piece s ((k + 1) * 64 + (1 + rcM (rcN s) k)) (64 - (1 + rcM (rcN s) k))) = true) ∧ Inv B (Res.cell b26 ((rcB s (rcN s) j).map B8 ++ List.replicate (rcN s - (rcB s (rcN s) j).length) (Value.int .u8 0)) 5 :: H) wr) (fun x7 x8 _ => secs (rcN s) - (intOf x8).toNat)
              case atStart => exact ⟨0, rfl, rfl, by omega, (fun k hk => by omega), by simpa [rcB] using hv⟩
              case round =>
                obtain ⟨j, rfl, rfl, hj, hbs, hv⟩ := hrel
                refine wpIn_seq_k (fun K31 hK31 => ?_)
                refine wpIn_seq_k (fun K32 hK32 => ?_)
                refine wpIn_region_lit ?_
                refine wpi_exG (v := .int .i64 ((j + 1 : Nat) : Int)) (fun _ => trivial) (wn rfl) rfl (ex_move rfl rfl) ?_
                refine wpi_exG (v := .int .i64 (rcN s : Int)) (fun _ => trivial) (wn rfl) rfl (ex_move rfl rfl) ?_
                refine wpi_callG g2callable54 (fun _ => trivial) wideC rfl (wn rfl) rfl (args := #[.int .i64 (rcN s : Int)]) (by simp only [List.map_toArray, List.map_cons, List.map_nil]; rfl) ((logSectors _ (rcN s) (by omega)).mono ?_)
                rintro e w33 ⟨rfl, rfl⟩
                refine ⟨_, rfl, ?_⟩
                simp only [Act.put, List.setIfInBounds_toArray, List.set_cons_succ, List.set_cons_zero]
                by_cases hb34 : ((j + 1 : Nat) : Int) < (secs (rcN s) : Int)
                · have hjs : (j + 1) * 64 + 64 ≤ s.length := by omega
                  have hm := rcM_le (rcN s) j
                  have hL := rcB_len (s := s) (n := rcN s) j (by omega)
                  refine wpi_exG (v := .bool true) (fun _ => trivial) (wn rfl) rfl (ex_lss (k := .i64) (m := ((j + 1 : Nat) : Int)) (n := (secs (rcN s) : Int)) rfl rfl rfl (decide_eq_true hb34)) ?_
                  refine wpListIn_nil ?_
                  simp only [Act.put, List.setIfInBounds_toArray, List.set_cons_succ, List.set_cons_zero]
                  refine then_normal (hK32 _ _ ?_)
                  clear hK32 K32
                  refine wpIn_cond_true rfl ?_
                  refine wpIn_skip ?_
                  refine then_normal (hK31 _ _ ?_)
                  clear hK31 K31
                  refine wpIn_seq_k (fun K35 hK35 => ?_)
                  refine wpIn_block ?_
                  refine wpIn_seq_k (fun K36 hK36 => ?_)
                  refine wpIn_region_lit ?_
                  refine wpi_exG (v := .slice (some ⟨ab, aoff, none⟩) n cap) (fun _ => trivial) (wn rfl) rfl (ex_move rfl rfl) ?_
                  refine wpi_exG (v := .int .i64 ((j + 1 : Nat) : Int)) (fun _ => trivial) (wn rfl) rfl (ex_move rfl rfl) ?_
                  refine wpi_exG (v := .int .i64 (((j + 1) * 64 : Nat) : Int)) (fun _ => trivial) (wn rfl) rfl (ex_mul (m := ((j + 1 : Nat) : Int)) (n := 64) rfl rfl rfl (by rw [i64_in (by omega)]; omega)) ?_
                  simp only [Act.put, List.setIfInBounds_toArray, List.set_cons_succ, List.set_cons_zero]
                  refine wpi_exG (v := .int .i64 ((j + 1 : Nat) : Int)) (fun _ => trivial) (wn rfl) rfl (ex_move rfl rfl) ?_
                  refine wpi_exG (v := .int .i64 ((j + 2 : Nat) : Int)) (fun _ => trivial) (wn rfl) rfl (ex_add (m := ((j + 1 : Nat) : Int)) (n := 1) rfl rfl rfl (by rw [i64_in (by omega)]; omega)) ?_
                  refine wpi_exG (v := .int .i64 (((j + 2) * 64 : Nat) : Int)) (fun _ => trivial) (wn rfl) rfl (ex_mul (m := ((j + 2 : Nat) : Int)) (n := 64) rfl rfl rfl (by rw [i64_in (by omega)]; omega)) ?_
                  simp only [Act.put, List.setIfInBounds_toArray, List.set_cons_succ, List.set_cons_zero]
                  refine wpi_exG (v := .slice (some ⟨ab, aoff + ((j + 1) * 64 : Nat), none⟩) (((j + 2) * 64 : Nat) - ((j + 1) * 64 : Nat)) (cap - ((j + 1) * 64 : Nat))) (fun _ => trivial) (wn rfl) rfl (ex_slice (lo' := some (.int .i64 (((j + 1) * 64 : Nat) : Int))) (hi' := some (.int .i64 (((j + 2) * 64 : Nat) : Int))) rfl rfl (congrArg some rfl) (congrArg some rfl) rfl (run_lohi1 Try.underlying24 g2es24 (by omega) (by omega) (by omega))) ?_
                  refine wpi_exG (v := .slice (some ⟨ab, aoff + ((j + 1) * 64 : Nat), none⟩) (((j + 2) * 64 : Nat) - ((j + 1) * 64 : Nat)) (cap - ((j + 1) * 64 : Nat))) (fun _ => trivial) (wn rfl) rfl (ex_assign rfl rfl) ?_
                  refine wpListIn_nil ?_
                  simp only [Act.put, List.setIfInBounds_toArray, List.set_cons_succ, List.set_cons_zero]
                  refine then_normal (hK36 _ _ ?_)
                  clear hK36 K36
                  refine wpIn_seq_k (fun K37 hK37 => ?_)
                  refine wpIn_region_lit ?_
                  refine wpi_exG (v := .int .i64 (rcN s : Int)) (fun _ => trivial) (wn rfl) rfl (ex_move rfl rfl) ?_
                  refine wpi_exG (v := .slice (some ⟨b26, 0, none⟩) ((rcB s (rcN s) j).length) (rcN s)) (fun _ => trivial) (wn rfl) rfl (ex_move rfl rfl) ?_
                  refine wpi_exG (v := .int .i64 (((rcB s (rcN s) j).length) : Int)) (fun _ => trivial) (wn rfl) rfl (ex_len0 Try.underlying24 rfl rfl) ?_
                  simp only [Act.put, List.setIfInBounds_toArray, List.set_cons_succ, List.set_cons_zero]
                  refine wpi_exG (v := .int .i64 ((rcN s : Int) - (((rcB s (rcN s) j).length) : Int))) (fun _ => trivial) (wn rfl) rfl (ex_sub (m := (rcN s : Int)) (n := (((rcB s (rcN s) j).length) : Int)) rfl rfl rfl (i64_in (by omega))) ?_
                  refine wpi_exG (v := .int .i64 (rcM (rcN s) j : Int)) (fun _ => trivial) (wn rfl) rfl (ex_min2 (m := 63) (n := ((rcN s : Int) - (((rcB s (rcN s) j).length) : Int))) rfl rfl rfl (by unfold rcM; split <;> omega)) ?_
                  refine wpi_exG (v := .int .i64 (rcM (rcN s) j : Int)) (fun _ => trivial) (wn rfl) rfl (ex_assign rfl rfl) ?_
                  refine wpListIn_nil ?_
                  simp only [Act.put, List.setIfInBounds_toArray, List.set_cons_succ, List.set_cons_zero]
                  refine then_normal (hK37 _ _ ?_)
                  clear hK37 K37
                  refine wpIn_seq_k (fun K38 hK38 => ?_)
                  refine wpIn_seq_k (fun K39 hK39 => ?_)
                  refine wpIn_region_lit ?_
                  refine wpi_exG (v := .slice (some ⟨ab, aoff + ((j + 1) * 64 : Nat), none⟩) (((j + 2) * 64 : Nat) - ((j + 1) * 64 : Nat)) (cap - ((j + 1) * 64 : Nat))) (fun _ => trivial) (wn rfl) rfl (ex_move rfl rfl) ?_
                  refine wpi_exG (v := .pointer (some ⟨ab, aoff + ((j + 1) * 64 : Nat) + 0, none⟩)) (fun _ => trivial) (wn rfl) rfl (ex_index rfl rfl rfl (run_idx1 (k := 0) Try.underlying24 g2es24 (by omega))) ?_
                  have hkk : (j + 1) * 64 < s.length := by omega
                  obtain ⟨cj, hcj⟩ : ∃ c, s[(j + 1) * 64]? = some c := ⟨_, List.getElem?_eq_getElem hkk⟩
                  have hcjc := hcj
                  rw [List.getElem?_eq_getElem hkk, Option.some.injEq] at hcjc
                  obtain ⟨_, _, ee, hcellcj⟩ := (hr.more (Base.Le.refl _) (fun r hr => List.mem_cons_of_mem _ (hr))).cellAt hv ((j + 1) * 64) (by rw [List.length_map]; exact hkk)
                  simp only [Option.some.injEq, Addr.mk.injEq, and_true] at ee; obtain ⟨rfl, rfl⟩ := ee
                  rw [List.getElem_map, hcjc] at hcellcj
                  refine wpi_exG (v := .int .u8 (cj.toNat : Int)) (fun _ => trivial) (wn rfl) rfl (ex_load rfl rfl (run_load1 g2na5 hcellcj)) ?_
                  simp only [Act.put, List.setIfInBounds_toArray, List.set_cons_succ, List.set_cons_zero]
                  by_cases hb40 : (cj.toNat : Int) ≠ 0
                  · skip
                    refine wpi_exG (v := .bool true) (fun _ => trivial) (wn rfl) rfl (ex_neq (k := .u8) (m := (cj.toNat : Int)) (n := 0) rfl rfl rfl (decide_eq_true hb40)) ?_
                    refine wpi_exG (v := .bool true) (fun _ => trivial) (wn rfl) rfl (ex_move rfl rfl) ?_
                    refine wpi_not (fun _ => trivial) (wanted_not (j := 4) (d := 70) (b := false) (b' := true) rfl rfl rfl (by decide)) ?_
                    simp only [Act.put, List.setIfInBounds_toArray, List.set_cons_succ, List.set_cons_zero]
                    refine wpi_not (fun _ => trivial) (wanted_not (j := 4) (d := 70) (b := false) (b' := true) rfl rfl rfl (by decide)) ?_
                    refine wpi_not (fun _ => trivial) (wanted_not (j := 4) (d := 70) (b := false) (b' := true) rfl rfl rfl (by decide)) ?_
                    refine wpi_not (fun _ => trivial) (wanted_not (j := 4) (d := 70) (b := false) (b' := true) rfl rfl rfl (by decide)) ?_
                    simp only [Act.put, List.setIfInBounds_toArray, List.set_cons_succ, List.set_cons_zero]
                    refine wpi_not (fun _ => trivial) (wanted_not (j := 4) (d := 70) (b := false) (b' := true) rfl rfl rfl (by decide)) ?_
                    refine wpi_not (fun _ => trivial) (wanted_not (j := 4) (d := 70) (b := false) (b' := true) rfl rfl rfl (by decide)) ?_
                    refine wpi_exG (v := .bool true) (fun _ => trivial) (wn rfl) rfl (ex_pick (b := true) rfl rfl rfl) ?_
                    refine wpListIn_nil ?_
                    simp only [Act.put, List.setIfInBounds_toArray, List.set_cons_succ, List.set_cons_zero]
                    refine then_normal (hK39 _ _ ?_)
                    clear hK39 K39
                    refine wpIn_cond_true rfl ?_
                    refine wpIn_seq_k (fun K41 hK41 => ?_)
                    refine wpIn_region_lit ?_
                    refine wpi_exG (v := .slice none 0 0) (fun _ => trivial) (wn rfl) rfl (ex_assign rfl rfl) ?_
                    refine wpi_exG (v := .bool false) (fun _ => trivial) (wn rfl) rfl (ex_assign rfl rfl) ?_
                    refine wpListIn_nil ?_
                    simp only [Act.put, List.setIfInBounds_toArray, List.set_cons_succ, List.set_cons_zero]
                    refine then_normal (hK41 _ _ ?_)
                    clear hK41 K41
                    refine wpIn_ret ?_
                    refine then_ret ?_
                    clear hK38 K38
                    refine blk_ret ?_
                    refine then_ret ?_
                    clear hK35 K35
                    refine then_ret ?_
                    refine blk_ret ?_
                    refine then_ret ?_
                    clear hK28 K28
                    refine bodyPost_ret (results_tmp2 rfl _ _ _) rfl ?_
                    refine .inl ⟨fun h => ?_, _, rfl, hv.tail 1⟩
                    have w1 := h.len; have w2 := h.mark; have w3 := h.zeros; have w4 := h.stamp; have w5 := h.n1; have w6 := h.n2; have w7 := h.body
                    have := (w7 j (by omega)).1; rw [hcj] at this; simp only [Option.some.injEq] at this; subst this; exact hb40 rfl
                  · refine wpi_exG (v := .bool false) (fun _ => trivial) (wn rfl) rfl (ex_neq (k := .u8) (m := (cj.toNat : Int)) (n := 0) rfl rfl rfl (decide_eq_false hb40)) ?_
                    refine wpi_exG (v := .bool false) (fun _ => trivial) (wn rfl) rfl (ex_move rfl rfl) ?_
                    refine wpi_exG (v := .slice (some ⟨ab, aoff + ((j + 1) * 64 : Nat), none⟩) (((j + 2) * 64 : Nat) - ((j + 1) * 64 : Nat)) (cap - ((j + 1) * 64 : Nat))) (fun _ => trivial) (wanted_of (j := 4) (d := 70) (b := false) rfl rfl rfl) rfl (ex_move rfl rfl) ?_
                    simp only [Act.put, List.setIfInBounds_toArray, List.set_cons_succ, List.set_cons_zero]
                    refine wpi_exG (v := .int .i64 (rcM (rcN s) j : Int)) (fun _ => trivial) (wanted_of (j := 4) (d := 70) (b := false) rfl rfl rfl) rfl (ex_move rfl rfl) ?_
                    refine wpi_exG (v := .int .i64 ((1 + rcM (rcN s) j : Nat) : Int)) (fun _ => trivial) (wanted_of (j := 4) (d := 70) (b := false) rfl rfl rfl) rfl (ex_add (m := 1) (n := (rcM (rcN s) j : Int)) rfl rfl rfl (by rw [i64_in (by omega)]; omega)) ?_
                    obtain ⟨za, hzs, hza, hzok⟩ := slice_from (ab := ab) (off := aoff + (j + 1) * 64) (len := (j + 2) * 64 - (j + 1) * 64) (cap := cap - (j + 1) * 64) (lo := 1 + rcM (rcN s) j) (by omega) (by omega) (by have := hok.max; omega)
                    have zrd : RdV B (Res.cell b26 ((rcB s (rcN s) j).map B8 ++ List.replicate (rcN s - (rcB s (rcN s) j).length) (Value.int .u8 0)) 5 :: H) za ((piece s ((j + 1) * 64 + (1 + rcM (rcN s) j)) (64 - (1 + rcM (rcN s) j))).map B8) := by
                      by_cases hz : 1 + rcM (rcN s) j < cap - (j + 1) * 64
                      · rw [hza hz, Nat.add_assoc]; exact rd_sub (hr.more (Base.Le.refl _) (fun r hr => List.mem_cons_of_mem _ (hr))) _ _ (by omega)
                      · have e0 : 64 - (1 + rcM (rcN s) j) = 0 := by have := hok.le; omega
                        rw [e0]; exact rdV_nil
                    refine wpi_exG (v := .slice za ((j + 2) * 64 - (j + 1) * 64 - (1 + rcM (rcN s) j)) (cap - (j + 1) * 64 - (1 + rcM (rcN s) j))) (fun _ => trivial) (wanted_of (j := 4) (d := 70) (b := false) rfl rfl rfl) rfl (ex_slice (lo' := some (.int .i64 ((1 + rcM (rcN s) j : Nat) : Int))) rfl rfl rfl rfl rfl (hzs _)) ?_
                    simp only [Act.put, List.setIfInBounds_toArray, List.set_cons_succ, List.set_cons_zero]
                    refine wpi_callG g2callable63 (fun _ => trivial) wideC rfl (wanted_of (j := 4) (d := 70) (b := false) rfl rfl rfl) rfl (args := #[.slice za ((j + 2) * 64 - (j + 1) * 64 - (1 + rcM (rcN s) j)) (cap - (j + 1) * 64 - (1 + rcM (rcN s) j))]) (by simp only [List.map_toArray, List.map_cons, List.map_nil]; rfl) ((logZero _ _ _ _ ((j + 2) * 64 - (j + 1) * 64 - (1 + rcM (rcN s) j)) _ (piece s ((j + 1) * 64 + (1 + rcM (rcN s) j)) (64 - (1 + rcM (rcN s) j))) (by rw [piece_length (by omega)] <;> omega) (by omega) (zrd) hv).mono ?_)
                    rintro e w42 ⟨rfl, hv⟩
                    refine ⟨_, rfl, ?_⟩
                    refine wpi_exG (v := .bool (!(allZ (piece s ((j + 1) * 64 + (1 + rcM (rcN s) j)) (64 - (1 + rcM (rcN s) j)))))) (fun _ => trivial) (wanted_of (j := 4) (d := 70) (b := false) rfl rfl rfl) rfl (ex_not rfl rfl rfl) ?_
                    refine wpi_exG (v := .bool (!(allZ (piece s ((j + 1) * 64 + (1 + rcM (rcN s) j)) (64 - (1 + rcM (rcN s) j)))))) (fun _ => trivial) (wn rfl) rfl (ex_pick (b := false) rfl rfl rfl) ?_
                    refine wpListIn_nil ?_
                    simp only [Act.put, List.setIfInBounds_toArray, List.set_cons_succ, List.set_cons_zero]
                    refine then_normal (hK39 _ _ ?_)
                    clear hK39 K39
                    refine wpIn_cond_split (t := !(allZ (piece s ((j + 1) * 64 + (1 + rcM (rcN s) j)) (64 - (1 + rcM (rcN s) j))))) rfl (fun hc43 => ?_) (fun hc43 => ?_)
                    · refine wpIn_seq_k (fun K44 hK44 => ?_)
                      refine wpIn_region_lit ?_
                      refine wpi_exG (v := .slice none 0 0) (fun _ => trivial) (wn rfl) rfl (ex_assign rfl rfl) ?_
                      refine wpi_exG (v := .bool false) (fun _ => trivial) (wn rfl) rfl (ex_assign rfl rfl) ?_
                      refine wpListIn_nil ?_
                      simp only [Act.put, List.setIfInBounds_toArray, List.set_cons_succ, List.set_cons_zero]
                      refine then_normal (hK44 _ _ ?_)
                      clear hK44 K44
                      refine wpIn_ret ?_
                      refine then_ret ?_
                      clear hK38 K38
                      refine blk_ret ?_
                      refine then_ret ?_
                      clear hK35 K35
                      refine then_ret ?_
                      refine blk_ret ?_
                      refine then_ret ?_
                      clear hK28 K28
                      refine bodyPost_ret (results_tmp2 rfl _ _ _) rfl ?_
                      refine .inl ⟨fun h => ?_, _, rfl, hv.tail 1⟩
                      have w1 := h.len; have w2 := h.mark; have w3 := h.zeros; have w4 := h.stamp; have w5 := h.n1; have w6 := h.n2; have w7 := h.body
                      rw [(w7 j (by omega)).2] at hc43; cases hc43
                    · refine wpIn_skip ?_
                      refine then_normal (hK38 _ _ ?_)
                      clear hK38 K38
                      refine wpIn_region_lit ?_
                      refine wpi_exG (v := .slice (some ⟨b26, 0, none⟩) ((rcB s (rcN s) j).length) (rcN s)) (fun _ => trivial) (wn rfl) rfl (ex_move rfl rfl) ?_
                      refine wpi_exG (v := .slice (some ⟨ab, aoff + ((j + 1) * 64 : Nat), none⟩) (((j + 2) * 64 : Nat) - ((j + 1) * 64 : Nat)) (cap - ((j + 1) * 64 : Nat))) (fun _ => trivial) (wn rfl) rfl (ex_move rfl rfl) ?_
                      refine wpi_exG (v := .int .i64 (rcM (rcN s) j : Int)) (fun _ => trivial) (wn rfl) rfl (ex_move rfl rfl) ?_
                      simp only [Act.put, List.setIfInBounds_toArray, List.set_cons_succ, List.set_cons_zero]
                      refine wpi_exG (v := .int .i64 ((1 + rcM (rcN s) j : Nat) : Int)) (fun _ => trivial) (wn rfl) rfl (ex_add (m := 1) (n := (rcM (rcN s) j : Int)) rfl rfl rfl (by rw [i64_in (by omega)]; omega)) ?_
                      refine wpi_exG (v := .slice (some ⟨ab, aoff + ((j + 1) * 64 : Nat) + 1, none⟩) ((1 + rcM (rcN s) j : Nat) - 1) (cap - ((j + 1) * 64 : Nat) - 1)) (fun _ => trivial) (wn rfl) rfl (ex_slice (lo' := some (.int .i64 1)) (hi' := some (.int .i64 ((1 + rcM (rcN s) j : Nat) : Int))) rfl rfl (congrArg some rfl) (congrArg some rfl) rfl (run_lohi1 Try.underlying24 g2es24 (l := 1) (h := 1 + rcM (rcN s) j) (by omega) (by omega) (by omega))) ?_
                      refine wpi_exG (v := .slice (some ⟨b26, 0, none⟩) (rcB s (rcN s) (j + 1)).length (rcN s)) (fun _ => trivial) (wn rfl) rfl (rc_room hjs (by omega) rfl rfl rfl (hv.get 0 rfl) ((rd_sub (hr.more (Base.Le.refl _) (fun r hr => List.mem_cons_of_mem _ (hr))) ((j + 1) * 64 + 1) (rcM (rcN s) j) (by omega)).src hv)) ?_
                      replace hv := hv.putAt 0 rfl ((rcB s (rcN s) (j + 1)).map B8 ++ List.replicate (rcN s - (rcB s (rcN s) (j + 1)).length) (Value.int .u8 0))
                      simp only [List.set_cons_succ, List.set_cons_zero] at hv
                      simp only [Act.put, List.setIfInBounds_toArray, List.set_cons_succ, List.set_cons_zero]
                      refine wpi_exG (v := .slice (some ⟨b26, 0, none⟩) ((rcB s (rcN s) (j + 1)).length) (rcN s)) (fun _ => trivial) (wn rfl) rfl (ex_assign rfl rfl) ?_
                      refine wpListIn_nil ?_
                      simp only [Act.put, List.setIfInBounds_toArray, List.set_cons_succ, List.set_cons_zero]
                      refine blk_normal ?_
                      refine then_normal (hK35 _ _ ?_)
                      clear hK35 K35
                      refine wpIn_region_lit ?_
                      refine wpi_exG (v := .int .i64 ((j + 1 : Nat) : Int)) (fun _ => trivial) (wn rfl) rfl (ex_move rfl rfl) ?_
                      refine wpi_exG (v := .int .i64 ((j + 1 + 1 : Nat) : Int)) (fun _ => trivial) (wn rfl) rfl (ex_add (m := ((j + 1 : Nat) : Int)) (n := 1) rfl rfl rfl (by rw [i64_in (by omega)]; omega)) ?_
                      refine wpi_exG (v := .int .i64 ((j + 1 + 1 : Nat) : Int)) (fun _ => trivial) (wn rfl) rfl (ex_assign rfl rfl) ?_
                      refine wpListIn_nil ?_
                      simp only [Act.put, List.setIfInBounds_toArray, List.set_cons_succ, List.set_cons_zero]
                      refine then_normal ?_
                      go_roundw
                      case rel => 
                        have hj0 : s[(j + 1) * 64]? = some 0 := by
                          rw [hcj]; congr 1; apply UInt8.toNat_inj.1; show cj.toNat = 0; omega
                        have hjz : allZ (piece s ((j + 1) * 64 + (1 + rcM (rcN s) j)) (64 - (1 + rcM (rcN s) j))) = true := by simpa using hc43
                        exact ⟨j + 1, rfl, rfl, by omega, (fun k hk => by
                          by_cases e : k = j
                          · subst e; exact ⟨hj0, hjz⟩
                          · exact hbs k (by omega)), hv⟩
                      case measure => show secs (rcN s) - ((j + 1 + 1 : Nat) : Int).toNat < secs (rcN s) - ((j + 1 : Nat) : Int).toNat; omega
                · refine wpi_exG (v := .bool false) (fun _ => trivial) (wn rfl) rfl (ex_lss (k := .i64) (m := ((j + 1 : Nat) : Int)) (n := (secs (rcN s) : Int)) rfl rfl rfl (decide_eq_false hb34)) ?_
                  obtain rfl : j = secs (rcN s) - 1 := by omega
                  have hfin : (rcB s (rcN s) (secs (rcN s) - 1)).length = rcN s := by
                    rw [rcB_len _ (by rw [Nat.sub_add_cancel hsp]; omega)]
                    have := secs_all (rcN s); omega
                  rw [hfin] at hv ⊢
                  rw [Nat.sub_self, List.replicate_zero, List.append_nil] at hv
                  refine wpListIn_nil ?_
                  simp only [Act.put, List.setIfInBounds_toArray, List.set_cons_succ, List.set_cons_zero]
                  refine then_normal (hK32 _ _ ?_)
                  clear hK32 K32
                  refine wpIn_cond_false rfl ?_
                  refine wpIn_exit ?_
                  refine then_exit ?_
                  clear hK31 K31
                  refine then_exit ?_
                  refine blk_hit ?_
                  refine then_normal (hK28 _ _ ?_)
                  clear hK28 K28
                  refine wpIn_seq_k (fun K45 hK45 => ?_)
                  refine region_st mixed [.slice (some ⟨b26, 0, none⟩) (rcN s) (rcN s), .slice (some ⟨b26, 0, none⟩) (rcN s) (rcN s), undef, undef, .int .u64 (Crc.sum (rcB s (rcN s) (secs (rcN s) - 1)) : Int), .slice (some ⟨ab, aoff, none⟩) n cap, .slice (some ⟨ab, aoff + 13, none⟩) (17 - 13) (cap - 13), undef, .bool (decide ((Crc.sum (rcB s (rcN s) (secs (rcN s) - 1)) : Int) = (numOf (piece s 13 4) : Int))), .slice (some ⟨b26, 0, none⟩) (rcN s) (rcN s), .bool (decide ((Crc.sum (rcB s (rcN s) (secs (rcN s) - 1)) : Int) = (numOf (piece s 13 4) : Int)))] [2, 3, 7] [⟨fun vals w => vals = [] ∧ Inv B (Res.cell b26 ((rcB s (rcN s) (secs (rcN s) - 1)).map B8) 5 :: H) w, fun _ _ _ ⟨h, hi⟩ he => ⟨h, hi.ext he⟩⟩, ⟨fun vals w => ∃ b46, vals = [.slice (some ⟨b46, 0, none⟩) 1 1] ∧ Inv B (Res.cell b46 [.slice (some ⟨b26, 0, none⟩) (rcN s) (rcN s)] 24 :: Res.cell b26 ((rcB s (rcN s) (secs (rcN s) - 1)).map B8) 5 :: H) w, fun _ _ _ ⟨b46, h, hi⟩ he => ⟨b46, h, hi.ext he⟩⟩, ⟨fun vals w => ∃ b46, vals = [.slice (some ⟨b46, 0, none⟩) 1 1, .int .u32 (Crc.sum (rcB s (rcN s) (secs (rcN s) - 1)) : Int)] ∧ Inv B (Res.cell b46 [.slice (some ⟨b26, 0, none⟩) (rcN s) (rcN s)] 24 :: Res.cell b26 ((rcB s (rcN s) (secs (rcN s) - 1)).map B8) 5 :: H) w, fun _ _ _ ⟨b46, h, hi⟩ he => ⟨b46, h, hi.ext he⟩⟩, ⟨fun vals w => ∃ b46, vals = [.slice (some ⟨b46, 0, none⟩) 1 1, .int .u32 (Crc.sum (rcB s (rcN s) (secs (rcN s) - 1)) : Int), .int .u64 (numOf (piece s 13 4) : Int)] ∧ Inv B (Res.cell b46 [.slice (some ⟨b26, 0, none⟩) (rcN s) (rcN s)] 24 :: Res.cell b26 ((rcB s (rcN s) (secs (rcN s) - 1)).map B8) 5 :: H) w, fun _ _ _ ⟨b46, h, hi⟩ he => ⟨b46, h, hi.ext he⟩⟩] 93 rfl (by kernel_rfl) ⟨rfl, hv⟩ ⟨?_, ?_, ?_, ?_, ?_, ?_, ?_, ?_, ?_, ?_, ?_, trivial⟩ ?_
                  · intro aa ww vals hJ hR
                    exact add_step' rfl (Ex.adds' (ex_move rfl (show aa.eval (.tmp 7) = _ from hR.keep 7 rfl)) (wn rfl) rfl)
                  · intro aa ww vals hJ hR
                    exact add_step' rfl (Ex.adds' (ex_move rfl (show aa.eval (.tmp 7) = _ from hR.keep 7 rfl)) (wn rfl) rfl)
                  · intro aa ww vals hJ hR
                    refine mem_step' rfl fun hvl => ?_
                    have hl : vals.length = 0 := hvl
                    obtain ⟨hvals, hv⟩ := hJ.at0 hl
                    refine mem_row1 (v := .slice (some ⟨b26, 0, none⟩) (rcN s) (rcN s)) (wn rfl) rfl (show aa.eval (.tmp 85) = _ from hR.v 1 85 rfl rfl rfl rfl) hv g2el22 rfl (fun b46 w47 hv => ?_)
                    exact JS.next hl ⟨b46, by rw [hvals]; rfl, hv⟩
                  · intro aa ww vals hJ hR
                    refine mem_step' rfl fun hvl => ?_
                    have hl : vals.length = 1 := hvl
                    obtain ⟨b46, hvals, hv⟩ := hJ.at0 hl
                    refine stepMem_calls g2callable15 (wn rfl) rfl (args := #[.slice (some ⟨b46, 0, none⟩) 1 1]) (by simp only [List.map_toArray, List.map_cons, List.map_nil]; rw [show aa.eval (.tmp 86) = .slice (some ⟨b46, 0, none⟩) 1 1 from (hR.val 2 86 rfl rfl rfl).trans (by rw [hvals]; rfl)] <;> rfl) ((crcSumSl _ _ _ _ _ _ _ (rcB s (rcN s) (secs (rcN s) - 1)) 0 hv rfl (rdV_cell 0 (List.mem_of_getElem? (show ((Res.cell b46 [.slice (some ⟨b26, 0, none⟩) (rcN s) (rcN s)] 24 :: Res.cell b26 ((rcB s (rcN s) (secs (rcN s) - 1)).map B8) 5 :: H))[1]? = some (Res.cell b26 ((rcB s (rcN s) (secs (rcN s) - 1)).map B8) 5) from rfl)) (fun i hi => by rw [Nat.zero_add]; exact List.getElem?_eq_getElem hi)) hfin ⟨Nat.le_refl _, by unfold maxLen; omega, fun h => by cases h⟩).mono ?_)
                    rintro e w48 ⟨rfl, hv⟩
                    refine ⟨_, rfl, JS.next hl ⟨b46, by rw [hvals]; rfl, hv⟩⟩
                  · intro aa ww vals hJ hR
                    have h1 : 1 < vals.length := hR.lo 3 (by simp) rfl
                    have h2 : vals.length ≤ 3 := JS.le (by rfl) hJ
                    rcases (show vals.length = 2 ∨ vals.length = 3 by omega) with hl | hl
                    · obtain ⟨b46, hvals, hv⟩ := hJ.at0 hl
                      exact add_step' rfl (Ex.adds' (ex_int (m := (Crc.sum (rcB s (rcN s) (secs (rcN s) - 1)) : Int)) Try.underlying25 Try.underlying114 rfl (show aa.eval (.tmp 87) = _ from (hR.val 3 87 rfl rfl rfl).trans (by rw [hvals]; rfl)) (u64_in (by omega))) (wn rfl) rfl)
                    · obtain ⟨b46, hvals, hv⟩ := hJ.at0 hl
                      exact add_step' rfl (Ex.adds' (ex_int (m := (Crc.sum (rcB s (rcN s) (secs (rcN s) - 1)) : Int)) Try.underlying25 Try.underlying114 rfl (show aa.eval (.tmp 87) = _ from (hR.val 3 87 rfl rfl rfl).trans (by rw [hvals]; rfl)) (u64_in (by omega))) (wn rfl) rfl)
                  · intro aa ww vals hJ hR
                    exact add_step' rfl (Ex.adds' (ex_move rfl (show aa.eval (.tmp 0) = _ from hR.keep 0 rfl)) (wn rfl) rfl)
                  · intro aa ww vals hJ hR
                    exact add_step' rfl (Ex.adds' (ex_slice (lo' := some (.int .i64 13)) (hi' := some (.int .i64 17)) rfl (show aa.eval (.tmp 89) = _ from hR.v 5 89 rfl rfl rfl rfl) (congrArg some rfl) (congrArg some rfl) rfl (run_lohi1 Try.underlying24 g2es24 (l := 13) (h := 17) (by omega) (by omega) (by omega))) (wn rfl) rfl)
                  · intro aa ww vals hJ hR
                    refine mem_step' rfl fun hvl => ?_
                    have hl : vals.length = 2 := hvl
                    obtain ⟨b46, hvals, hv⟩ := hJ.at0 hl
                    refine stepMem_calls g2callable64 (wn rfl) rfl (args := #[.slice (some ⟨ab, aoff + 13, none⟩) (17 - 13) (cap - 13)]) (by simp only [List.map_toArray, List.map_cons, List.map_nil]; rw [show aa.eval (.tmp 90) = .slice (some ⟨ab, aoff + 13, none⟩) (17 - 13) (cap - 13) from hR.v 6 90 rfl rfl rfl rfl] <;> rfl) ((logNumber _ _ _ _ (17 - 13) _ (piece s 13 4) (by rw [piece_length (by omega)]) (by omega) (rd_sub (hr.more (Base.Le.refl _) (fun r hr => List.mem_cons_of_mem _ (List.mem_cons_of_mem _ (hr)))) (13) (4) (by omega)) hv).mono ?_)
                    rintro e w49 ⟨rfl, hv⟩
                    refine ⟨_, rfl, JS.next hl ⟨b46, by rw [hvals]; rfl, hv⟩⟩
                  · intro aa ww vals hJ hR
                    have h1 : 2 < vals.length := hR.lo 7 (by simp) rfl
                    have hl : vals.length = 3 := by have := JS.le (n := 3) (by rfl) hJ; omega
                    obtain ⟨b46, hvals, hv⟩ := hJ.at0 hl
                    exact add_step' rfl (Ex.adds' (ex_eql (k := .u64) (m := (Crc.sum (rcB s (rcN s) (secs (rcN s) - 1)) : Int)) (n := (numOf (piece s 13 4) : Int)) rfl (show aa.eval (.tmp 88) = _ from hR.v 4 88 rfl rfl rfl rfl) (show aa.eval (.tmp 91) = _ from (hR.val 7 91 rfl rfl rfl).trans (by rw [hvals]; rfl)) rfl) (wn rfl) rfl)
                  · intro aa ww vals hJ hR
                    exact add_step' rfl (Ex.adds' (ex_assign rfl (show aa.eval (.tmp 84) = _ from hR.v 0 84 rfl rfl rfl rfl)) (wn rfl) rfl)
                  · intro aa ww vals hJ hR
                    exact add_step' rfl (Ex.adds' (ex_assign rfl (show aa.eval (.tmp 92) = _ from hR.v 8 92 rfl rfl rfl rfl)) (wn rfl) rfl)
                  rintro w50 vals ⟨b46, rfl, hv⟩
                  rw [show mixV [2, 3, 7] [.slice (some ⟨b46, 0, none⟩) 1 1, .int .u32 (Crc.sum (rcB s (rcN s) (secs (rcN s) - 1)) : Int), .int .u64 (numOf (piece s 13 4) : Int)] 0 [.slice (some ⟨b26, 0, none⟩) (rcN s) (rcN s), .slice (some ⟨b26, 0, none⟩) (rcN s) (rcN s), undef, undef, .int .u64 (Crc.sum (rcB s (rcN s) (secs (rcN s) - 1)) : Int), .slice (some ⟨ab, aoff, none⟩) n cap, .slice (some ⟨ab, aoff + 13, none⟩) (17 - 13) (cap - 13), undef, .bool (decide ((Crc.sum (rcB s (rcN s) (secs (rcN s) - 1)) : Int) = (numOf (piece s 13 4) : Int))), .slice (some ⟨b26, 0, none⟩) (rcN s) (rcN s), .bool (decide ((Crc.sum (rcB s (rcN s) (secs (rcN s) - 1)) : Int) = (numOf (piece s 13 4) : Int)))] = [.slice (some ⟨b26, 0, none⟩) (rcN s) (rcN s), .slice (some ⟨b26, 0, none⟩) (rcN s) (rcN s), .slice (some ⟨b46, 0, none⟩) 1 1, .int .u32 (Crc.sum (rcB s (rcN s) (secs (rcN s) - 1)) : Int), .int .u64 (Crc.sum (rcB s (rcN s) (secs (rcN s) - 1)) : Int), .slice (some ⟨ab, aoff, none⟩) n cap, .slice (some ⟨ab, aoff + 13, none⟩) (17 - 13) (cap - 13), .int .u64 (numOf (piece s 13 4) : Int), .bool (decide ((Crc.sum (rcB s (rcN s) (secs (rcN s) - 1)) : Int) = (numOf (piece s 13 4) : Int))), .slice (some ⟨b26, 0, none⟩) (rcN s) (rcN s), .bool (decide ((Crc.sum (rcB s (rcN s) (secs (rcN s) - 1)) : Int) = (numOf (piece s 13 4) : Int)))] from rfl]
                  simp only [putAll, Act.put, List.setIfInBounds_toArray, List.set_cons_succ, List.set_cons_zero]
                  refine then_normal (hK45 _ _ ?_)
                  clear hK45 K45
                  refine wpIn_ret ?_
                  refine bodyPost_ret (results_tmp2 rfl _ _ _) rfl ?_
                  have hmk : s[0]? = some 82 := by
                    rw [hc0]; congr 1; apply UInt8.toNat_inj.1; show c0.toNat = 82; omega
                  have hzz : allZ (piece s 17 47) = true := by simpa using hc9
                  by_cases hsum : Crc.sum (rcB s (rcN s) (secs (rcN s) - 1)) = numOf (piece s 13 4)
                  · rw [decide_eq_true (by omega)]
                    exact .inr ⟨⟨by omega, hmk, hzz, by omega, by omega, by omega, (fun i hi => hbs i (by omega)), hsum⟩, _, rfl, ((hv.front 1 rfl).sub (List.Sublist.cons_cons _ (List.Sublist.cons _ (List.Sublist.refl _))))⟩
                  · rw [decide_eq_false (by omega)]
                    exact .inl ⟨fun h => hsum h.sum, _, rfl, hv.tail 2⟩
end Go.Proofs.Ytkannfkjnohdlaa
/- A row of one struct. -/
namespace Go.Pm
open Go.RowKit
section
variable {F : Fence} {n : Nat} {P : Program} {ops : Array Oper} {Q : Exit → Act → World → Prop} {a : Act} {w : World} {rest : List Oper} {o : Oper} {zv : Value} {B : Base} {H : List Res} {t e : TypeId} {x : Operand} {bytes k : Nat} {L : List Value}
theorem sl_rowAgg (hF : ∀ f, F.fn f) (hg : Region.wanted o (yielded ops a.tmps) = true) (ho : o.op = .buildSlice t 1 #[(0, x)]) (hx : a.eval x = .agg L.toArray) (hv : Inv B H w) (E : Elem P t e zv k bytes) (hL : L.length = k) (hk : k * 1 ≤ 16777216)
    (h : ∀ b w', Inv B (Res.cell b L e :: H) w' → wpListIn F n P ops Q rest (a.put o.dst (.slice (some ⟨b, 0, none⟩) 1 1)) w') : wpListIn F n P ops Q (o :: rest) a w :=
  wpi_exG hF hg (by unfold isDefer; rw [ho]) (ex_row1 ho hx (run_row1 E L hL hk)) (h _ _ (hv.alloc L e))
end
section
variable {P : Program} {ops : Array Oper} {Q : Exit → Act → World → Prop} {J : List Value → World → Prop} {a : Act} {w : World} {o : Oper} {v : Value} {vals : List Value} {B : Base} {H : List Res} {t e : TypeId} {x y : Operand}
/-- append to the first row, in a region that draws -/
theorem mem_append {ad : Option Addr} {m c k size bytes : Nat} {zv : Value} {xs news : List Value} (hg : Region.wanted o (yielded ops a.tmps) = true) (ho : o.op = .call { callee := .builtin .append, args := #[x, y], argTypes := #[t, t] }) (hx : a.eval x = v) (hy : a.eval y = .slice ad m c) (E : Elem P t e zv size bytes)
    (hv : Inv B (Res.row e size v k xs :: H) w) (hok : SliceOk ad m c) (hl : news.length = m * size) (hsrc : Src w ad news) (h1 : ∀ u ∈ news, u.oneCell' = true) (h63 : k + m ≤ maxLen) (hbytes : (k + m) * bytes ≤ 140737488355328)
    (h : ∀ v' w', Inv B (Res.row e size v' (k + m) (xs ++ news) :: H) w' → J (vals ++ [v']) w') : StepMem P ops J Q o a w vals := by
  obtain ⟨v', w', hr, h2, h3, h4⟩ := run_append_src2 (ty := o.type) E hv.head hok hl hsrc h1 h63 hbytes
  have hex : Ex P a o w v' w' := by
    unfold Ex; simp [execOp, ho, resolve, invoke, builtin, hx, hy, hr]
  refine Ex.mem hex hg (h v' w' (hv.upd _ ((Only.refl _ _).grown h3 (fun k hk => .inl (by simp [hk]))) h2 (fun b hb => ?_) (fun b hb => ?_) ?_))
  · simp only [Option.mem_toList] at hb
    rcases h4 with h4 | ⟨b', h4, h5⟩
    · left; simp only [Option.mem_toList]; rw [← h4]; exact hb
    · right; rw [h4] at hb; simp at hb; omega
  · simp only [Option.mem_toList] at hb
    exact (h2.lt b hb).2
  · show v'.ownBlock.toList.Nodup
    cases v'.ownBlock with
    | none => exact List.nodup_nil
    | some g => exact List.nodup_cons.2 ⟨by simp, List.nodup_nil⟩
end
/-- how many elements a slice has -/
def slLen : Value → Nat
  | .slice _ n _ => n
  | _ => 0
end Go.Pm
