/- CrcApart's walk. -/
import Derived.Test.YtkannfkjnohdlaaCrcSums
import Derived.Test.YtkannfkjnohdlaaRegion
namespace Go.Proofs.Ytkannfkjnohdlaa
open Go.RowKit Go.Pm

set_option maxHeartbeats 2000000 in
theorem crcApartBig (w : World) (a : Option Addr) (cap : Nat) (l : List UInt8) (at_ : Int) (xs : Array Value) (hok : SliceOk a l.length cap) (hbig : l.length < 4 ∨ 1000 < l.length) :
    Calls Try.prog 4 #[.slice a l.length cap, .int .i64 at_, .agg xs] w fun e w' => e = .returned (.bool true) ∧ Below w.heap.size w w' := by
  obtain ⟨h1, h2, _⟩ := hok
  unfold maxLen at h2
  by_cases h4 : l.length < 4
  · go_enter Try.func4, Try.ntmps4
    go_wp2_with fail
    refine (crcAwake _).mono ?_
    rintro e w1 ⟨rfl, hb1⟩
    go_wp2_with fail
    refine (crcAwake _).mono ?_
    rintro e w2 ⟨rfl, hb2⟩
    go_wp2_with fail
    go_ret
    exact ⟨rfl, ((((Below.refl _ _).alloc (Nat.le_refl _) _).trans (hb1.mono (by simp))).trans (hb2.mono (by have := hb1.size; simp at this; omega)))⟩
  · have hbig' : 1000 < l.length := by omega
    clear hbig
    go_enter Try.func4, Try.ntmps4
    go_wp2_with fail
    refine (crcAwake _).mono ?_
    rintro e w1 ⟨rfl, hb1⟩
    go_wp2_with fail
    refine (crcAwake _).mono ?_
    rintro e w2 ⟨rfl, hb2⟩
    go_wp2_with fail
    go_ret
    exact ⟨rfl, ((((Below.refl _ _).alloc (Nat.le_refl _) _).trans (hb1.mono (by simp))).trans (hb2.mono (by have := hb1.size; simp at this; omega)))⟩

/-- l with i of the bytes cs from place k on -/
def ov (l : List UInt8) (k : Nat) (cs : List UInt8) : Nat → List UInt8
  | 0 => l
  | i + 1 => (ov l k cs i).set (k + i) (cs.getD i 0)
theorem ov_length (l : List UInt8) (k : Nat) (cs : List UInt8) (i : Nat) : (ov l k cs i).length = l.length := by
  induction i with
  | zero => rfl
  | succ i ih => simp [ov, ih]

theorem cut4 (l : List UInt8) (k : Nat) (h : k + 4 ≤ l.length) : ∃ p q b0 b1 b2 b3, l = p ++ b0 :: b1 :: b2 :: b3 :: q ∧ p.length = k := by
  have hd : (l.drop k).length = l.length - k := List.length_drop
  have hl := (List.take_append_drop k l).symm
  match hr : l.drop k with
  | [] => rw [hr] at hd; simp at hd; omega
  | [_] => rw [hr] at hd; simp at hd; omega
  | [_, _] => rw [hr] at hd; simp at hd; omega
  | [_, _, _] => rw [hr] at hd; simp at hd; omega
  | b0 :: b1 :: b2 :: b3 :: q => exact ⟨l.take k, q, b0, b1, b2, b3, by rw [hr] at hl; exact hl, by simp; omega⟩
theorem ov4 (l : List UInt8) (k : Nat) (c0 c1 c2 c3 : UInt8) (h : k + 4 ≤ l.length) :
    ∃ p q b0 b1 b2 b3, l = p ++ [b0, b1, b2, b3] ++ q ∧ ov l k [c0, c1, c2, c3] 4 = p ++ [c0, c1, c2, c3] ++ q := by
  obtain ⟨p, q, b0, b1, b2, b3, rfl, rfl⟩ := cut4 l k h
  refine ⟨p, q, b0, b1, b2, b3, by simp, ?_⟩
  simp [ov]
theorem apart (l : List UInt8) (k : Nat) (c0 c1 c2 c3 : UInt8) (h : k + 4 ≤ l.length) : Crc.sum l = Crc.sum (ov l k [c0, c1, c2, c3] 4) ↔ l = ov l k [c0, c1, c2, c3] 4 := by
  constructor
  · intro he
    obtain ⟨p, q, b0, b1, b2, b3, h1, h2⟩ := ov4 l k c0 c1 c2 c3 h
    rw [h2] at he ⊢
    have he' : Crc.sum (p ++ [b0, b1, b2, b3] ++ q) = Crc.sum (p ++ [c0, c1, c2, c3] ++ q) := by rw [← h1]; exact he
    obtain ⟨rfl, rfl, rfl, rfl⟩ := Crc.sum_apart p q _ _ _ _ _ _ _ _ he'
    exact h1
  · intro he; rw [← he]

theorem both_eq {m n : Nat} {l L : List UInt8} (h : m = n ↔ l = L) : (((m : Int) == (n : Int)) == (l == L)) = true := by
  rw [beq_iff_eq, Bool.eq_iff_iff, beq_iff_eq, beq_iff_eq, ← h]
  omega
theorem elemRow : Elem Try.prog 22 24 (.slice none 0 0) 1 24 := ⟨Try.underlying22, info_parts (by kernel_rfl), rfl, by decide⟩
theorem callSum : Callable Try.prog 15 := ⟨_, Try.func15, by kernel_rfl, by kernel_rfl⟩

theorem tmod_bd (x : Int) (n : Nat) (h : 0 < n) : -(n : Int) < x.tmod n ∧ x.tmod n < n := by
  have h1 := Int.tmod_lt_of_pos x (b := n) (by omega)
  have h2 := Int.tmod_lt_of_pos (-x) (b := n) (by omega)
  rw [Int.neg_tmod] at h2
  omega

set_option maxRecDepth 100000 in
set_option maxHeartbeats 2000000 in
theorem crcApartMain (w : World) (a : Option Addr) (cap : Nat) (l : List UInt8) (at_ : Int) (c0 c1 c2 c3 : UInt8) (hok : SliceOk a l.length cap) (hb : Bytes w (· < w.heap.size) a l) (h4 : 4 ≤ l.length) (h1000 : l.length ≤ 1000)
    (_hat1 : -9223372036854775808 ≤ at_) (_hat2 : at_ ≤ 9223372036854775807) :
    Calls Try.prog 4 #[.slice a l.length cap, .int .i64 at_, .agg #[B8 c0, B8 c1, B8 c2, B8 c3]] w fun e w' => e = .returned (.bool true) ∧ Below w.heap.size w w' := by
  have hokH := Lib.hid hok
  have hbH := Lib.hid hb
  clear hok hb
  go_enter Try.func4, Try.ntmps4
  go_wp2_with fail
  refine (crcAwake _).mono ?_
  rintro e w1 ⟨rfl, hb1⟩
  have hsz : (w.alloc (Obj.cells #[B8 c0, B8 c1, B8 c2, B8 c3] 29)).heap.size = w.heap.size + 1 := by simp
  have hbw : Below w.heap.size w w1 := ((Below.refl _ _).alloc (Nat.le_refl _) _).trans (hb1.mono (by simp))
  have hw1 : w.heap.size + 1 ≤ w1.heap.size := by have := hb1.size; omega
  have hcw : ∀ k, w1.cell? ⟨w.heap.size, k, none⟩ = #[B8 c0, B8 c1, B8 c2, B8 c3][k]? := by
    intro k
    rw [hb1.cell (p := ⟨w.heap.size, k, none⟩) (by simp), cell_new]
  have hcwH := Lib.hid hcw
  clear hcw hsz
  have hb1H := Lib.hid hb1
  clear hb1
  have hown0 := Lib.hid (World.ownsRow_lit (base := w1.heap.size) (e := 5) (size := 1) w1 #[] 0 (Nat.le_refl _) (by decide) (by decide))
  have hbA := Lib.hid ((hbH.out.frame (fun b hb => hbw.block b hb)).frame (w' := w1.alloc (.cells #[] 5)) (fun b hb => heap_old w1 _ b (by omega)))
  have hm := tmod_bd at_ (l.length - 3) (by omega)
  rw [show ((l.length - 3 : Nat) : Int) = (l.length : Int) - 3 by omega] at hm
  obtain ⟨hm1, hm2⟩ := hm
  go_wp2_with (at_builtin; refine wpList_append_src _ rfl _ _ 24 rfl elemU8 w1.heap.size rfl hown0.out rfl hokH.out (news := l.map B8) (by simp) hbA.out.src (oneCell_bytes _) (by unfold maxLen; omega) (by omega) (by simp) ?_)
  intro v w2 hown2 hgrow
  have hgrow := Lib.hid hgrow
  obtain ⟨g, c', hg, hv⟩ : ∃ g c', w1.heap.size ≤ g ∧ v = .slice (some ⟨g, 0, none⟩) l.length c' := by
    rcases hown2.2 with ⟨_, h0⟩ | ⟨g, c', _, h, hg, _⟩
    · omega
    · exact ⟨g, c', hg, h⟩
  subst hv
  have hbr0 : Below w1.heap.size w1 w2 := (((Below.refl _ _).alloc (Nat.le_refl _) _).grown hgrow.out (by simp) (fun k hk => by simp [Value.ownBlock] at hk; omega))
  have hown2 := Lib.hid hown2
  clear hgrow
  go_wp2_with fail
  obtain ⟨k, hk, hk4⟩ : ∃ k : Nat, (at_.tmod (↑l.length - 3) + ↑l.length - 3) % (↑l.length - 3) = (k : Int) ∧ k + 4 ≤ l.length := by
    have h0 := Int.emod_nonneg (at_.tmod (↑l.length - 3) + ↑l.length - 3) (b := (l.length : Int) - 3) (by omega)
    have h1 := Int.emod_lt_of_pos (at_.tmod (↑l.length - 3) + ↑l.length - 3) (b := (l.length : Int) - 3) (by omega)
    exact ⟨((at_.tmod (↑l.length - 3) + ↑l.length - 3) % (↑l.length - 3)).toNat, by omega, by omega⟩
  rw [hk]
  clear hk hm1 hm2
  go_loopw [9] (fun i wr => ∃ j : Nat, j ≤ 4 ∧ i = .int .i64 j ∧ wr.ownsRow w1.heap.size 5 1 (.slice (some ⟨g, 0, none⟩) l.length c') l.length ((ov l k [c0, c1, c2, c3] j).map B8) ∧ Below w1.heap.size w1 wr) (fun i _ => 4 - (intOf i).toNat)
  case atStart => exact ⟨0, by omega, rfl, hown2.out, hbr0⟩
  case round =>
    obtain ⟨j, hj, rfl, hown, hbr⟩ := hrel
    by_cases hj4 : j < 4
    · have hwj : wr.cell? ⟨w.heap.size, j, none⟩ = some (B8 ([c0, c1, c2, c3].getD j 0)) := by
        rw [hbr.cell (p := ⟨w.heap.size, j, none⟩) (by simp; omega), hcwH.out]
        match j, hj4 with
        | 0, _ => rfl
        | 1, _ => rfl
        | 2, _ => rfl
        | 3, _ => rfl
      have hst := Lib.hid (hown.stored (k + j) (B8 ([c0, c1, c2, c3].getD j 0)))
      rw [← List.map_set] at hst
      have hov : Hid ((ov l k [c0, c1, c2, c3] j).set (k + j) ([c0, c1, c2, c3].getD j 0) = ov l k [c0, c1, c2, c3] (j + 1)) := rfl
      rw [hov.out] at hst
      have hold : wr.cell? ⟨g, k + j, none⟩ = some (B8 ((ov l k [c0, c1, c2, c3] j).getD (k + j) 0)) := by
        rw [hown.cellAt (k + j) (by omega)]
        have := ov_length l k [c0, c1, c2, c3] j
        simp [show k + j < (ov l k [c0, c1, c2, c3] j).length by omega]
      have hfz := hown.frozenAt (k + j)
      generalize [c0, c1, c2, c3].getD j 0 = cj at *
      generalize (ov l k [c0, c1, c2, c3] j).getD (k + j) 0 = oj at *
      clear hov
      have hown := Lib.hid hown
      go_wp2_with fail
      go_roundw
      case rel => exact ⟨j + 1, by omega, by go_num, hst.out.1, hbr.setCell (by simpa using hg) _⟩
      case measure => simp [intOf]; omega
    · obtain rfl : j = 4 := by omega
      go_wp2_with fail
      have hL := ov_length l k [c0, c1, c2, c3] 4
      have hbyO : Bytes wr (fun b => b < wr.heap.size) (some ⟨g, 0, none⟩) (ov l k [c0, c1, c2, c3] 4) := by
        obtain ⟨a2, c2, e1, _, e3⟩ := owns_bytes (l := ov l k [c0, c1, c2, c3] 4) (by rw [hL]; exact hown)
        simp only [Value.slice.injEq] at e1
        rw [← e1.1] at e3
        exact e3.mono (fun b hb => hb.2.1)
      have hby : Bytes wr (fun b => b < wr.heap.size) a l := (hbH.out.frame (fun b hb => (hbw.trans (hbr.mono (by omega))).block b hb)).mono (fun b hb => by have := hbr.size; omega)
      have hap := Lib.hid (apart l k c0 c1 c2 c3 hk4)
      have hokO : SliceOk (some ⟨g, 0, none⟩) l.length c' := by
        rcases hown.2 with ⟨h, _⟩ | ⟨g2, c2, _, h, _, _, h1, h2, _⟩
        · simp at h
        · simp only [Value.slice.injEq] at h
          obtain ⟨_, _, rfl⟩ := h
          exact ⟨h1, h2, fun h => by cases h⟩
      generalize ov l k [c0, c1, c2, c3] 4 = L at *
      have HA := Lib.hid (fun (W : World) (hW : Below wr.heap.size wr W) => hby.frame (fun b hb => hW.block b hb))
      have HB := Lib.hid (fun (W : World) (hW : Below wr.heap.size wr W) => hbyO.frame (fun b hb => hW.block b hb))
      clear hby hbyO
      have hown := Lib.hid hown
      have hokO := Lib.hid hokO
      clear hbr0
      have hmix : Try.prog.follows .mixedOrders = true := by kernel_rfl
      refine wp_region_mono hmix [SP.eq (.slice a l.length cap), SP.box (.slice a l.length cap), SP.eq (.int .u32 (Crc.sum l)),
        SP.eq (.slice (some ⟨g, 0, none⟩) l.length c'), SP.box (.slice (some ⟨g, 0, none⟩) l.length c'), SP.eq (.int .u32 (Crc.sum L)), SP.eq (.bool ((Crc.sum l : Int) == (Crc.sum L : Int))),
        SP.eq (.slice a l.length cap), SP.eq (.string ⟨l.toArray⟩), SP.eq (.slice (some ⟨g, 0, none⟩) l.length c'), SP.eq (.string ⟨L.toArray⟩), SP.eq (.bool (l == L)), SP.eq (.bool (((Crc.sum l : Int) == (Crc.sum L : Int)) == (l == L))), SP.eq (.bool (((Crc.sum l : Int) == (Crc.sum L : Int)) == (l == L)))]
        64 rfl (by kernel_rfl) ⟨?_, ?_, ?_, ?_, ?_, ?_, ?_, ?_, ?_, ?_, ?_, ?_, ?_, ?_, trivial⟩ ?_
      · exact fun a w hE hR => stepOk_move rfl rfl (hR.keep 0 rfl) rfl
      · exact fun a w hE hR => stepOk_box elemRow rfl rfl (hR.pred 0 51 rfl rfl) rfl (fun _ _ h => h)
      · intro a w hE hR
        obtain ⟨b, h1, _, h3⟩ := hR.pred 1 52 rfl rfl
        refine stepOk_call1 callSum rfl rfl h1 ((crcSum1 _ _ _ _ _ l h3 _ (HA.out _ hE) rfl hokH.out).mono ?_)
        rintro e w' ⟨rfl, rfl⟩
        exact ⟨_, rfl, Ext.rfl' _, rfl⟩
      · exact fun a w hE hR => stepOk_move rfl rfl (hR.keep 7 rfl) rfl
      · exact fun a w hE hR => stepOk_box elemRow rfl rfl (hR.pred 3 54 rfl rfl) rfl (fun _ _ h => h)
      · intro a w hE hR
        obtain ⟨b, h1, _, h3⟩ := hR.pred 4 55 rfl rfl
        refine stepOk_call1 callSum rfl rfl h1 ((crcSum1 _ _ _ _ _ L h3 _ (HB.out _ hE) hL.symm hokO.out).mono ?_)
        rintro e w' ⟨rfl, rfl⟩
        exact ⟨_, rfl, Ext.rfl' _, rfl⟩
      · exact fun a w hE hR => stepOk_bin rfl rfl (hR.pred 2 53 rfl rfl) (hR.pred 5 56 rfl rfl) (by simp [go_sem]) (by simp [go_sem]) rfl
      · exact fun a w hE hR => stepOk_move rfl rfl (hR.keep 0 rfl) rfl
      · exact fun a w hE hR => stepOk_conv rfl rfl (hR.pred 7 58 rfl rfl) (run_str_of_bytes Try.underlying24 Try.underlying5 Try.underlying9 (HA.out _ hE) rfl) rfl
      · exact fun a w hE hR => stepOk_move rfl rfl (hR.keep 7 rfl) rfl
      · exact fun a w hE hR => stepOk_conv rfl rfl (hR.pred 9 60 rfl rfl) (run_str_of_bytes Try.underlying24 Try.underlying5 Try.underlying9 (HB.out _ hE) hL) rfl
      · exact fun a w hE hR => stepOk_bin rfl rfl (hR.pred 8 59 rfl rfl) (hR.pred 10 61 rfl rfl) (by simp [go_sem]) (by simp [go_sem]) rfl
      · exact fun a w hE hR => stepOk_bin rfl rfl (hR.pred 6 57 rfl rfl) (hR.pred 11 62 rfl rfl) (by simp [go_sem]) (by simp [go_sem]) rfl
      · exact fun a w hE hR => stepOk_assign rfl rfl (hR.pred 12 63 rfl rfl) rfl
      · intro vs w' hlen hE hF
        obtain ⟨v0, vs0, rfl, hl0⟩ := len_succ (n := 13) hlen
        obtain ⟨v1, vs1, rfl, hl1⟩ := len_succ (n := 12) hl0
        obtain ⟨v2, vs2, rfl, hl2⟩ := len_succ (n := 11) hl1
        obtain ⟨v3, vs3, rfl, hl3⟩ := len_succ (n := 10) hl2
        obtain ⟨v4, vs4, rfl, hl4⟩ := len_succ (n := 9) hl3
        obtain ⟨v5, vs5, rfl, hl5⟩ := len_succ (n := 8) hl4
        obtain ⟨v6, vs6, rfl, hl6⟩ := len_succ (n := 7) hl5
        obtain ⟨v7, vs7, rfl, hl7⟩ := len_succ (n := 6) hl6
        obtain ⟨v8, vs8, rfl, hl8⟩ := len_succ (n := 5) hl7
        obtain ⟨v9, vs9, rfl, hl9⟩ := len_succ (n := 4) hl8
        obtain ⟨v10, vs10, rfl, hl10⟩ := len_succ (n := 3) hl9
        obtain ⟨v11, vs11, rfl, hl11⟩ := len_succ (n := 2) hl10
        obtain ⟨v12, vs12, rfl, hl12⟩ := len_succ (n := 1) hl11
        obtain ⟨v13, vs13, rfl, hl13⟩ := len_succ (n := 0) hl12
        obtain rfl := List.eq_nil_of_length_eq_zero hl13
        obtain ⟨-, -, -, -, -, -, -, -, -, -, -, -, -, f13, -⟩ := hF
        obtain rfl := f13 rfl
        have hfin := both_eq hap.out
        rw [hfin]
        have hE' := Lib.hid hE
        clear hE hap
        simp only [putAll]
        go_wp2_with fail
        go_ret
        refine ⟨rfl, (hbw.trans (hbr.mono (by omega))).trans (hE'.out.mono ?_)⟩
        have := hbr.size
        omega
end Go.Proofs.Ytkannfkjnohdlaa
