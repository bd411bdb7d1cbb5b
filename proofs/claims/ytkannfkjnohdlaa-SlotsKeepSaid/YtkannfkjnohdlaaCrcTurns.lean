/- CrcTurns' walk. -/
import Derived.Test.YtkannfkjnohdlaaCrc2
namespace Go.Proofs.Ytkannfkjnohdlaa
open Go.RowKit Go.Pm

/- a text is sealed just if its register comes to one constant -/
theorem seal_reg (m : List UInt8) (b0 b1 b2 b3 : UInt8) : Crc.sum m = Crc.word b0 b1 b2 b3 ↔ Crc.reg (m ++ [b0, b1, b2, b3]) 4294967295 = Crc.itn 32 4294967295 := by
  have hr : Crc.reg m 4294967295 < 4294967296 := Crc.reg_lt m (by omega)
  have hw := Crc.word_lt b0 b1 b2 b3
  rw [Crc.reg_append, Crc.reg4]
  unfold Crc.sum
  generalize Crc.reg m 4294967295 = r at *
  generalize Crc.word b0 b1 b2 b3 = x at *
  constructor
  · intro h
    rw [← h]
    congr 1
    rw [← Nat.xor_assoc, Nat.xor_self, Nat.zero_xor]
  · intro h
    have h2 := Crc.itn_inj 32 (Crc.xor_lt hr hw) (by omega) h
    rw [← h2, ← Nat.xor_assoc, Nat.xor_self, Nat.zero_xor]
theorem le4_word (n : Nat) (h : n < 4294967296) : Crc.word (UInt8.ofNat n) (UInt8.ofNat (n / 256)) (UInt8.ofNat (n / 65536)) (UInt8.ofNat (n / 16777216)) = n := by
  rw [Crc.word_eq]
  simp only [UInt8.toNat_ofNat']
  omega
theorem sealed_reg (l : List UInt8) : Crc.reg (sealed l) 4294967295 = Crc.itn 32 4294967295 := by
  unfold sealed le4
  rw [← seal_reg]
  exact (le4_word _ (Crc.sum_lt l)).symm
/-- four bytes of a sealed text are replaced: it is sealed just if they are as they were -/
theorem turned (l : List UInt8) (k : Nat) (c0 c1 c2 c3 : UInt8) (h : k + 4 ≤ (sealed l).length) (m : List UInt8) (b0 b1 b2 b3 : UInt8) (hm : ov (sealed l) k [c0, c1, c2, c3] 4 = m ++ [b0, b1, b2, b3]) :
    Crc.sum m = Crc.word b0 b1 b2 b3 ↔ ov (sealed l) k [c0, c1, c2, c3] 4 = sealed l := by
  rw [seal_reg, ← hm]
  constructor
  · intro he
    rw [← sealed_reg l] at he
    obtain ⟨p, q, x0, x1, x2, x3, h1, h2⟩ := ov4 (sealed l) k c0 c1 c2 c3 h
    rw [h2] at he ⊢
    have := Crc.sum_apart p q c0 c1 c2 c3 x0 x1 x2 x3 (by unfold Crc.sum; rw [he, h1])
    obtain ⟨rfl, rfl, rfl, rfl⟩ := this
    exact h1.symm
  · intro he; rw [he, sealed_reg]
theorem ov_get (l : List UInt8) (k : Nat) (cs : List UInt8) (j i : Nat) (h : k + j ≤ i) : (ov l k cs j)[i]? = l[i]? := by
  induction j with
  | zero => rfl
  | succ j ih =>
    simp only [ov]
    rw [List.getElem?_set_ne (by omega)]
    exact ih (by omega)
theorem ov_same (l : List UInt8) (k : Nat) (d0 d1 d2 d3 : UInt8) (h : k + 4 ≤ l.length) :
    ov l k [l.getD k 0 ^^^ d0, l.getD (k + 1) 0 ^^^ d1, l.getD (k + 2) 0 ^^^ d2, l.getD (k + 3) 0 ^^^ d3] 4 = l ↔ d0 = 0 ∧ d1 = 0 ∧ d2 = 0 ∧ d3 = 0 := by
  obtain ⟨p, q, b0, b1, b2, b3, rfl, rfl⟩ := cut4 l k h
  have hx : ∀ a b : UInt8, a ^^^ b = a ↔ b = 0 := by
    intro a b
    constructor
    · intro h
      have := congrArg (a ^^^ ·) h
      simpa [← UInt8.xor_assoc] using this
    · rintro rfl; simp
  simp [ov, hx]


theorem eqArr4 (w : World) (a0 a1 a2 a3 b0 b1 b2 b3 : Int) : (Op.equalIn 10000 29 (.agg #[.int .u8 a0, .int .u8 a1, .int .u8 a2, .int .u8 a3]) (.agg #[.int .u8 b0, .int .u8 b1, .int .u8 b2, .int .u8 b3])).run Try.prog w = .ok (a0 == b0 && a1 == b1 && a2 == b2 && a3 == b3) w := by
  have hs : (Try.prog.info? 5).map (·.size) = some 1 := by kernel_rfl
  obtain ⟨i, hi, hs⟩ := Option.map_eq_some_iff.1 hs
  have hag : ∀ w, (isAgg 5).run Try.prog w = .ok false w := fun w => by kernel_rfl
  have he := fun (a b : Int) => run_equalIn_int (P := Try.prog) w 9998 5 .u8 .u8 a b Try.underlying5
  unfold Op.equalIn
  simp [run_underlying Try.underlying29, sizeOf, typeInfo, hi, hs, go_sem, show List.range' 0 4 = [0, 1, 2, 3] from rfl, hag, he]
  by_cases h0 : a0 = b0 <;> by_cases h1 : a1 = b1 <;> by_cases h2 : a2 = b2 <;> by_cases h3 : a3 = b3 <;> simp [h0, h1, h2, h3]
theorem eqArr4_zero (w : World) : (Op.equalIn 10000 29 (.agg #[B8 0, B8 0, B8 0, B8 0]) (.agg #[.int .u8 0, .int .u8 0, .int .u8 0, .int .u8 0])).run Try.prog w = .ok true w := eqArr4 w 0 0 0 0 0 0 0 0
theorem eqArr4_not (w : World) (c0 c1 c2 c3 : UInt8) (h : ¬ (c0 = 0 ∧ c1 = 0 ∧ c2 = 0 ∧ c3 = 0)) : (Op.equalIn 10000 29 (.agg #[B8 c0, B8 c1, B8 c2, B8 c3]) (.agg #[.int .u8 0, .int .u8 0, .int .u8 0, .int .u8 0])).run Try.prog w = .ok false w := by
  have := eqArr4 w c0.toNat c1.toNat c2.toNat c3.toNat 0 0 0 0
  have hz : ∀ c : UInt8, ((c.toNat : Int) == 0) = (c == 0) := by
    intro c
    rw [Bool.eq_iff_iff]
    simp [← UInt8.toNat_inj]
  rw [hz, hz, hz, hz] at this
  rw [show (c0 == 0 && c1 == 0 && c2 == 0 && c3 == 0) = false by
    cases hb : (c0 == 0 && c1 == 0 && c2 == 0 && c3 == 0) with
    | false => rfl
    | true => simp at hb; exact (h ⟨hb.1.1.1, hb.1.1.2, hb.1.2, hb.2⟩).elim] at this
  exact this

set_option maxHeartbeats 2000000 in
theorem crcTurnsBig (w : World) (a : Option Addr) (cap : Nat) (l : List UInt8) (at_ : Int) (xs : Array Value) (hok : SliceOk a l.length cap) (hbig : 1000 < l.length) :
    Calls Try.prog 5 #[.slice a l.length cap, .int .i64 at_, .agg xs] w fun e w' => e = .returned (.bool true) ∧ Below w.heap.size w w' := by
  obtain ⟨h1, h2, _⟩ := hok
  unfold maxLen at h2
  go_enter Try.func5, Try.ntmps5
  go_wp2_with fail
  refine (crcAwake _).mono ?_
  rintro e w1 ⟨rfl, hb1⟩
  go_wp2_with fail
  refine (crcAwake _).mono ?_
  rintro e w2 ⟨rfl, hb2⟩
  go_wp2_with fail
  go_ret
  exact ⟨rfl, ((((Below.refl _ _).alloc (Nat.le_refl _) _).trans (hb1.mono (by simp))).trans (hb2.mono (by have := hb1.size; simp at this; omega)))⟩

set_option maxRecDepth 100000 in
set_option maxHeartbeats 2000000 in
theorem crcTurnsMain (w : World) (a : Option Addr) (cap : Nat) (l : List UInt8) (at_ : Int) (c0 c1 c2 c3 : UInt8) (hok : SliceOk a l.length cap) (hb : Bytes w (· < w.heap.size) a l) (h1000 : l.length ≤ 1000) :
    Calls Try.prog 5 #[.slice a l.length cap, .int .i64 at_, .agg #[B8 c0, B8 c1, B8 c2, B8 c3]] w fun e w' => e = .returned (.bool true) ∧ Below w.heap.size w w' := by
  have hokH := Lib.hid hok
  have hbH := Lib.hid hb
  clear hok hb
  go_enter Try.func5, Try.ntmps5
  go_wp2_with fail
  refine (crcAwake _).mono ?_
  rintro e w1 ⟨rfl, hb1⟩
  have hbw : Below w.heap.size w w1 := ((Below.refl _ _).alloc (Nat.le_refl _) _).trans (hb1.mono (by simp))
  have hw1 : w.heap.size + 1 ≤ w1.heap.size := by have := hb1.size; simp at this; omega
  have hcw : ∀ k, w1.cell? ⟨w.heap.size, k, none⟩ = #[B8 c0, B8 c1, B8 c2, B8 c3][k]? := by
    intro k
    rw [hb1.cell (p := ⟨w.heap.size, k, none⟩) (by simp), cell_new]
  have hcwH := Lib.hid hcw
  have hb1H := Lib.hid hb1
  clear hcw hb1
  have hba := Lib.hid (hbH.out.ext hbw)
  go_wp2_with fail
  refine (refSeal _ _ _ _ l rfl hokH.out (by omega) hba.out).mono ?_
  rintro e w2 ⟨v, rfl, hown2, hext2⟩
  have hsl := sealed_length l
  obtain ⟨g, c', hg, hv⟩ : ∃ g c', w1.heap.size ≤ g ∧ v = .slice (some ⟨g, 0, none⟩) (l.length + 4) c' := by
    rcases hown2.2 with ⟨_, h0⟩ | ⟨g, c', _, h, hg, _⟩
    · omega
    · exact ⟨g, c', hg, by rw [← hsl]; exact h⟩
  subst hv
  rw [hsl] at hown2
  have hm := tmod_bd at_ (l.length + 1) (by omega)
  rw [show ((l.length + 1 : Nat) : Int) = (l.length : Int) + 4 - 3 by omega] at hm
  obtain ⟨hm1, hm2⟩ := hm
  have hslH := Lib.hid hsl
  have hown2 := Lib.hid hown2
  clear hsl
  go_wp2_with fail
  obtain ⟨k, hk, hk4⟩ : ∃ k : Nat, (at_.tmod (↑l.length + 4 - 3) + (↑l.length + 4) - 3) % (↑l.length + 4 - 3) = (k : Int) ∧ k + 4 ≤ l.length + 4 := by
    have h0 := Int.emod_nonneg (at_.tmod (↑l.length + 4 - 3) + (↑l.length + 4) - 3) (b := (l.length : Int) + 4 - 3) (by omega)
    have h1 := Int.emod_lt_of_pos (at_.tmod (↑l.length + 4 - 3) + (↑l.length + 4) - 3) (b := (l.length : Int) + 4 - 3) (by omega)
    exact ⟨((at_.tmod (↑l.length + 4 - 3) + (↑l.length + 4) - 3) % (↑l.length + 4 - 3)).toNat, by omega, by omega⟩
  rw [hk]
  clear hk hm1 hm2
  have hturn := Lib.hid (turned l k)
  have hsame := Lib.hid (ov_same (sealed l) k c0 c1 c2 c3 (by rw [hslH.out]; exact hk4))
  generalize hS : sealed l = S at *
  clear hS
  obtain ⟨cs, hcs⟩ : ∃ cs, cs = [S.getD k 0 ^^^ c0, S.getD (k + 1) 0 ^^^ c1, S.getD (k + 2) 0 ^^^ c2, S.getD (k + 3) 0 ^^^ c3] := ⟨_, rfl⟩
  have hcsH := Lib.hid hcs
  clear hcs
  go_loopw [9] (fun i wr => ∃ j : Nat, j ≤ 4 ∧ i = .int .i64 j ∧ wr.ownsRow w1.heap.size 5 1 (.slice (some ⟨g, 0, none⟩) (l.length + 4) c') (l.length + 4) ((ov S k cs j).map B8) ∧ Below w1.heap.size w1 wr) (fun i _ => 4 - (intOf i).toNat)
  case atStart => exact ⟨0, by omega, rfl, hown2.out, hext2⟩
  case round =>
    obtain ⟨j, hj, rfl, hown, hbr⟩ := hrel
    by_cases hj4 : j < 4
    · have hwj : wr.cell? ⟨w.heap.size, j, none⟩ = some (B8 ([c0, c1, c2, c3].getD j 0)) := by
        rw [hbr.cell (p := ⟨w.heap.size, j, none⟩) (by simp; omega), hcwH.out]
        match j, hj4 with
        | 0, _ => rfl
        | 1, _ => rfl
        | 2, _ => rfl
        | 3, _ => rfl
      have hcj : cs.getD j 0 = S.getD (k + j) 0 ^^^ [c0, c1, c2, c3].getD j 0 := by
        rw [hcsH.out]
        match j, hj4 with
        | 0, _ => rfl
        | 1, _ => rfl
        | 2, _ => rfl
        | 3, _ => rfl
      have hst := Lib.hid (hown.stored (k + j) (B8 (cs.getD j 0))).1
      rw [← List.map_set] at hst
      have hov : (ov S k cs j).set (k + j) (cs.getD j 0) = ov S k cs (j + 1) := rfl
      rw [hov] at hst
      have hold : wr.cell? ⟨g, k + j, none⟩ = some (B8 (S.getD (k + j) 0)) := by
        rw [hown.cellAt (k + j) (by omega)]
        have h1 := ov_get S k cs j (k + j) (Nat.le_refl _)
        have h2 : k + j < S.length := by rw [hslH.out]; omega
        rw [List.getElem?_map, h1, List.getElem?_eq_getElem h2]
        simp [h2]
      have hfz := hown.frozenAt (k + j)
      have hxor : Hid (Value.int .u8 (bits .xor .u8 ((S.getD (k + j) 0).toNat : Int) (([c0, c1, c2, c3].getD j 0).toNat : Int)) = B8 (cs.getD j 0)) := by
        show _ = _
        rw [hcj]
        generalize S.getD (k + j) 0 = x
        generalize [c0, c1, c2, c3].getD j 0 = y
        rw [u8_xor_nat _ _ x.toNat_lt y.toNat_lt]
        simp [B8]
      generalize S.getD (k + j) 0 = sj at *
      generalize [c0, c1, c2, c3].getD j 0 = cj at *
      generalize cs.getD j 0 = xj at *
      clear hov hcj
      have hown := Lib.hid hown
      go_wp2_with fail
      go_region
      go_wp2_with fail
      go_roundw
      case rel => exact ⟨j + 1, by omega, by go_num, by rw [hxor.out]; exact hst.out, by rw [hxor.out]; exact (hbr.setCell (by simpa using hg) _).drew⟩
      case measure => simp [intOf]; omega
    · obtain rfl : j = 4 := by omega
      have hL : (ov S k cs 4).length = l.length + 4 := by rw [ov_length, hslH.out]
      have hby : Bytes wr (fun b => b < wr.heap.size) (some ⟨g, 0, none⟩) (ov S k cs 4) := by
        obtain ⟨a2, c2, e1, _, e3⟩ := owns_bytes (l := ov S k cs 4) (by rw [hL]; exact hown)
        simp only [Value.slice.injEq] at e1
        rw [← e1.1] at e3
        exact e3.mono (fun b hb => hb.2.1)
      have hokO : SliceOk (some ⟨g, 0, none⟩) (l.length + 4) c' := by
        rcases hown.2 with ⟨h, _⟩ | ⟨g2, c2, _, h, _, _, h1, h2, _⟩
        · simp at h
        · simp only [Value.slice.injEq] at h
          obtain ⟨_, _, rfl⟩ := h
          exact ⟨h1, h2, fun h => by cases h⟩
      obtain ⟨m, q, b0, b1, b2, b3, hm, hml⟩ := cut4 (ov S k cs 4) l.length (by omega)
      have hq : q = [] := by
        have := congrArg List.length hm
        simp [hL, hml] at this
        exact this
      subst hq
      have hiff : Crc.sum m = Crc.word b0 b1 b2 b3 ↔ c0 = 0 ∧ c1 = 0 ∧ c2 = 0 ∧ c3 = 0 := by
        rw [← hsame.out, ← hcsH.out]
        have := hturn.out
        rw [hcsH.out] at hm ⊢
        exact this _ _ _ _ (by rw [hslH.out]; exact hk4) m b0 b1 b2 b3 (by rw [hm])
      clear hturn hsame hcsH
      have hcz : wr.cell? ⟨w.heap.size, 0, none⟩ = some (B8 c0) ∧ wr.cell? ⟨w.heap.size, 1, none⟩ = some (B8 c1) ∧ wr.cell? ⟨w.heap.size, 2, none⟩ = some (B8 c2) ∧ wr.cell? ⟨w.heap.size, 3, none⟩ = some (B8 c3) := by
        refine ⟨?_, ?_, ?_, ?_⟩ <;> (rw [hbr.cell (p := ⟨w.heap.size, _, none⟩) (by simp; omega), hcwH.out]; rfl)
      have hlt0 : w.heap.size < wr.heap.size := by have := hbr.size; omega
      generalize ov S k cs 4 = L at *
      have hiffH := Lib.hid hiff
      have hbyH := Lib.hid hby
      have hokO := Lib.hid hokO
      have hmH := Lib.hid hm
      have hLH := Lib.hid hL
      clear hiff hby hm hL hml hown
      go_wp2_with fail
      refine (crcOpen _ _ _ _ L m b0 b1 b2 b3 (by simpa using hmH.out) hLH.out hokO.out (by omega) hbyH.out).mono ?_
      rintro e w3 ⟨hext3, hpost⟩
      have hc0 : w3.cell? ⟨w.heap.size, 0, none⟩ = some (B8 c0) := by rw [hext3.cell (p := ⟨w.heap.size, 0, none⟩) (by simpa using hlt0)]; exact hcz.1
      have hc1 : w3.cell? ⟨w.heap.size, 1, none⟩ = some (B8 c1) := by rw [hext3.cell (p := ⟨w.heap.size, 1, none⟩) (by simpa using hlt0)]; exact hcz.2.1
      have hc2 : w3.cell? ⟨w.heap.size, 2, none⟩ = some (B8 c2) := by rw [hext3.cell (p := ⟨w.heap.size, 2, none⟩) (by simpa using hlt0)]; exact hcz.2.2.1
      have hc3 : w3.cell? ⟨w.heap.size, 3, none⟩ = some (B8 c3) := by rw [hext3.cell (p := ⟨w.heap.size, 3, none⟩) (by simpa using hlt0)]; exact hcz.2.2.2
      have hbelow : Below w.heap.size w w3 := (hbw.trans (hbr.mono (by omega))).trans (hext3.mono (by omega))
      clear hcz
      by_cases hz : c0 = 0 ∧ c1 = 0 ∧ c2 = 0 ∧ c3 = 0
      · rw [if_pos (hiffH.out.2 hz)] at hpost
        obtain ⟨v, rfl, hown⟩ := hpost
        obtain ⟨rfl, rfl, rfl, rfl⟩ := hz
        have hown := Lib.hid hown
        have heq := eqArr4_zero
        go_wp2_with fail
        go_ret
        exact ⟨rfl, hbelow⟩
      · rw [if_neg (fun h => hz (hiffH.out.1 h))] at hpost
        subst hpost
        have heq := fun w => eqArr4_not w c0 c1 c2 c3 hz
        have hz := Lib.hid hz
        go_wp2_with fail
        go_ret
        exact ⟨rfl, hbelow⟩
end Go.Proofs.Ytkannfkjnohdlaa
