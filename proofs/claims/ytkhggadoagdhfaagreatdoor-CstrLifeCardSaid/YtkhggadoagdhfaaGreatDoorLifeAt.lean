/- CstrLife: a run is true for the two numbers. -/
import Derived.Test.YtkhggadoagdhfaaGreatDoorLifeOrn
import Derived.Deep.LoopGhost
namespace Go.Proofs.YtkhggadoagdhfaaGreatDoor
open Go.Eng Go.Pm Go.RowKit
def lifeLen (c n : Int) (j : Nat) : Nat := match j with
  | 0 => (c + 9223372036854775808).toNat
  | 1 => (n + 9223372036854775808).toNat
  | 2 => (c.tmod 1000 + 999).toNat
  | 3 => (n.tmod 1000 + 999).toNat
  | 4 => ((1 + (c.tmod 1000 + 999)).tmod 1000 - 1).toNat
  | 5 => ((1 + (n.tmod 1000 + 999)).tmod 1000).toNat
  | 6 => 1806 - ((1 + (n.tmod 1000 + 999)).tmod 1000).toNat
  | _ => 0
def lifeAt (c n : Int) (g : Nat) (v : V) (o : Obj) : At where
  txt j := if j = 10 then Lib.itoa (1 + (lifeLen c n 5 : Int)) else List.replicate (lifeLen c n j) 0
  win _ := (g, 0, 1, 1)
  wc j := if j = 50 then [v] else []
  spot _ := none
  blk j := if j = 50 then some o else none
theorem tmod_bounds (m : Int) : -999 ≤ m.tmod 1000 ∧ m.tmod 1000 ≤ 999 ∧ (0 ≤ m → 0 ≤ m.tmod 1000) := by
  refine ⟨?_, ?_, fun h => Int.tmod_nonneg _ h⟩
  · have := Int.lt_tmod_of_pos m (b := 1000) (by decide); omega
  · have := Int.tmod_lt_of_pos m (b := 1000) (by decide); omega
theorem lifeAt_len {c n : Int} {g : Nat} {v : V} {o : Obj} {j : Nat} (h : j ≠ 10) : (lifeAt c n g v o j).length = lifeLen c n j := by
  show (if j = 10 then _ else List.replicate _ _).length = _
  rw [if_neg h, List.length_replicate]
theorem lifeBnd_ok {c n : Int} (hc : -9223372036854775808 ≤ c ∧ c ≤ 9223372036854775807) (hn : -9223372036854775808 ≤ n ∧ n ≤ 9223372036854775807) {g : Nat} {v : V} {o : Obj} (j : Nat) : (lifeBnd j).1 ≤ (lifeAt c n g v o j).length ∧ (lifeAt c n g v o j).length ≤ (lifeBnd j).2 := by
  have t1 := tmod_bounds c
  have t2 := tmod_bounds n
  have t3 := tmod_bounds (1 + (c.tmod 1000 + 999))
  have t4 := tmod_bounds (1 + (n.tmod 1000 + 999))
  by_cases h : j = 10
  · subst h
    have := itoa_length (1 + (lifeLen c n 5 : Int)) (by omega) (by simp only [lifeLen]; omega)
    exact this
  · rw [lifeAt_len h]
    match j with
    | 0 => simp only [lifeLen, lifeBnd]; show _ ∧ _ ≤ 18446744073709551615; exact ⟨Nat.zero_le _, by omega⟩
    | 1 => simp only [lifeLen, lifeBnd]; show _ ∧ _ ≤ 18446744073709551615; exact ⟨Nat.zero_le _, by omega⟩
    | 2 => simp only [lifeLen, lifeBnd]; show _ ∧ _ ≤ 1998; exact ⟨Nat.zero_le _, by omega⟩
    | 3 => simp only [lifeLen, lifeBnd]; show _ ∧ _ ≤ 1998; exact ⟨Nat.zero_le _, by omega⟩
    | 4 => simp only [lifeLen, lifeBnd]; show _ ∧ _ ≤ 998; exact ⟨Nat.zero_le _, by omega⟩
    | 5 => simp only [lifeLen, lifeBnd]; show _ ∧ _ ≤ 999; exact ⟨Nat.zero_le _, by omega⟩
    | 6 => simp only [lifeLen, lifeBnd]; show _ ∧ _ ≤ 2000; exact ⟨Nat.zero_le _, by omega⟩
    | 10 => exact absurd rfl h
    | 7 | 8 | 9 => simp only [lifeLen]; exact ⟨Nat.zero_le _, Nat.zero_le _⟩
    | k + 11 =>
      have e : lifeBnd (k + 11) = (0, 300) := by simp [lifeBnd, beq_of]
      rw [e]
      exact ⟨Nat.zero_le _, Nat.zero_le _⟩
theorem life_calls {F : Facts} {c n : Int} (hc : -9223372036854775808 ≤ c ∧ c ≤ 9223372036854775807) (hn : -9223372036854775808 ≤ n ∧ n ≤ 9223372036854775807) {W : World} (ht : Lib.TabIs Tryz.prog W "internal/strconv.uint64pow10" .u64 Lib.pow10Tab)
    (hF : ∀ g v o, ∀ e ∈ F, FactOk (lifeAt c n g v o) e) {fuel : Nat} {f : FuncId} (h : saysTrue ((evF (lifePr F) fuel).call f [qn (-9223372036854775808) [0], qn (-9223372036854775808) [1]] st0) = true) :
    Calls Tryz.prog f #[.int .i64 c, .int .i64 n] W fun e W' => e = .returned (.bool true) ∧ Ext W W' := by
  have hfol : Tryz.prog.follows .rangeFuncRecover = true := by kernel_rfl
  have hmix : Tryz.prog.follows .mixedOrders = true := by kernel_rfl
  obtain ⟨σ', h⟩ := saysTrue_ok h
  rw [evF_eq] at h
  have t4 := tmod_bounds (1 + (n.tmod 1000 + 999))
  have ht' := ht
  unfold Lib.TabIs World.var? at ht'
  cases hg : Tryz.prog.globalNamed "internal/strconv.uint64pow10" with
  | none => rw [hg] at ht'; cases ht'
  | some g =>
    rw [hg] at ht'
    simp only [Option.bind_some] at ht'
    cases ho : W.heap[g]? with
    | none => rw [ho] at ht'; cases ht'
    | some o =>
      rw [ho] at ht'
      cases o with
      | cells cs e fr =>
        simp only [Option.some.injEq] at ht'
        have hα : AtOk (lifePr F) (lifeAt c n g (.i .u64 1) (.cells cs e fr)) := ⟨fun j => lifeBnd_ok hc hn j, fun j n' cs' hw => (by cases hw), fun g n' cs' hw => (by cases hw), fun op a b r hr P o A w t x y u μ X Y h1 h2 h3 h4 h5 => facts_ok (hF _ _ _) hr P o A w t x y u μ X Y h1 h2 h3 h4 h5⟩
        have l5 : (lifeAt c n g (.i .u64 1) (.cells cs e fr) 5).length = lifeLen c n 5 := lifeAt_len (by decide)
        have hI := (ev_ok hα (prAllOk _ _ _ _ _ _) (fun f args σ v ho => (by cases ho)) (fun f args v σ ho' => lifeOrn_ok hg ht' ⟨e, fr, rfl⟩ rfl (by simp [lifeAt]) rfl (by rw [l5]; simp only [lifeLen]; omega) (by rw [l5]; rfl) f args v σ ho') hfol hmix fuel).call f _ st0 σ' _ h
        have l0 : (lifeAt c n g (.i .u64 1) (.cells cs e fr) 0).length = lifeLen c n 0 := lifeAt_len (by decide)
        have l1 : (lifeAt c n g (.i .u64 1) (.cells cs e fr) 1).length = lifeLen c n 1 := lifeAt_len (by decide)
        have hx : concL (lifeAt c n g (.i .u64 1) (.cells cs e fr)) (fun _ => none) [qn (-9223372036854775808) [0], qn (-9223372036854775808) [1]] = some [.int .i64 c, .int .i64 n] := by
          have e0 : -9223372036854775808 + (((lifeLen c n 0 : Nat) : Int) + 0) = c := by simp only [lifeLen]; omega
          have e1 : -9223372036854775808 + (((lifeLen c n 1 : Nat) : Int) + 0) = n := by simp only [lifeLen]; omega
          simp only [concL, conc, qn, lenP, l0, l1, e0, e1]
        refine (ev_calls hI hx (fun j i v hv => ?_) (fun j o h1 h2 => ?_)).mono ?_
        · simp only [lifeAt] at hv
          by_cases hj : j = 50
          · rw [if_pos hj] at hv
            cases i with
            | zero =>
              simp only [List.getElem?_cons_zero, Option.some.injEq] at hv
              subst hv
              refine ⟨.int .u64 1, by simp only [conc], ?_⟩
              show W.cell? ⟨g, 0 + 0, none⟩ = some _
              simp only [World.cell?, ho, ht']
              rfl
            | succ i => simp at hv
          · rw [if_neg hj] at hv; simp at hv
        · simp only [lifeAt] at h1
          by_cases hj : j = 50
          · rw [if_pos hj] at h1
            cases h1
            exact ho
          · rw [if_neg hj] at h1; cases h1
        · rintro e W' ⟨x, μ', rfl, h1, h2⟩
          simp only [conc, Option.some.injEq] at h1
          subst h1
          exact ⟨rfl, h2⟩
      | _ => cases ht'
end Go.Proofs.YtkhggadoagdhfaaGreatDoor
