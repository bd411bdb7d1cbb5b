/- CstrCounts: a run is true for the two numbers. -/
import Derived.Test.YtkhggadoagdhfaaGreatDoorCntOrn
import Derived.Deep.LoopGhost
namespace Go.Proofs.YtkhggadoagdhfaaGreatDoor
open Go.Eng Go.Pm Go.RowKit
/-- a number that is a sum, or nought -/
def fitOr (n : Int) : Int := if -9223372036854775808 ≤ n ∧ n ≤ 9223372036854775807 then n else 0
theorem fitOr_in (n : Int) : I64 (fitOr n) := by unfold fitOr I64; split <;> omega
theorem fitOr_eq {n : Int} (h : I64 n) : fitOr n = n := if_pos h
def cntLen (a b : Int) (j : Nat) : Nat := match j with
  | 0 => (a + 9223372036854775808).toNat
  | 1 => (b + 9223372036854775808).toNat
  | 2 => (fitOr (a + b) + 9223372036854775808).toNat
  | 3 => 9223372036854775808 - b.natAbs
  | 4 => b.natAbs
  | 5 => (fitOr (a + b + b) + 9223372036854775808).toNat
  | _ => 0
def cntAt (a b : Int) (g : Nat) (v : V) (o : Obj) : At where
  txt j := if j = 10 then Lib.itoa a else if j = 11 then Lib.itoa b else if j = 12 then Lib.itoa (fitOr (a + b)) else List.replicate (cntLen a b j) 0
  win _ := (g, 0, 1, 1)
  wc j := if j = 50 then [v] else []
  spot _ := none
  blk j := if j = 50 then some o else none
theorem cntAt_len {a b : Int} {g : Nat} {v : V} {o : Obj} {j : Nat} (h : j < 10) : (cntAt a b g v o j).length = cntLen a b j := by
  show (if j = 10 then _ else if j = 11 then _ else if j = 12 then _ else List.replicate _ _).length = _
  rw [if_neg (by omega), if_neg (by omega), if_neg (by omega), List.length_replicate]
theorem cntBnd_ok {a b : Int} (ha : I64 a) (hb : I64 b) {g : Nat} {v : V} {o : Obj} (j : Nat) : (cntBnd j).1 ≤ (cntAt a b g v o j).length ∧ (cntAt a b g v o j).length ≤ (cntBnd j).2 := by
  have f1 := fitOr_in (a + b)
  have f2 := fitOr_in (a + b + b)
  unfold I64 at ha hb f1 f2
  match j with
  | 10 => exact itoa_length a ha.1 ha.2
  | 11 => exact itoa_length b hb.1 hb.2
  | 12 => exact itoa_length _ f1.1 f1.2
  | 0 | 1 | 2 | 3 | 4 | 5 =>
    rw [cntAt_len (by decide)]
    simp only [cntLen]
    show _ ∧ _ ≤ 18446744073709551615
    exact ⟨Nat.zero_le _, by omega⟩
  | 6 | 7 | 8 | 9 =>
    rw [cntAt_len (by decide)]
    simp only [cntLen]
    exact ⟨Nat.zero_le _, Nat.zero_le _⟩
  | k + 13 =>
    have e : cntBnd (k + 13) = (0, 300) := by
      have h1 : Nat.blt (k + 13) 6 = false := Bool.eq_false_iff.2 fun h => by have := Nat.le_of_ble_eq_true h; omega
      have h3 : Nat.blt (k + 13) 10 = false := Bool.eq_false_iff.2 fun h => by have := Nat.le_of_ble_eq_true h; omega
      have h2 : Nat.blt (k + 13) 13 = false := Bool.eq_false_iff.2 fun h => by have := Nat.le_of_ble_eq_true h; omega
      simp [cntBnd, h1, h2, h3]
    rw [e]
    have e2 : cntAt a b g v o (k + 13) = [] := by
      show (if k + 13 = 10 then Lib.itoa a else if k + 13 = 11 then Lib.itoa b else if k + 13 = 12 then Lib.itoa (fitOr (a + b)) else List.replicate (cntLen a b (k + 13)) 0) = []
      rw [if_neg (by omega), if_neg (by omega), if_neg (by omega)]
      rfl
    rw [e2]
    exact ⟨Nat.zero_le _, Nat.zero_le _⟩
theorem cnt_txt {a b : Int} (ha : I64 a) (hb : I64 b) {g : Nat} {v : V} {o : Obj} : CntTxt (cntAt a b g v o) a b (fitOr (a + b)) where
  a0 := ha
  b0 := hb
  s0 := fitOr_in _
  h0 := by rw [cntAt_len (by decide)]; unfold I64 at ha; simp only [cntLen]; omega
  h1 := by rw [cntAt_len (by decide)]; unfold I64 at hb; simp only [cntLen]; omega
  h2 := by rw [cntAt_len (by decide)]; have h := fitOr_in (a + b); unfold I64 at h; simp only [cntLen]; omega
  t0 := rfl
  t1 := rfl
  t2 := rfl
theorem cntT_ok {a b : Int} (ha : I64 a) (hb : I64 b) {g : Nat} {v : V} {o : Obj} : ∀ e ∈ cntT, TFactOk (cntAt a b g v o) e := by
  have key : ∀ n : Int, I64 n → Lib.itoa n ≠ [] := fun n hn h => by
    have := itoa_length n hn.1 hn.2
    rw [h] at this
    simp at this
  intro e he
  simp only [cntT, List.mem_cons, List.not_mem_nil, or_false] at he
  rcases he with rfl | rfl | rfl <;> (unfold TFactOk; simp only [bytesP, List.append_nil]; refine decide_eq_false ?_)
  · exact key _ ha
  · exact key _ hb
  · exact key _ (fitOr_in _)
theorem cnt_calls {F : Facts} {ov : Bool} {a b : Int} (ha : I64 a) (hb : I64 b) (hov : ov = true → ¬ I64 (a + b)) (hs : ov = false → I64 (a + b)) {W : World} (ht : Lib.TabIs Tryz.prog W "internal/strconv.uint64pow10" .u64 Lib.pow10Tab)
    (hF : ∀ g v o, ∀ e ∈ F, FactOk (cntAt a b g v o) e) {fuel : Nat} {f : FuncId} (h : saysTrue ((evF (cntPr ov F) fuel).call f [qn (-9223372036854775808) [0], qn (-9223372036854775808) [1]] st0) = true) :
    Calls Tryz.prog f #[.int .i64 a, .int .i64 b] W fun e W' => e = .returned (.bool true) ∧ Ext W W' := by
  have hfol : Tryz.prog.follows .rangeFuncRecover = true := by kernel_rfl
  have hmix : Tryz.prog.follows .mixedOrders = true := by kernel_rfl
  obtain ⟨σ', h⟩ := saysTrue_ok h
  rw [evF_eq] at h
  have ht' := ht
  unfold Lib.TabIs World.var? at ht'
  cases hg : Tryz.prog.globalNamed "internal/strconv.uint64pow10" with
  | none => rw [hg] at ht'; cases ht'
  | some g =>
    rw [hg] at ht'
    simp only [Option.bind_some] at ht'
    cases ho : W.heap[g]? with
    | none => rw [ho] at ht'; cases ht'
    | some o =>
      rw [ho] at ht'
      cases o with
      | cells cs e fr =>
        simp only [Option.some.injEq] at ht'
        have hα : AtOk (cntPr ov F) (cntAt a b g (.i .u64 1) (.cells cs e fr)) := ⟨fun j => cntBnd_ok ha hb j, fun j n' cs' hw => (by cases hw), fun g n' cs' hw => (by cases hw), fun op a b r hr P o A w t x y u μ X Y h1 h2 h3 h4 h5 => ftacts_ok (hF _ _ _) (cntT_ok ha hb) hr P o A w t x y u μ X Y h1 h2 h3 h4 h5⟩
        have hI := (ev_ok hα (prAllOk _ _ _ _ _ _) (fun f args σ v ho => (by cases ho)) (fun f args v σ ho' => cntOrn_ok (cnt_txt ha hb) hov (fun h => fitOr_eq (hs h)) hg ht' ⟨e, fr, rfl⟩ rfl (by simp [cntAt]) rfl f args v σ ho') hfol hmix fuel).call f _ st0 σ' _ h
        have hx : concL (cntAt a b g (.i .u64 1) (.cells cs e fr)) (fun _ => none) [qn (-9223372036854775808) [0], qn (-9223372036854775808) [1]] = some [.int .i64 a, .int .i64 b] := by
          simp only [concL, q_conc (cnt_txt ha hb).h0, q_conc (cnt_txt ha hb).h1]
        refine (ev_calls hI hx (fun j i v hv => ?_) (fun j o h1 h2 => ?_)).mono ?_
        · simp only [cntAt] at hv
          by_cases hj : j = 50
          · rw [if_pos hj] at hv
            cases i with
            | zero =>
              simp only [List.getElem?_cons_zero, Option.some.injEq] at hv
              subst hv
              refine ⟨.int .u64 1, by simp only [conc], ?_⟩
              show W.cell? ⟨g, 0 + 0, none⟩ = some _
              simp only [World.cell?, ho, ht']
              rfl
            | succ i => simp at hv
          · rw [if_neg hj] at hv; simp at hv
        · simp only [cntAt] at h1
          by_cases hj : j = 50
          · rw [if_pos hj] at h1
            cases h1
            exact ho
          · rw [if_neg hj] at h1; cases h1
        · rintro e W' ⟨x, μ', rfl, h1, h2⟩
          simp only [conc, Option.some.injEq] at h1
          subst h1
          exact ⟨rfl, h2⟩
      | _ => cases ht'
end Go.Proofs.YtkhggadoagdhfaaGreatDoor
