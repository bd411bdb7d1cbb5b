/- CstrCounts: what is known of the calls is so. -/
import Derived.Test.YtkhggadoagdhfaaGreatDoorCntW
namespace Go.Proofs.YtkhggadoagdhfaaGreatDoor
open Go.Eng Go.Pm Go.RowKit
def I64 (n : Int) : Prop := -9223372036854775808 ≤ n ∧ n ≤ 9223372036854775807
/-- what the three texts are: the numbers of the three lengths -/
structure CntTxt (α : At) (a b s : Int) : Prop where
  a0 : I64 a
  b0 : I64 b
  s0 : I64 s
  h0 : ((α 0).length : Int) = a + 9223372036854775808
  h1 : ((α 1).length : Int) = b + 9223372036854775808
  h2 : ((α 2).length : Int) = s + 9223372036854775808
  t0 : α 10 = Lib.itoa a
  t1 : α 11 = Lib.itoa b
  t2 : α 12 = Lib.itoa s
theorem isTxt_eq {v : V} {j : Nat} (h : isTxt v = some j) : v = .s [.a j] := by
  unfold isTxt at h
  split at h
  · cases h; rfl
  · cases h
theorem q_conc {α : At} {μ : Mu} {j : Nat} {n : Int} (h : ((α j).length : Int) = n + 9223372036854775808) : conc α μ (qn (-9223372036854775808) [j]) = some (.int .i64 n) := by
  simp only [conc, qn, lenP, Int.add_zero]
  rw [h]
  congr 2
  omega
theorem txtNum_ok {α : At} {a b s : Int} (ht : CntTxt α a b s) {x v : V} (h : txtNum x = some v) : ∃ n, I64 n ∧ (∀ μ, conc α μ x = some (.int .i64 n)) ∧ ∀ μ, conc α μ v = some (.string ⟨(Lib.itoa n).toArray⟩) := by
  unfold txtNum at h
  cases h1 : vEq x (qn (-9223372036854775808) [0]) with
  | true =>
    rw [h1] at h
    simp only [cond_true, Option.some.injEq] at h
    subst h
    rw [vEq_eq h1]
    exact ⟨a, ht.a0, fun μ => q_conc ht.h0, fun μ => by simp [conc, bytesP, ht.t0]⟩
  | false =>
    rw [h1] at h
    simp only [cond_false] at h
    cases h2 : vEq x (qn (-9223372036854775808) [1]) with
    | true =>
      rw [h2] at h
      simp only [cond_true, Option.some.injEq] at h
      subst h
      rw [vEq_eq h2]
      exact ⟨b, ht.b0, fun μ => q_conc ht.h1, fun μ => by simp [conc, bytesP, ht.t1]⟩
    | false =>
      rw [h2] at h
      simp only [cond_false] at h
      cases h3 : vEq x (qn (-9223372036854775808) [2]) with
      | true =>
        rw [h3] at h
        simp only [cond_true, Option.some.injEq] at h
        subst h
        rw [vEq_eq h3]
        exact ⟨s, ht.s0, fun μ => q_conc ht.h2, fun μ => by simp [conc, bytesP, ht.t2]⟩
      | false => rw [h3] at h; cases h
theorem numTxt_ok {α : At} {a b s : Int} (ht : CntTxt α a b s) {j : Nat} {v : V} (h : numTxt j = some v) : ∃ n, I64 n ∧ α j = Lib.itoa n ∧ ∀ μ, conc α μ v = some (.int .i64 n) := by
  unfold numTxt at h
  cases h1 : Nat.beq j 10 with
  | true =>
    rw [h1] at h
    simp only [cond_true, Option.some.injEq] at h
    subst h
    rw [Nat.eq_of_beq_eq_true h1]
    exact ⟨a, ht.a0, ht.t0, fun μ => q_conc ht.h0⟩
  | false =>
    rw [h1] at h
    simp only [cond_false] at h
    cases h2 : Nat.beq j 11 with
    | true =>
      rw [h2] at h
      simp only [cond_true, Option.some.injEq] at h
      subst h
      rw [Nat.eq_of_beq_eq_true h2]
      exact ⟨b, ht.b0, ht.t1, fun μ => q_conc ht.h1⟩
    | false =>
      rw [h2] at h
      simp only [cond_false] at h
      cases h3 : Nat.beq j 12 with
      | true =>
        rw [h3] at h
        simp only [cond_true, Option.some.injEq] at h
        subst h
        rw [Nat.eq_of_beq_eq_true h3]
        exact ⟨s, ht.s0, ht.t2, fun μ => q_conc ht.h2⟩
      | false => rw [h3] at h; cases h
theorem cntOrn_ok {α : At} {a b s : Int} {ov : Bool} (ht : CntTxt α a b s) (hov : ov = true → ¬ I64 (a + b)) (hs : ov = false → s = a + b) {g : Nat} {o : Obj} {cs : Array Value} (hg : Tryz.prog.globalNamed "internal/strconv.uint64pow10" = some g) (hcs : cs = (Lib.pow10Tab.map fun z => Value.int .u64 z).toArray) (ho : ∃ e fr, o = .cells cs e fr)
    (hb : α.blk 50 = some o) (hw : α.wc 50 ≠ []) (hwg : (α.win 50).1 = g) (f : FuncId) (args : List V) (v : V) (σ : St) (h : cntOrn ov f args = some v) : CallN Tryz.prog α f args σ σ v := by
  have htab : ∀ {μ C w M N}, Pre Tryz.prog α μ C σ w M N → Lib.TabIs Tryz.prog w "internal/strconv.uint64pow10" .u64 Lib.pow10Tab := by
    intro μ C w M N hpre
    have hf := hpre.sim.full 50 o hb hw
    rw [hwg] at hf
    obtain ⟨e, fr, rfl⟩ := ho
    unfold Lib.TabIs World.var?
    rw [hg, Option.bind_some, hf, hcs]
  unfold cntOrn at h
  split at h
  · rename_i x
    cases h1 : (Nat.beq f 8 || Nat.beq f 71) with
    | true =>
      rw [h1] at h
      simp only [cond_true] at h
      obtain ⟨n, hn, c1, c2⟩ := txtNum_ok ht h
      refine callN_of fun μ C w M N vals hpre hx => ⟨_, c2 μ, ?_⟩
      obtain rfl : vals = [.int .i64 n] := by
        simp only [concL, c1 μ] at hx
        simpa using hx.symm
      rcases Bool.or_eq_true_iff.1 h1 with h2 | h2
      · obtain rfl := Nat.eq_of_beq_eq_true h2
        refine (refPrint (Base.of w) [] w n hn.1 hn.2 (Inv.start w)).mono ?_
        rintro e w' ⟨he, hi⟩
        exact ⟨he, ext_of hi⟩
      · obtain rfl := Nat.eq_of_beq_eq_true h2
        refine (numPrint (Base.of w) [] (formatsInt _ _ w ⟨fun _ _ h => h, Nat.le_refl _, rfl, rfl, rfl⟩ (htab hpre)) w n hn.1 hn.2 (Inv.start w)).mono ?_
        rintro e w' ⟨he, hi⟩
        exact ⟨he, ext_of hi⟩
    | false =>
      rw [h1] at h
      simp only [cond_false] at h
      cases h2 : Nat.beq f 60 with
      | true =>
        rw [h2] at h
        simp only [cond_true] at h
        obtain rfl := Nat.eq_of_beq_eq_true h2
        split at h
        · rename_i j hj
          split at h
          · rename_i v' hv'
            cases h
            obtain ⟨n, hn, e1, c1⟩ := numTxt_ok ht hv'
            obtain rfl := isTxt_eq hj
            refine callN_of fun μ C w M N vals hpre hx => ⟨.tuple #[.int .i64 n, .bool true], by simp [conc, concL, c1 μ], ?_⟩
            obtain rfl : vals = [.string ⟨(Lib.itoa n).toArray⟩] := by
              simp only [concL, conc, bytesP, e1, List.append_nil] at hx
              simpa using hx.symm
            refine (numParse (Base.of w) [] (formatsInt _ _ w ⟨fun _ _ h => h, Nat.le_refl _, rfl, rfl, rfl⟩ (htab hpre)) (parsesInt _ _) w n hn.1 hn.2 (Inv.start w)).mono ?_
            rintro e w' ⟨he, hi⟩
            exact ⟨he, ext_of hi⟩
          · cases h
        · cases h
      | false => rw [h2] at h; cases h
  · rename_i x y
    cases h1 : (Nat.beq f 9 && vEq x (qn (-9223372036854775808) [0]) && vEq y (qn (-9223372036854775808) [1])) with
    | true =>
      rw [h1] at h
      simp only [cond_true, Option.some.injEq] at h
      subst h
      simp only [Bool.and_eq_true] at h1
      obtain rfl := Nat.eq_of_beq_eq_true h1.1.1
      obtain rfl := vEq_eq h1.1.2
      obtain rfl := vEq_eq h1.2
      have hs0 := ht.s0
      refine callN_of fun μ C w M N vals hpre hx => ⟨.tuple #[.int .i64 (cond ov 0 s), .bool (!ov)], ?_, ?_⟩
      · cases ov with
        | true => simp [conc, concL]
        | false => simp [conc, concL, q_conc ht.h2]
      · obtain rfl : vals = [.int .i64 a, .int .i64 b] := by
          simp only [concL, q_conc ht.h0, q_conc ht.h1] at hx
          simpa using hx.symm
        refine (refAdd (Base.of w) [] w a b (cond ov 0 s) (!ov) ht.a0.1 ht.a0.2 ht.b0.1 ht.b0.2 ?_ (Inv.start w)).mono ?_
        · cases ov with
          | true =>
            have := hov rfl
            unfold I64 at this
            exact .inr ⟨by omega, rfl, rfl⟩
          | false =>
            have := hs rfl
            subst this
            exact .inl ⟨hs0.1, hs0.2, rfl, rfl⟩
        · rintro e w' ⟨he, hi⟩
          exact ⟨he, ext_of hi⟩
    | false => rw [h1] at h; cases h
  · cases h
end Go.Proofs.YtkhggadoagdhfaaGreatDoor
