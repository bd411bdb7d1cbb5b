/- CstrLife: what is known of the calls is so. -/
import Derived.Test.YtkhggadoagdhfaaGreatDoorLifeW
namespace Go.Proofs.YtkhggadoagdhfaaGreatDoor
open Go.Eng Go.Pm Go.RowKit
theorem isTen_eq {v : V} (h : isTen v = true) : v = .s [.a 10] := by
  unfold isTen at h
  split at h
  · rw [Nat.eq_of_beq_eq_true h]
  · cases h
theorem lifeOrn_ok {α : At} {g : Nat} {o : Obj} {cs : Array Value} (hg : Tryz.prog.globalNamed "internal/strconv.uint64pow10" = some g) (hcs : cs = (Lib.pow10Tab.map fun z => Value.int .u64 z).toArray) (ho : ∃ e fr, o = .cells cs e fr)
    (hb : α.blk 50 = some o) (hw : α.wc 50 ≠ []) (hwg : (α.win 50).1 = g) (b5 : (α 5).length ≤ 999) (h10 : α 10 = Lib.itoa (1 + ((α 5).length : Int))) (f : FuncId) (args : List V) (v : V) (σ : St) (h : lifeOrn f args = some v) : CallN Tryz.prog α f args σ σ v := by
  unfold lifeOrn at h
  split at h
  · rename_i x
    cases h1 : (Nat.beq f 8 && vEq x (qn 1 [5])) with
    | true =>
      rw [h1] at h
      simp only [cond_true, Option.some.injEq] at h
      simp only [Bool.and_eq_true] at h1
      obtain rfl := Nat.eq_of_beq_eq_true h1.1
      obtain rfl := vEq_eq h1.2
      subst h
      refine callN_of fun μ C w M N vals hpre hx => ?_
      obtain rfl : vals = [.int .i64 (1 + ((α 5).length : Int))] := by
        simp only [concL, conc, qn, lenP, Int.add_zero] at hx
        simpa using hx.symm
      refine ⟨.string ⟨(Lib.itoa (1 + ((α 5).length : Int))).toArray⟩, by simp [conc, bytesP, h10], ?_⟩
      refine (refPrint (Base.of w) [] w (1 + ((α 5).length : Int)) (by omega) (by omega) (Inv.start w)).mono ?_
      rintro e w' ⟨he, hi⟩
      exact ⟨he, ext_of hi⟩
    | false =>
      rw [h1] at h
      simp only [cond_false] at h
      cases h2 : (Nat.beq f 60 && isTen x) with
      | true =>
        rw [h2] at h
        simp only [cond_true, Option.some.injEq] at h
        simp only [Bool.and_eq_true] at h2
        obtain rfl := Nat.eq_of_beq_eq_true h2.1
        obtain rfl := isTen_eq h2.2
        subst h
        refine callN_of fun μ C w M N vals hpre hx => ?_
        obtain rfl : vals = [.string ⟨(Lib.itoa (1 + ((α 5).length : Int))).toArray⟩] := by
          simp only [concL, conc, bytesP, h10, List.append_nil] at hx
          simpa using hx.symm
        have hf := hpre.sim.full 50 o hb hw
        rw [hwg] at hf
        have ht : Lib.TabIs Tryz.prog w "internal/strconv.uint64pow10" .u64 Lib.pow10Tab := by
          obtain ⟨e, fr, rfl⟩ := ho
          unfold Lib.TabIs World.var?
          rw [hg, Option.bind_some, hf, hcs]
        refine ⟨.tuple #[.int .i64 (1 + ((α 5).length : Int)), .bool true], by simp [conc, concL, qn, lenP], ?_⟩
        refine (numParse (Base.of w) [] (formatsInt _ _ w ⟨fun _ _ h => h, Nat.le_refl _, rfl, rfl, rfl⟩ ht) (parsesInt _ _) w (1 + ((α 5).length : Int)) (by omega) (by omega) (Inv.start w)).mono ?_
        rintro e w' ⟨he, hi⟩
        exact ⟨he, ext_of hi⟩
      | false => rw [h2] at h; cases h
  · cases h
end Go.Proofs.YtkhggadoagdhfaaGreatDoor
