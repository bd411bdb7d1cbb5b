/- CstrLife: its numbers, and what is known of them. -/
import Derived.Test.YtkhggadoagdhfaaGreatDoorEngG
import Derived.Test.YtkhggadoagdhfaaGreatDoorNumSh
import Derived.Test.YtkhggadoagdhfaaGreatDoorRefPrint
import Derived.Test.YtkhggadoagdhfaaGreatDoorLaw
namespace Go.Proofs.YtkhggadoagdhfaaGreatDoor
open Go.RowKit Go.Pm Go.Eng
def qn (c : Int) (l : List Nat) : V := .q .i64 c l
def lifeA : Facts := [(.rem, qn (-9223372036854775808) [0], .i .i64 1000, qn (-999) [2]), (.rem, qn 1 [2], .i .i64 1000, qn 1 [4]), (.rem, qn (-9223372036854775808) [1], .i .i64 1000, qn (-999) [3]), (.rem, qn 1 [3], .i .i64 1000, qn 0 [5]), (.add, .i .i64 1, qn 0 [5], qn 1 [5]),
  (.add, qn 1 [4], qn 1 [5], qn 2 [4, 5]), (.neq, qn 2 [4, 5], qn 2 [4, 5], .b false), (.eql, qn 2 [4, 5], qn 2 [4, 5], .b true), (.sub, .i .i64 9223372036854775807, qn 1 [5], qn 9223372036854774000 [6]), (.gtr, qn 1 [4], qn 9223372036854774000 [6], .b false), (.leq, qn 2 [4, 5], qn 1 [4], .b false), (.lss, qn 1 [4], qn 2 [4, 5], .b true), (.gtr, qn 2 [4, 5], qn 1 [4], .b true), (.gtr, qn 1 [4], qn 2 [4, 5], .b false), (.lss, qn 2 [4, 5], qn 1 [4], .b false), (.geq, qn 1 [4], qn 2 [4, 5], .b false)]
def lifeBnd (j : Nat) : Nat × Nat :=
  cond (Nat.beq j 0) (0, 18446744073709551615) (cond (Nat.beq j 1) (0, 18446744073709551615) (cond (Nat.beq j 2) (0, 1998) (cond (Nat.beq j 3) (0, 1998) (cond (Nat.beq j 4) (0, 998) (cond (Nat.beq j 5) (0, 999) (cond (Nat.beq j 6) (0, 2000) (cond (Nat.beq j 10) (1, 20) (0, 300))))))))
def isTen : V → Bool
  | .s [.a j] => Nat.beq j 10
  | _ => false
def lifeOrn (f : FuncId) (args : List V) : Option V := match args with
  | [x] => cond (Nat.beq f 8 && vEq x (qn 1 [5])) (some (.s [.a 10])) (cond (Nat.beq f 60 && isTen x) (some (.u [qn 1 [5], .b true])) none)
  | _ => none
noncomputable def lifePr (F : Facts) : Pr := prAll Tryz.prog lifeBnd (fun _ => none) (fun _ _ => none) lifeOrn (findF F)
theorem lifeA_ok {α : At} (h2 : ((α 2).length : Int) = (-9223372036854775808 + ((α 0).length : Int)).tmod 1000 + 999) (h3 : ((α 3).length : Int) = (-9223372036854775808 + ((α 1).length : Int)).tmod 1000 + 999)
    (h4 : ((α 4).length : Int) = (1 + ((α 2).length : Int)).tmod 1000 - 1) (h5 : ((α 5).length : Int) = (1 + ((α 3).length : Int)).tmod 1000) (h6 : (α 6).length + (α 5).length = 1806) (b4 : (α 4).length ≤ 998) (b5 : (α 5).length ≤ 999) : ∀ e ∈ lifeA, FactOk α e := by
  intro e he
  simp only [lifeA, List.mem_cons, List.not_mem_nil, or_false] at he
  rcases he with rfl | rfl | rfl | rfl | rfl | rfl | rfl | rfl | rfl | rfl | rfl | rfl | rfl | rfl | rfl | rfl
  · exact ⟨_, _, rfl, rfl, _, rfl, by simp only [lenP, Int.add_zero]; omega, by decide⟩
  · exact ⟨_, _, rfl, rfl, _, rfl, by simp only [lenP, Int.add_zero]; omega, by decide⟩
  · exact ⟨_, _, rfl, rfl, _, rfl, by simp only [lenP, Int.add_zero]; omega, by decide⟩
  · exact ⟨_, _, rfl, rfl, _, rfl, by simp only [lenP, Int.add_zero]; omega, by decide⟩
  · exact ⟨_, _, rfl, rfl, _, rfl, by simp only [lenP, Int.add_zero]; omega, by simp only [lenP]; omega, by simp only [lenP]; omega⟩
  · exact ⟨_, _, rfl, rfl, _, rfl, by simp only [lenP, Int.add_zero]; omega, by simp only [lenP]; omega, by simp only [lenP]; omega⟩
  · exact ⟨_, _, rfl, rfl, by simp⟩
  · exact ⟨_, _, rfl, rfl, by simp⟩
  · exact ⟨_, _, rfl, rfl, _, rfl, by simp only [lenP, Int.add_zero]; omega, by simp only [lenP]; omega, by simp only [lenP]; omega⟩
  all_goals exact ⟨_, _, rfl, rfl, by simp only [lenP]; congr 1; simp; omega⟩
def lifeZ : Facts := [(.rem, qn (-9223372036854775808) [0], .i .i64 1000, qn (-999) [2]), (.rem, qn 1 [2], .i .i64 1000, .i .i64 0), (.rem, qn (-9223372036854775808) [1], .i .i64 1000, qn (-999) [3]), (.rem, qn 1 [3], .i .i64 1000, qn 0 [5]), (.add, .i .i64 1, qn 0 [5], qn 1 [5]),
  (.sub, .i .i64 9223372036854775807, qn 1 [5], qn 9223372036854774000 [6]), (.neq, qn 1 [5], qn 1 [5], .b false), (.eql, qn 1 [5], qn 1 [5], .b true)]
theorem lifeZ_ok {α : At} (h2 : ((α 2).length : Int) = (-9223372036854775808 + ((α 0).length : Int)).tmod 1000 + 999) (h3 : ((α 3).length : Int) = (-9223372036854775808 + ((α 1).length : Int)).tmod 1000 + 999)
    (h4 : (1 + ((α 2).length : Int)).tmod 1000 = 0) (h5 : ((α 5).length : Int) = (1 + ((α 3).length : Int)).tmod 1000) (h6 : (α 6).length + (α 5).length = 1806) (b5 : (α 5).length ≤ 999) : ∀ e ∈ lifeZ, FactOk α e := by
  intro e he
  simp only [lifeZ, List.mem_cons, List.not_mem_nil, or_false] at he
  rcases he with rfl | rfl | rfl | rfl | rfl | rfl | rfl | rfl
  · exact ⟨_, _, rfl, rfl, _, rfl, by simp only [lenP, Int.add_zero]; omega, by decide⟩
  · exact ⟨_, _, rfl, rfl, _, rfl, by simp only [lenP, Int.add_zero]; omega, by decide⟩
  · exact ⟨_, _, rfl, rfl, _, rfl, by simp only [lenP, Int.add_zero]; omega, by decide⟩
  · exact ⟨_, _, rfl, rfl, _, rfl, by simp only [lenP, Int.add_zero]; omega, by decide⟩
  · exact ⟨_, _, rfl, rfl, _, rfl, by simp only [lenP, Int.add_zero]; omega, by simp only [lenP]; omega, by simp only [lenP]; omega⟩
  · exact ⟨_, _, rfl, rfl, _, rfl, by simp only [lenP, Int.add_zero]; omega, by simp only [lenP]; omega, by simp only [lenP]; omega⟩
  · exact ⟨_, _, rfl, rfl, by simp⟩
  · exact ⟨_, _, rfl, rfl, by simp⟩
end Go.Proofs.YtkhggadoagdhfaaGreatDoor
