/- CstrCounts: its numbers, and what is known of them. -/
import Derived.Test.YtkhggadoagdhfaaGreatDoorEngG
import Derived.Test.YtkhggadoagdhfaaGreatDoorNumSh
import Derived.Test.YtkhggadoagdhfaaGreatDoorRefPrint
import Derived.Test.YtkhggadoagdhfaaGreatDoorRefAdd
import Derived.Test.YtkhggadoagdhfaaGreatDoorLaw
namespace Go.Proofs.YtkhggadoagdhfaaGreatDoor
open Go.RowKit Go.Pm Go.Eng
def qn (c : Int) (l : List Nat) : V := .q .i64 c l
def cntBnd (j : Nat) : Nat × Nat := cond (Nat.blt j 6) (0, 18446744073709551615) (cond (Nat.blt j 10) (0, 300) (cond (Nat.blt j 13) (1, 20) (0, 300)))
def isTxt : V → Option Nat
  | .s [.a j] => some j
  | _ => none
def numTxt (j : Nat) : Option V := cond (Nat.beq j 10) (some (qn (-9223372036854775808) [0])) (cond (Nat.beq j 11) (some (qn (-9223372036854775808) [1])) (cond (Nat.beq j 12) (some (qn (-9223372036854775808) [2])) none))
def txtNum (x : V) : Option V := cond (vEq x (qn (-9223372036854775808) [0])) (some (.s [.a 10])) (cond (vEq x (qn (-9223372036854775808) [1])) (some (.s [.a 11])) (cond (vEq x (qn (-9223372036854775808) [2])) (some (.s [.a 12])) none))
def cntOrn (ov : Bool) (f : FuncId) (args : List V) : Option V := match args with
  | [x] => cond (Nat.beq f 8 || Nat.beq f 71) (txtNum x) (cond (Nat.beq f 60) (match isTxt x with
    | some j => match numTxt j with
      | some v => some (.u [v, .b true])
      | none => none
    | none => none) none)
  | [x, y] => cond (Nat.beq f 9 && vEq x (qn (-9223372036854775808) [0]) && vEq y (qn (-9223372036854775808) [1])) (some (cond ov (.u [.i .i64 0, .b false]) (.u [qn (-9223372036854775808) [2], .b true]))) none
  | _ => none
def cntT : TFacts := [([.a 10], [], false), ([.a 11], [], false), ([.a 12], [], false)]
noncomputable def cntPr (ov : Bool) (F : Facts) : Pr := prAll Tryz.prog cntBnd (fun _ => none) (fun _ _ => none) (cntOrn ov) (findFT F cntT)
def cntPo : Facts := [(.gtr, qn (-9223372036854775808) [1], .i .i64 0, .b true), (.lss, qn (-9223372036854775808) [1], .i .i64 0, .b false), (.add, qn (-9223372036854775808) [0], .i .i64 0, qn (-9223372036854775808) [0]), (.eql, qn (-9223372036854775808) [0], qn (-9223372036854775808) [0], .b true), (.neq, qn (-9223372036854775808) [0], qn (-9223372036854775808) [0], .b false), (.sub, .i .i64 9223372036854775807, qn (-9223372036854775808) [1], qn (-1) [3]), (.gtr, qn (-9223372036854775808) [0], qn (-1) [3], .b true)]
theorem cntPo_ok {α : At} {a b : Int} (a0 : -9223372036854775808 ≤ a ∧ a ≤ 9223372036854775807) (b0 : -9223372036854775808 ≤ b ∧ b ≤ 9223372036854775807) (h0 : ((α 0).length : Int) = a + 9223372036854775808) (h1 : ((α 1).length : Int) = b + 9223372036854775808) (h3 : ((α 3).length : Int) = 9223372036854775808 - (b.natAbs : Int)) (h4 : ((α 4).length : Int) = (b.natAbs : Int)) (hin : ¬ (-9223372036854775808 ≤ a + b ∧ a + b ≤ 9223372036854775807)) (hs : 0 < b) : ∀ e ∈ cntPo, FactOk α e := by
  intro e he
  simp only [cntPo, List.mem_cons, List.not_mem_nil, or_false] at he
  rcases he with rfl | rfl | rfl | rfl | rfl | rfl | rfl
  · exact ⟨_, _, rfl, rfl, by simp only [lenP]; congr 1; simp <;> omega⟩
  · exact ⟨_, _, rfl, rfl, by simp only [lenP]; congr 1; simp <;> omega⟩
  · exact ⟨_, _, rfl, rfl, _, rfl, by simp only [lenP, Int.add_zero] <;> omega, by simp only [lenP] <;> omega, by simp only [lenP] <;> omega⟩
  · exact ⟨_, _, rfl, rfl, by simp⟩
  · exact ⟨_, _, rfl, rfl, by simp⟩
  · exact ⟨_, _, rfl, rfl, _, rfl, by simp only [lenP, Int.add_zero] <;> omega, by simp only [lenP] <;> omega, by simp only [lenP] <;> omega⟩
  · exact ⟨_, _, rfl, rfl, by simp only [lenP]; congr 1; simp <;> omega⟩
def cntPn : Facts := [(.gtr, qn (-9223372036854775808) [1], .i .i64 0, .b true), (.lss, qn (-9223372036854775808) [1], .i .i64 0, .b false), (.add, qn (-9223372036854775808) [0], .i .i64 0, qn (-9223372036854775808) [0]), (.eql, qn (-9223372036854775808) [0], qn (-9223372036854775808) [0], .b true), (.neq, qn (-9223372036854775808) [0], qn (-9223372036854775808) [0], .b false), (.sub, .i .i64 9223372036854775807, qn (-9223372036854775808) [1], qn (-1) [3]), (.gtr, qn (-9223372036854775808) [0], qn (-1) [3], .b false), (.gtr, qn (-9223372036854775808) [2], qn (-1) [3], .b false), (.add, .i .i64 (-9223372036854775808), qn (-9223372036854775808) [1], qn (-9223372036854775808) [4]), (.lss, qn (-9223372036854775808) [2], qn (-9223372036854775808) [4], .b false), (.add, qn (-9223372036854775808) [0], qn (-9223372036854775808) [1], qn (-9223372036854775808) [2]), (.sub, qn (-9223372036854775808) [2], qn (-9223372036854775808) [1], qn (-9223372036854775808) [0]), (.add, qn (-9223372036854775808) [2], .i .i64 0, qn (-9223372036854775808) [2]), (.neq, qn (-9223372036854775808) [2], qn (-9223372036854775808) [2], .b false), (.eql, qn (-9223372036854775808) [2], qn (-9223372036854775808) [2], .b true), (.add, qn (-9223372036854775808) [2], qn (-9223372036854775808) [1], qn (-9223372036854775808) [5])]
theorem cntPn_ok {α : At} {a b : Int} (a0 : -9223372036854775808 ≤ a ∧ a ≤ 9223372036854775807) (b0 : -9223372036854775808 ≤ b ∧ b ≤ 9223372036854775807) (h0 : ((α 0).length : Int) = a + 9223372036854775808) (h1 : ((α 1).length : Int) = b + 9223372036854775808) (h3 : ((α 3).length : Int) = 9223372036854775808 - (b.natAbs : Int)) (h4 : ((α 4).length : Int) = (b.natAbs : Int)) (hin : -9223372036854775808 ≤ a + b ∧ a + b ≤ 9223372036854775807) (h2 : ((α 2).length : Int) = a + b + 9223372036854775808) (hin2 : -9223372036854775808 ≤ a + b + b ∧ a + b + b ≤ 9223372036854775807) (h5 : ((α 5).length : Int) = a + b + b + 9223372036854775808) (hs : 0 < b) : ∀ e ∈ cntPn, FactOk α e := by
  intro e he
  simp only [cntPn, List.mem_cons, List.not_mem_nil, or_false] at he
  rcases he with rfl | rfl | rfl | rfl | rfl | rfl | rfl | rfl | rfl | rfl | rfl | rfl | rfl | rfl | rfl | rfl
  · exact ⟨_, _, rfl, rfl, by simp only [lenP]; congr 1; simp <;> omega⟩
  · exact ⟨_, _, rfl, rfl, by simp only [lenP]; congr 1; simp <;> omega⟩
  · exact ⟨_, _, rfl, rfl, _, rfl, by simp only [lenP, Int.add_zero] <;> omega, by simp only [lenP] <;> omega, by simp only [lenP] <;> omega⟩
  · exact ⟨_, _, rfl, rfl, by simp⟩
  · exact ⟨_, _, rfl, rfl, by simp⟩
  · exact ⟨_, _, rfl, rfl, _, rfl, by simp only [lenP, Int.add_zero] <;> omega, by simp only [lenP] <;> omega, by simp only [lenP] <;> omega⟩
  · exact ⟨_, _, rfl, rfl, by simp only [lenP]; congr 1; simp <;> omega⟩
  · exact ⟨_, _, rfl, rfl, by simp only [lenP]; congr 1; simp <;> omega⟩
  · exact ⟨_, _, rfl, rfl, _, rfl, by simp only [lenP, Int.add_zero] <;> omega, by simp only [lenP] <;> omega, by simp only [lenP] <;> omega⟩
  · exact ⟨_, _, rfl, rfl, by simp only [lenP]; congr 1; simp <;> omega⟩
  · exact ⟨_, _, rfl, rfl, _, rfl, by simp only [lenP, Int.add_zero] <;> omega, by simp only [lenP] <;> omega, by simp only [lenP] <;> omega⟩
  · exact ⟨_, _, rfl, rfl, _, rfl, by simp only [lenP, Int.add_zero] <;> omega, by simp only [lenP] <;> omega, by simp only [lenP] <;> omega⟩
  · exact ⟨_, _, rfl, rfl, _, rfl, by simp only [lenP, Int.add_zero] <;> omega, by simp only [lenP] <;> omega, by simp only [lenP] <;> omega⟩
  · exact ⟨_, _, rfl, rfl, by simp⟩
  · exact ⟨_, _, rfl, rfl, by simp⟩
  · exact ⟨_, _, rfl, rfl, _, rfl, by simp only [lenP, Int.add_zero] <;> omega, by simp only [lenP] <;> omega, by simp only [lenP] <;> omega⟩
def cntPp : Facts := [(.gtr, qn (-9223372036854775808) [1], .i .i64 0, .b true), (.lss, qn (-9223372036854775808) [1], .i .i64 0, .b false), (.add, qn (-9223372036854775808) [0], .i .i64 0, qn (-9223372036854775808) [0]), (.eql, qn (-9223372036854775808) [0], qn (-9223372036854775808) [0], .b true), (.neq, qn (-9223372036854775808) [0], qn (-9223372036854775808) [0], .b false), (.sub, .i .i64 9223372036854775807, qn (-9223372036854775808) [1], qn (-1) [3]), (.gtr, qn (-9223372036854775808) [0], qn (-1) [3], .b false), (.gtr, qn (-9223372036854775808) [2], qn (-1) [3], .b true), (.add, .i .i64 (-9223372036854775808), qn (-9223372036854775808) [1], qn (-9223372036854775808) [4]), (.lss, qn (-9223372036854775808) [2], qn (-9223372036854775808) [4], .b false), (.add, qn (-9223372036854775808) [0], qn (-9223372036854775808) [1], qn (-9223372036854775808) [2]), (.sub, qn (-9223372036854775808) [2], qn (-9223372036854775808) [1], qn (-9223372036854775808) [0]), (.add, qn (-9223372036854775808) [2], .i .i64 0, qn (-9223372036854775808) [2]), (.neq, qn (-9223372036854775808) [2], qn (-9223372036854775808) [2], .b false), (.eql, qn (-9223372036854775808) [2], qn (-9223372036854775808) [2], .b true)]
theorem cntPp_ok {α : At} {a b : Int} (a0 : -9223372036854775808 ≤ a ∧ a ≤ 9223372036854775807) (b0 : -9223372036854775808 ≤ b ∧ b ≤ 9223372036854775807) (h0 : ((α 0).length : Int) = a + 9223372036854775808) (h1 : ((α 1).length : Int) = b + 9223372036854775808) (h3 : ((α 3).length : Int) = 9223372036854775808 - (b.natAbs : Int)) (h4 : ((α 4).length : Int) = (b.natAbs : Int)) (hin : -9223372036854775808 ≤ a + b ∧ a + b ≤ 9223372036854775807) (h2 : ((α 2).length : Int) = a + b + 9223372036854775808) (hin2 : ¬ (-9223372036854775808 ≤ a + b + b ∧ a + b + b ≤ 9223372036854775807)) (hs : 0 < b) : ∀ e ∈ cntPp, FactOk α e := by
  intro e he
  simp only [cntPp, List.mem_cons, List.not_mem_nil, or_false] at he
  rcases he with rfl | rfl | rfl | rfl | rfl | rfl | rfl | rfl | rfl | rfl | rfl | rfl | rfl | rfl | rfl
  · exact ⟨_, _, rfl, rfl, by simp only [lenP]; congr 1; simp <;> omega⟩
  · exact ⟨_, _, rfl, rfl, by simp only [lenP]; congr 1; simp <;> omega⟩
  · exact ⟨_, _, rfl, rfl, _, rfl, by simp only [lenP, Int.add_zero] <;> omega, by simp only [lenP] <;> omega, by simp only [lenP] <;> omega⟩
  · exact ⟨_, _, rfl, rfl, by simp⟩
  · exact ⟨_, _, rfl, rfl, by simp⟩
  · exact ⟨_, _, rfl, rfl, _, rfl, by simp only [lenP, Int.add_zero] <;> omega, by simp only [lenP] <;> omega, by simp only [lenP] <;> omega⟩
  · exact ⟨_, _, rfl, rfl, by simp only [lenP]; congr 1; simp <;> omega⟩
  · exact ⟨_, _, rfl, rfl, by simp only [lenP]; congr 1; simp <;> omega⟩
  · exact ⟨_, _, rfl, rfl, _, rfl, by simp only [lenP, Int.add_zero] <;> omega, by simp only [lenP] <;> omega, by simp only [lenP] <;> omega⟩
  · exact ⟨_, _, rfl, rfl, by simp only [lenP]; congr 1; simp <;> omega⟩
  · exact ⟨_, _, rfl, rfl, _, rfl, by simp only [lenP, Int.add_zero] <;> omega, by simp only [lenP] <;> omega, by simp only [lenP] <;> omega⟩
  · exact ⟨_, _, rfl, rfl, _, rfl, by simp only [lenP, Int.add_zero] <;> omega, by simp only [lenP] <;> omega, by simp only [lenP] <;> omega⟩
  · exact ⟨_, _, rfl, rfl, _, rfl, by simp only [lenP, Int.add_zero] <;> omega, by simp only [lenP] <;> omega, by simp only [lenP] <;> omega⟩
  · exact ⟨_, _, rfl, rfl, by simp⟩
  · exact ⟨_, _, rfl, rfl, by simp⟩
def cntNo : Facts := [(.gtr, qn (-9223372036854775808) [1], .i .i64 0, .b false), (.lss, qn (-9223372036854775808) [1], .i .i64 0, .b true), (.add, qn (-9223372036854775808) [0], .i .i64 0, qn (-9223372036854775808) [0]), (.eql, qn (-9223372036854775808) [0], qn (-9223372036854775808) [0], .b true), (.neq, qn (-9223372036854775808) [0], qn (-9223372036854775808) [0], .b false), (.sub, .i .i64 (-9223372036854775808), qn (-9223372036854775808) [1], qn (-9223372036854775808) [4]), (.lss, qn (-9223372036854775808) [0], qn (-9223372036854775808) [4], .b true)]
theorem cntNo_ok {α : At} {a b : Int} (a0 : -9223372036854775808 ≤ a ∧ a ≤ 9223372036854775807) (b0 : -9223372036854775808 ≤ b ∧ b ≤ 9223372036854775807) (h0 : ((α 0).length : Int) = a + 9223372036854775808) (h1 : ((α 1).length : Int) = b + 9223372036854775808) (h3 : ((α 3).length : Int) = 9223372036854775808 - (b.natAbs : Int)) (h4 : ((α 4).length : Int) = (b.natAbs : Int)) (hin : ¬ (-9223372036854775808 ≤ a + b ∧ a + b ≤ 9223372036854775807)) (hs : b < 0) : ∀ e ∈ cntNo, FactOk α e := by
  intro e he
  simp only [cntNo, List.mem_cons, List.not_mem_nil, or_false] at he
  rcases he with rfl | rfl | rfl | rfl | rfl | rfl | rfl
  · exact ⟨_, _, rfl, rfl, by simp only [lenP]; congr 1; simp <;> omega⟩
  · exact ⟨_, _, rfl, rfl, by simp only [lenP]; congr 1; simp <;> omega⟩
  · exact ⟨_, _, rfl, rfl, _, rfl, by simp only [lenP, Int.add_zero] <;> omega, by simp only [lenP] <;> omega, by simp only [lenP] <;> omega⟩
  · exact ⟨_, _, rfl, rfl, by simp⟩
  · exact ⟨_, _, rfl, rfl, by simp⟩
  · exact ⟨_, _, rfl, rfl, _, rfl, by simp only [lenP, Int.add_zero] <;> omega, by simp only [lenP] <;> omega, by simp only [lenP] <;> omega⟩
  · exact ⟨_, _, rfl, rfl, by simp only [lenP]; congr 1; simp <;> omega⟩
def cntNn : Facts := [(.gtr, qn (-9223372036854775808) [1], .i .i64 0, .b false), (.lss, qn (-9223372036854775808) [1], .i .i64 0, .b true), (.add, qn (-9223372036854775808) [0], .i .i64 0, qn (-9223372036854775808) [0]), (.eql, qn (-9223372036854775808) [0], qn (-9223372036854775808) [0], .b true), (.neq, qn (-9223372036854775808) [0], qn (-9223372036854775808) [0], .b false), (.sub, .i .i64 (-9223372036854775808), qn (-9223372036854775808) [1], qn (-9223372036854775808) [4]), (.lss, qn (-9223372036854775808) [0], qn (-9223372036854775808) [4], .b false), (.lss, qn (-9223372036854775808) [2], qn (-9223372036854775808) [4], .b false), (.add, .i .i64 9223372036854775807, qn (-9223372036854775808) [1], qn (-1) [3]), (.gtr, qn (-9223372036854775808) [2], qn (-1) [3], .b false), (.add, qn (-9223372036854775808) [0], qn (-9223372036854775808) [1], qn (-9223372036854775808) [2]), (.sub, qn (-9223372036854775808) [2], qn (-9223372036854775808) [1], qn (-9223372036854775808) [0]), (.add, qn (-9223372036854775808) [2], .i .i64 0, qn (-9223372036854775808) [2]), (.neq, qn (-9223372036854775808) [2], qn (-9223372036854775808) [2], .b false), (.eql, qn (-9223372036854775808) [2], qn (-9223372036854775808) [2], .b true), (.add, qn (-9223372036854775808) [2], qn (-9223372036854775808) [1], qn (-9223372036854775808) [5])]
theorem cntNn_ok {α : At} {a b : Int} (a0 : -9223372036854775808 ≤ a ∧ a ≤ 9223372036854775807) (b0 : -9223372036854775808 ≤ b ∧ b ≤ 9223372036854775807) (h0 : ((α 0).length : Int) = a + 9223372036854775808) (h1 : ((α 1).length : Int) = b + 9223372036854775808) (h3 : ((α 3).length : Int) = 9223372036854775808 - (b.natAbs : Int)) (h4 : ((α 4).length : Int) = (b.natAbs : Int)) (hin : -9223372036854775808 ≤ a + b ∧ a + b ≤ 9223372036854775807) (h2 : ((α 2).length : Int) = a + b + 9223372036854775808) (hin2 : -9223372036854775808 ≤ a + b + b ∧ a + b + b ≤ 9223372036854775807) (h5 : ((α 5).length : Int) = a + b + b + 9223372036854775808) (hs : b < 0) : ∀ e ∈ cntNn, FactOk α e := by
  intro e he
  simp only [cntNn, List.mem_cons, List.not_mem_nil, or_false] at he
  rcases he with rfl | rfl | rfl | rfl | rfl | rfl | rfl | rfl | rfl | rfl | rfl | rfl | rfl | rfl | rfl | rfl
  · exact ⟨_, _, rfl, rfl, by simp only [lenP]; congr 1; simp <;> omega⟩
  · exact ⟨_, _, rfl, rfl, by simp only [lenP]; congr 1; simp <;> omega⟩
  · exact ⟨_, _, rfl, rfl, _, rfl, by simp only [lenP, Int.add_zero] <;> omega, by simp only [lenP] <;> omega, by simp only [lenP] <;> omega⟩
  · exact ⟨_, _, rfl, rfl, by simp⟩
  · exact ⟨_, _, rfl, rfl, by simp⟩
  · exact ⟨_, _, rfl, rfl, _, rfl, by simp only [lenP, Int.add_zero] <;> omega, by simp only [lenP] <;> omega, by simp only [lenP] <;> omega⟩
  · exact ⟨_, _, rfl, rfl, by simp only [lenP]; congr 1; simp <;> omega⟩
  · exact ⟨_, _, rfl, rfl, by simp only [lenP]; congr 1; simp <;> omega⟩
  · exact ⟨_, _, rfl, rfl, _, rfl, by simp only [lenP, Int.add_zero] <;> omega, by simp only [lenP] <;> omega, by simp only [lenP] <;> omega⟩
  · exact ⟨_, _, rfl, rfl, by simp only [lenP]; congr 1; simp <;> omega⟩
  · exact ⟨_, _, rfl, rfl, _, rfl, by simp only [lenP, Int.add_zero] <;> omega, by simp only [lenP] <;> omega, by simp only [lenP] <;> omega⟩
  · exact ⟨_, _, rfl, rfl, _, rfl, by simp only [lenP, Int.add_zero] <;> omega, by simp only [lenP] <;> omega, by simp only [lenP] <;> omega⟩
  · exact ⟨_, _, rfl, rfl, _, rfl, by simp only [lenP, Int.add_zero] <;> omega, by simp only [lenP] <;> omega, by simp only [lenP] <;> omega⟩
  · exact ⟨_, _, rfl, rfl, by simp⟩
  · exact ⟨_, _, rfl, rfl, by simp⟩
  · exact ⟨_, _, rfl, rfl, _, rfl, by simp only [lenP, Int.add_zero] <;> omega, by simp only [lenP] <;> omega, by simp only [lenP] <;> omega⟩
def cntNp : Facts := [(.gtr, qn (-9223372036854775808) [1], .i .i64 0, .b false), (.lss, qn (-9223372036854775808) [1], .i .i64 0, .b true), (.add, qn (-9223372036854775808) [0], .i .i64 0, qn (-9223372036854775808) [0]), (.eql, qn (-9223372036854775808) [0], qn (-9223372036854775808) [0], .b true), (.neq, qn (-9223372036854775808) [0], qn (-9223372036854775808) [0], .b false), (.sub, .i .i64 (-9223372036854775808), qn (-9223372036854775808) [1], qn (-9223372036854775808) [4]), (.lss, qn (-9223372036854775808) [0], qn (-9223372036854775808) [4], .b false), (.lss, qn (-9223372036854775808) [2], qn (-9223372036854775808) [4], .b true), (.add, .i .i64 9223372036854775807, qn (-9223372036854775808) [1], qn (-1) [3]), (.gtr, qn (-9223372036854775808) [2], qn (-1) [3], .b false), (.add, qn (-9223372036854775808) [0], qn (-9223372036854775808) [1], qn (-9223372036854775808) [2]), (.sub, qn (-9223372036854775808) [2], qn (-9223372036854775808) [1], qn (-9223372036854775808) [0]), (.add, qn (-9223372036854775808) [2], .i .i64 0, qn (-9223372036854775808) [2]), (.neq, qn (-9223372036854775808) [2], qn (-9223372036854775808) [2], .b false), (.eql, qn (-9223372036854775808) [2], qn (-9223372036854775808) [2], .b true)]
theorem cntNp_ok {α : At} {a b : Int} (a0 : -9223372036854775808 ≤ a ∧ a ≤ 9223372036854775807) (b0 : -9223372036854775808 ≤ b ∧ b ≤ 9223372036854775807) (h0 : ((α 0).length : Int) = a + 9223372036854775808) (h1 : ((α 1).length : Int) = b + 9223372036854775808) (h3 : ((α 3).length : Int) = 9223372036854775808 - (b.natAbs : Int)) (h4 : ((α 4).length : Int) = (b.natAbs : Int)) (hin : -9223372036854775808 ≤ a + b ∧ a + b ≤ 9223372036854775807) (h2 : ((α 2).length : Int) = a + b + 9223372036854775808) (hin2 : ¬ (-9223372036854775808 ≤ a + b + b ∧ a + b + b ≤ 9223372036854775807)) (hs : b < 0) : ∀ e ∈ cntNp, FactOk α e := by
  intro e he
  simp only [cntNp, List.mem_cons, List.not_mem_nil, or_false] at he
  rcases he with rfl | rfl | rfl | rfl | rfl | rfl | rfl | rfl | rfl | rfl | rfl | rfl | rfl | rfl | rfl
  · exact ⟨_, _, rfl, rfl, by simp only [lenP]; congr 1; simp <;> omega⟩
  · exact ⟨_, _, rfl, rfl, by simp only [lenP]; congr 1; simp <;> omega⟩
  · exact ⟨_, _, rfl, rfl, _, rfl, by simp only [lenP, Int.add_zero] <;> omega, by simp only [lenP] <;> omega, by simp only [lenP] <;> omega⟩
  · exact ⟨_, _, rfl, rfl, by simp⟩
  · exact ⟨_, _, rfl, rfl, by simp⟩
  · exact ⟨_, _, rfl, rfl, _, rfl, by simp only [lenP, Int.add_zero] <;> omega, by simp only [lenP] <;> omega, by simp only [lenP] <;> omega⟩
  · exact ⟨_, _, rfl, rfl, by simp only [lenP]; congr 1; simp <;> omega⟩
  · exact ⟨_, _, rfl, rfl, by simp only [lenP]; congr 1; simp <;> omega⟩
  · exact ⟨_, _, rfl, rfl, _, rfl, by simp only [lenP, Int.add_zero] <;> omega, by simp only [lenP] <;> omega, by simp only [lenP] <;> omega⟩
  · exact ⟨_, _, rfl, rfl, by simp only [lenP]; congr 1; simp <;> omega⟩
  · exact ⟨_, _, rfl, rfl, _, rfl, by simp only [lenP, Int.add_zero] <;> omega, by simp only [lenP] <;> omega, by simp only [lenP] <;> omega⟩
  · exact ⟨_, _, rfl, rfl, _, rfl, by simp only [lenP, Int.add_zero] <;> omega, by simp only [lenP] <;> omega, by simp only [lenP] <;> omega⟩
  · exact ⟨_, _, rfl, rfl, _, rfl, by simp only [lenP, Int.add_zero] <;> omega, by simp only [lenP] <;> omega, by simp only [lenP] <;> omega⟩
  · exact ⟨_, _, rfl, rfl, by simp⟩
  · exact ⟨_, _, rfl, rfl, by simp⟩
def cntZ : Facts := [(.gtr, qn (-9223372036854775808) [1], .i .i64 0, .b false), (.lss, qn (-9223372036854775808) [1], .i .i64 0, .b false), (.add, qn (-9223372036854775808) [0], .i .i64 0, qn (-9223372036854775808) [0]), (.eql, qn (-9223372036854775808) [0], qn (-9223372036854775808) [0], .b true), (.neq, qn (-9223372036854775808) [0], qn (-9223372036854775808) [0], .b false), (.add, qn (-9223372036854775808) [0], qn (-9223372036854775808) [1], qn (-9223372036854775808) [2]), (.sub, qn (-9223372036854775808) [2], qn (-9223372036854775808) [1], qn (-9223372036854775808) [0]), (.add, qn (-9223372036854775808) [2], .i .i64 0, qn (-9223372036854775808) [2]), (.neq, qn (-9223372036854775808) [2], qn (-9223372036854775808) [2], .b false), (.eql, qn (-9223372036854775808) [2], qn (-9223372036854775808) [2], .b true), (.add, qn (-9223372036854775808) [2], qn (-9223372036854775808) [1], qn (-9223372036854775808) [5])]
theorem cntZ_ok {α : At} {a b : Int} (a0 : -9223372036854775808 ≤ a ∧ a ≤ 9223372036854775807) (b0 : -9223372036854775808 ≤ b ∧ b ≤ 9223372036854775807) (h0 : ((α 0).length : Int) = a + 9223372036854775808) (h1 : ((α 1).length : Int) = b + 9223372036854775808) (h3 : ((α 3).length : Int) = 9223372036854775808 - (b.natAbs : Int)) (h4 : ((α 4).length : Int) = (b.natAbs : Int)) (hin : -9223372036854775808 ≤ a + b ∧ a + b ≤ 9223372036854775807) (h2 : ((α 2).length : Int) = a + b + 9223372036854775808) (hin2 : -9223372036854775808 ≤ a + b + b ∧ a + b + b ≤ 9223372036854775807) (h5 : ((α 5).length : Int) = a + b + b + 9223372036854775808) (hs : b = 0) : ∀ e ∈ cntZ, FactOk α e := by
  intro e he
  simp only [cntZ, List.mem_cons, List.not_mem_nil, or_false] at he
  rcases he with rfl | rfl | rfl | rfl | rfl | rfl | rfl | rfl | rfl | rfl | rfl
  · exact ⟨_, _, rfl, rfl, by simp only [lenP]; congr 1; simp <;> omega⟩
  · exact ⟨_, _, rfl, rfl, by simp only [lenP]; congr 1; simp <;> omega⟩
  · exact ⟨_, _, rfl, rfl, _, rfl, by simp only [lenP, Int.add_zero] <;> omega, by simp only [lenP] <;> omega, by simp only [lenP] <;> omega⟩
  · exact ⟨_, _, rfl, rfl, by simp⟩
  · exact ⟨_, _, rfl, rfl, by simp⟩
  · exact ⟨_, _, rfl, rfl, _, rfl, by simp only [lenP, Int.add_zero] <;> omega, by simp only [lenP] <;> omega, by simp only [lenP] <;> omega⟩
  · exact ⟨_, _, rfl, rfl, _, rfl, by simp only [lenP, Int.add_zero] <;> omega, by simp only [lenP] <;> omega, by simp only [lenP] <;> omega⟩
  · exact ⟨_, _, rfl, rfl, _, rfl, by simp only [lenP, Int.add_zero] <;> omega, by simp only [lenP] <;> omega, by simp only [lenP] <;> omega⟩
  · exact ⟨_, _, rfl, rfl, by simp⟩
  · exact ⟨_, _, rfl, rfl, by simp⟩
  · exact ⟨_, _, rfl, rfl, _, rfl, by simp only [lenP, Int.add_zero] <;> omega, by simp only [lenP] <;> omega, by simp only [lenP] <;> omega⟩
end Go.Proofs.YtkhggadoagdhfaaGreatDoor
