/- ViewWhole: a page's numbers, and what is known of them. -/
import Derived.Test.YtffmbdagjpdieaaGreatDoorViewRow
import Derived.Test.YtffmbdagjpdieaaGreatDoorNumSh
import Derived.Test.YtffmbdagjpdieaaGreatDoorLaw
namespace Go.Proofs.YtffmbdagjpdieaaGreatDoor
open Go.RowKit Go.Pm Go.Eng
def qv (l : List Nat) : V := .q .i64 0 l
def vwBnd (j : Nat) : Nat × Nat := cond (Nat.blt j 2) (1, 20) (cond (Nat.beq j 4) (1, 9) (cond (Nat.blt j 7) (0, 199) (0, 300)))
def isTxt : V → Option Nat
  | .s [.a j] => some j
  | _ => none
def vwNum (j : Nat) : Option V := cond (Nat.beq j 0) (some (qv [3])) (cond (Nat.beq j 1) (some (qv [4])) none)
def vwOrn (f : FuncId) (args : List V) : Option V := match args with
  | [x] => cond (Nat.beq f 23) (match isTxt x with
    | some j => match vwNum j with
      | some v => some (.u [v, .b true])
      | none => none
    | none => none) none
  | _ => none
noncomputable def vwPr (F : Facts) : Pr := prAll Tryz.prog vwBnd (fun _ => none) (fun _ _ => none) vwOrn (findFT F [])
def vwRow : List V := [.s [.a 0], .s [.l 5 289093799508], .s [.a 1]]
def vwArgs : List V := [qv [2], .sl (some (0, 0)) 3 (.k 3)]
-- more behind; the last page, as long as is asked; the last page, shorter
def vwA : Facts := [(.lss, qv [2], qv [3], .b false), (.sub, qv [2], qv [3], qv [6]), (.lss, qv [6], qv [4], .b false), (.lss, qv [3, 4], qv [2], .b true), (.add, qv [3], qv [4], qv [3, 4])]
def vwB : Facts := [(.lss, qv [2], qv [3], .b false), (.sub, qv [2], qv [3], qv [6]), (.lss, qv [6], qv [4], .b false), (.lss, qv [3, 4], qv [2], .b false), (.add, qv [3], qv [4], qv [3, 4])]
def vwC : Facts := [(.lss, qv [2], qv [3], .b false), (.sub, qv [2], qv [3], qv [6]), (.lss, qv [6], qv [4], .b true), (.lss, qv [3, 6], qv [2], .b false), (.add, qv [3], qv [6], qv [3, 6])]
theorem vwA_ok {α : At} {k a c : Nat} (h2 : (α 2).length = k) (h3 : (α 3).length = a) (h4 : (α 4).length = c) (h6 : (α 6).length = k - a) (h : a + c < k) (hk : k ≤ 199) : ∀ e ∈ vwA, FactOk α e := by
  intro e he
  simp only [vwA, List.mem_cons, List.not_mem_nil, or_false] at he
  rcases he with rfl | rfl | rfl | rfl | rfl
  · exact ⟨_, _, rfl, rfl, by simp only [lenP, h2, h3, h4, h6]; congr 1; simp <;> omega⟩
  · exact ⟨_, _, rfl, rfl, _, rfl, by simp only [lenP, h2, h3, h4, h6] <;> omega, by simp only [lenP, h2, h3, h4, h6] <;> omega, by simp only [lenP, h2, h3, h4, h6] <;> omega⟩
  · exact ⟨_, _, rfl, rfl, by simp only [lenP, h2, h3, h4, h6]; congr 1; simp <;> omega⟩
  · exact ⟨_, _, rfl, rfl, by simp only [lenP, h2, h3, h4, h6]; congr 1; simp <;> omega⟩
  · exact ⟨_, _, rfl, rfl, _, rfl, by simp only [lenP, h2, h3, h4, h6] <;> omega, by simp only [lenP, h2, h3, h4, h6] <;> omega, by simp only [lenP, h2, h3, h4, h6] <;> omega⟩
theorem vwB_ok {α : At} {k a c : Nat} (h2 : (α 2).length = k) (h3 : (α 3).length = a) (h4 : (α 4).length = c) (h6 : (α 6).length = k - a) (h : a + c = k) (hk : k ≤ 199) : ∀ e ∈ vwB, FactOk α e := by
  intro e he
  simp only [vwB, List.mem_cons, List.not_mem_nil, or_false] at he
  rcases he with rfl | rfl | rfl | rfl | rfl
  · exact ⟨_, _, rfl, rfl, by simp only [lenP, h2, h3, h4, h6]; congr 1; simp <;> omega⟩
  · exact ⟨_, _, rfl, rfl, _, rfl, by simp only [lenP, h2, h3, h4, h6] <;> omega, by simp only [lenP, h2, h3, h4, h6] <;> omega, by simp only [lenP, h2, h3, h4, h6] <;> omega⟩
  · exact ⟨_, _, rfl, rfl, by simp only [lenP, h2, h3, h4, h6]; congr 1; simp <;> omega⟩
  · exact ⟨_, _, rfl, rfl, by simp only [lenP, h2, h3, h4, h6]; congr 1; simp <;> omega⟩
  · exact ⟨_, _, rfl, rfl, _, rfl, by simp only [lenP, h2, h3, h4, h6] <;> omega, by simp only [lenP, h2, h3, h4, h6] <;> omega, by simp only [lenP, h2, h3, h4, h6] <;> omega⟩
theorem vwC_ok {α : At} {k a c : Nat} (h2 : (α 2).length = k) (h3 : (α 3).length = a) (h4 : (α 4).length = c) (h6 : (α 6).length = k - a) (h : k < a + c) (hak : a ≤ k) (hk : k ≤ 199) : ∀ e ∈ vwC, FactOk α e := by
  intro e he
  simp only [vwC, List.mem_cons, List.not_mem_nil, or_false] at he
  rcases he with rfl | rfl | rfl | rfl | rfl
  · exact ⟨_, _, rfl, rfl, by simp only [lenP, h2, h3, h4, h6]; congr 1; simp <;> omega⟩
  · exact ⟨_, _, rfl, rfl, _, rfl, by simp only [lenP, h2, h3, h4, h6] <;> omega, by simp only [lenP, h2, h3, h4, h6] <;> omega, by simp only [lenP, h2, h3, h4, h6] <;> omega⟩
  · exact ⟨_, _, rfl, rfl, by simp only [lenP, h2, h3, h4, h6]; congr 1; simp <;> omega⟩
  · exact ⟨_, _, rfl, rfl, by simp only [lenP, h2, h3, h4, h6]; congr 1; simp <;> omega⟩
  · exact ⟨_, _, rfl, rfl, _, rfl, by simp only [lenP, h2, h3, h4, h6] <;> omega, by simp only [lenP, h2, h3, h4, h6] <;> omega, by simp only [lenP, h2, h3, h4, h6] <;> omega⟩
/-- a run's value, and that it only read the row -/
def gaveP (r : Res (St × V)) (t n : List Nat) : Bool := match r with
  | .ok (σ, .u [.g [x, y, z, .s [.l 1 42]], .i .i64 0]) => !σ.w.testBit 0 && vEq x (qv [3]) && vEq y (qv t) && (match n with
    | [] => vEq z (.i .i64 0)
    | _ => vEq z (qv n))
  | _ => false
end Go.Proofs.YtffmbdagjpdieaaGreatDoor
