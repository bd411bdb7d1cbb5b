/- A run that begins with one row: a contract of the call. -/
import Derived.Test.YtffmbdagjpdieaaGreatDoorEngG
namespace Go.Eng
open Go Go.RowKit Go.Pm
section
variable {P : Program} {α : At} {pr : Pr} {f : FuncId} {args : List V} {vals : List Value} {v : V} {σ' : St}
def rowSt (L : List V) (t : TypeId) : St := ⟨.n (.cells L t false false) .e .e, 1, 0, 0⟩
def rowMu (b n : Nat) : Mu := fun k => if k = 0 then some (b, n) else none
theorem rowSt_obj {L : List V} {t : TypeId} (k : Nat) : obj (rowSt L t) k = if k = 0 then .cells L t false false else .dead := by
  cases k with
  | zero => rfl
  | succ k =>
    rw [if_neg (by omega)]
    show T.get O.dead (.n (.cells L t false false) .e .e) (k + 1) = _
    simp only [T.get]
    cases h : Nat.beq ((k + 1) % 2) 1 <;> rfl
theorem wfRow {L : List V} {t : TypeId} : Wf (rowSt L t) := fun k hk => by
  rw [rowSt_obj, if_neg (by have : 1 ≤ k := hk; omega)]
theorem row1_calls {L : List V} {Lc : List Value} {t : TypeId} {b n : Nat} {W : World} (hI : CallRun P α f args (rowSt L t) σ' v) (h0 : σ'.w.testBit 0 = false) (hW : Blk W b Lc t) (hL : concL α (rowMu b n) L = some Lc) (hl : allLeaf L = true) (hx : concL α (rowMu b n) args = some vals)
    (hwin : ∀ j i v, (α.wc j)[i]? = some v → ∃ x, conc α (fun _ => none) v = some x ∧ W.cell? ⟨(α.win j).1, (α.win j).2.1 + i, none⟩ = some x)
    (hfull : ∀ j o, α.blk j = some o → α.wc j ≠ [] → W.heap[(α.win j).1]? = some o) (hsep : ∀ j, α.wc j ≠ [] → b ≠ (α.win j).1) :
    Calls P f vals.toArray W fun e W' => ∃ x μ', e = .returned x ∧ conc α μ' v = some x ∧ Ext W W' := by
  intro cs
  have live0 : ∀ k, obj (rowSt L t) k ≠ .dead → k = 0 := fun k hk => by
    rw [rowSt_obj] at hk
    by_cases h : k = 0
    · exact h
    · rw [if_neg h] at hk; exact absurd rfl hk
  have hpre : Pre P α (rowMu b n) (obj (rowSt L t)) (rowSt L t) W (fun _ => True) σ'.nx := by
    refine ⟨⟨fun k hk => ?_, fun j k b' x y hj hk h1 h2 => by rw [live0 j hj, live0 k hk], hwin, hfull, fun k b' x hk h1 j hj => ?_⟩, fun _ _ => rfl, fun k hk _ => ?_⟩
    · obtain rfl := live0 k hk
      refine ⟨b, n, _, rfl, hW, ?_⟩
      rw [rowSt_obj, if_pos rfl]
      exact ⟨Lc, Lc.toArray, (0, 0), hL, hl, rfl, fun _ => rfl, fun i _ h => by omega, by simp⟩
    · obtain rfl := live0 k hk
      simp only [rowMu, if_pos, Option.some.injEq, Prod.mk.injEq] at h1
      rw [← h1.1]
      exact hsep j hj
    · have : 1 ≤ k := hk
      show (if k = 0 then _ else _) = _
      rw [if_neg (by omega)]
  obtain ⟨x, w', μ', C', frX, P1, q1, q2, q3, q4, q5, q6, fn, q7, q8⟩ := hI.2 _ _ W _ _ vals .normal cs hpre wfRow (fun _ _ => trivial) (Nat.le_refl _) hx (.inl rfl)
  refine ⟨.returned x, w', frX, ⟨x, μ', rfl, q1, P1.os, P1.tape, P1.output, P1.size, fun k hk => P1.frame k hk fun j y hj h _ => ?_⟩, q2, q6, q3, q4, q5, fn, by rw [q6]; exact q7, q8⟩
  rw [live0 j h, h0] at hj
  cases hj
end
end Go.Eng
