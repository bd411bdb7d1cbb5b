/- Walks inside a round of a range over a function: what is known of plain walks carries over. -/
import Derived.Test.YtffmbdagjpdieaaGreatDoorHeap
import Derived.RangeFuncNested
import Derived.RangeFuncBound
import Derived.RangeFuncCalls
import Derived.RangeFuncLeaves
import Derived.Shelf.Abstract
import Derived.Shelf.RegionOpen
import Derived.WalkKit
import Derived.OwnWalkIn
import Derived.TacticsInMore
import Derived.LoopNIn
import Derived.LoopIn
namespace Go.Pm
open Go.RowKit

def isDefer (o : Oper) : Bool := match o.op with | .defer _ => true | _ => false
theorem not_defer {o : Oper} (h : isDefer o = false) : ∀ c, o.op ≠ .defer c := by
  intro c e
  unfold isDefer at h
  rw [e] at h
  cases h
theorem rowsIn_of {l n : Nat} {P : Program} {row : String} {args : Array Value} {w : World} {R : Value → World → Prop} (h : Rows P row args w R) : RowsIn (Fence.wide.inRound l) n P row args w R :=
  fun c cs _ => let ⟨v, w', r, s⟩ := h c cs; ⟨v, w', r, stepsIn_wide.2 s⟩
theorem oper_in {l n : Nat} {P : Program} {o : Oper} {a : Act} {w : World} {K : Act → World → Prop} {Q : Exit → Act → World → Prop} (hd : isDefer o = false) (h : o.wp P a w K Q) : o.wpIn (Fence.wide.inRound l) n P a w K Q := by
  refine ⟨fun _ _ => trivial, ?_⟩
  rw [Oper.semAt_eq _ _ _ (not_defer hd)]
  unfold Oper.wp at h
  generalize (execOp a.eval o).run P w = r at *
  cases r with
  | ok x w' =>
    cases x <;> simp only [Oper.upon, Oper.uponIn] at h ⊢
    all_goals first
      | exact h
      | exact ⟨fun e => by simp [Fence.wide] at e, CallsIn.inRound l (callsIn_wide.2 h)⟩
      | exact ⟨fun e => by simp [Fence.wide] at e, rowsIn_of h⟩
  | halt x w' => cases x <;> simp only [Oper.upon, Oper.uponIn] at h ⊢ <;> exact h

section
variable {l n : Nat} {P : Program} {ops : Array Oper} {Q : Exit → Act → World → Prop}
theorem wpOp_in (hno : ¬ LetsOut Q) {i : Nat} {K K' : Act → World → Prop} {a : Act} {w : World} (hd : ∀ o, ops[i]? = some o → isDefer o = false) (hk : ∀ a w, K a w → K' a w) (h : wpOp P ops Q i K a w) : wpOpIn (Fence.wide.inRound l) n P ops Q i K' a w := by
  unfold wpOp at h
  unfold wpOpIn
  cases ho : ops[i]? with
  | none => rw [ho] at h; exact hk _ _ h
  | some o =>
    rw [ho] at h
    simp only at h ⊢
    split
    · rename_i hw
      rw [if_pos hw] at h
      rcases h with h | h
      · exact Oper.wpIn_mono hk (oper_in (hd o ho) h)
      · exact (hno h.2).elim
    · rename_i hw
      rw [if_neg hw] at h
      exact ⟨fun _ _ => trivial, hk _ _ h⟩
theorem wpAny_in (hno : ¬ LetsOut Q) (hd : ops.all (fun o => !isDefer o) = true) : ∀ (fuel : Nat) (listed : Array Bool) (a : Act) (w : World), wpAny P .any ops Q fuel listed a w → wpAnyIn (Fence.wide.inRound l) n P .any ops Q fuel listed a w := by
  have hd' : ∀ (i : Nat) o, ops[i]? = some o → isDefer o = false := by
    intro i o ho
    obtain ⟨hi, rfl⟩ := Array.getElem?_eq_some_iff.1 ho
    have := Array.all_eq_true.1 hd i hi
    simpa using this
  intro fuel
  induction fuel with
  | zero => intro listed a w h; exact h
  | succ fuel ih =>
    intro listed a w h
    exact ⟨h.1, fun i hi => wpOp_in hno (hd' i) (fun a w => ih _ a w) (h.2 i hi)⟩
variable {a0 : Act} {w0 : World}
/-- a region that draws its order, in a round -/
theorem wpIn_region_chain {id : Nat} (hm : P.follows .mixedOrders = true) (hno : ¬ LetsOut Q) (A : List SP) (mem : List Nat) (J : List Value → World → Prop) (k : Nat) (hsize : a0.tmps.size = k)
    (hck : (backward ops && onceDst ops && fitsDst ops k && decide mem.Nodup && chained ops mem && mem.all (· < ops.size)) = true) (hd : ops.all (fun o => !isDefer o) = true)
    (h0 : J [] w0) (hJ : ∀ vals w w', J vals w → Ext w w' → J vals w')
    (hop : AllOps (fun i o => ∀ a w vals, J vals w → Ready3 ops A mem a0 a w vals i → if mem.contains i then (vals.length = place mem i → StepMem P ops J Q o a w vals) else StepAdds P ops A Q i o a w) 0 ops.toList)
    (hfin : ∀ vs w vals, vs.length = ops.size → vals.length = mem.length → J vals w → Facts3 mem vals 0 A ops.toList vs → Q .normal (putAll ops.toList vs a0) w) : (Code.region id ops true).wpIn (Fence.wide.inRound l) n P Q a0 w0 :=
  wpIn_region_any hm (wpAny_in hno hd _ _ _ _ (any_chain A mem J k hsize hck h0 hJ hop hfin))
end

section
variable {F : Fence} {n : Nat} {P : Program} {ops : Array Oper} {Q : Exit → Act → World → Prop} {a : Act} {w w' : World} {rest : List Oper} {o : Oper} {v : Value}
theorem wpi_ex (hF : ∀ f, F.fn f) (hg : o.guard = none) (hd : isDefer o = false) (hr : Ex P a o w v w') (h : wpListIn F n P ops Q rest (a.put o.dst v) w') : wpListIn F n P ops Q (o :: rest) a w :=
  wpListIn_plain hg fun K hK => ⟨fun f _ => hF f, by rw [Oper.semAt_eq _ _ _ (not_defer hd), show (execOp a.eval o).run P w = _ from hr]; exact hK _ _ h⟩
theorem wpi_exU (hF : ∀ f, F.fn f) (hg : o.guard = none) (hd : isDefer o = false) (hr : ExU P a o w w') (h : wpListIn F n P ops Q rest (a.put o.dst undef) w') : wpListIn F n P ops Q (o :: rest) a w :=
  wpListIn_plain hg fun K hK => ⟨fun f _ => hF f, by rw [Oper.semAt_eq _ _ _ (not_defer hd), show (execOp a.eval o).run P w = _ from hr]; exact hK _ _ h⟩
/-- guarded, and wanted -/
theorem wpi_exG (hF : ∀ f, F.fn f) (hg : Region.wanted o (yielded ops a.tmps) = true) (hd : isDefer o = false) (hr : Ex P a o w v w') (h : wpListIn F n P ops Q rest (a.put o.dst v) w') : wpListIn F n P ops Q (o :: rest) a w := by
  refine wpListIn_step fun K hK => ?_
  rw [if_pos hg]
  exact ⟨fun f _ => hF f, by rw [Oper.semAt_eq _ _ _ (not_defer hd), show (execOp a.eval o).run P w = _ from hr]; exact hK _ _ h⟩
/-- guarded, and not wanted -/
theorem wpi_not (hF : ∀ f, F.fn f) (hg : Region.wanted o (yielded ops a.tmps) = false) (h : wpListIn F n P ops Q rest (a.put o.dst undef) w) : wpListIn F n P ops Q (o :: rest) a w := by
  refine wpListIn_step fun K hK => ?_
  rw [if_neg (by rw [hg]; decide)]
  exact ⟨fun f _ => hF f, hK _ _ h⟩
/-- a function, called -/
theorem wpi_call {f : FuncId} {xs : Array Operand} {ts : Array TypeId} {args : Array Value} (hf : Callable P f) (hF : ∀ f, F.fn f) (hC : ∀ (f : FuncId) (args : Array Value) (w : World) (R : Ending → World → Prop), Calls P f args w R → CallsIn F (n - 1) P f args w R) (hdp : F.depth = none) (hg : o.guard = none)
    (ho : o.op = .call { callee := .value (.func f), args := xs, argTypes := ts }) (hx : xs.map a.eval = args) (hc : Calls P f args w fun e w' => ∃ v, e = .returned v ∧ wpListIn F n P ops Q rest (a.put o.dst v) w') : wpListIn F n P ops Q (o :: rest) a w := by
  refine wpListIn_plain hg fun K hK => ⟨fun f _ => hF f, ?_⟩
  have hd : isDefer o = false := by unfold isDefer; rw [ho]
  obtain ⟨fn, h1, h2, h3⟩ := hf
  have : execOp a.eval o = callFunc f (#[] ++ xs.map a.eval ++ #[]) := by
    obtain ⟨d, op, ty, pos, af, gd⟩ := o
    simp only at ho
    subst ho
    rfl
  have hb : ¬ fn.body = none := by intro h; rw [h] at h3; cases h3
  have hn : ¬ fn.name = "runtime.NumGoroutine" := by simpa using h2
  have hr : (execOp a.eval o).run P w = .ok (.enter f args) w := by rw [this, hx]; simp [callFunc, h1, hn, hb]
  rw [Oper.semAt_eq _ _ _ (not_defer hd), hr, Oper.uponIn_enter]
  refine ⟨fun e => by simp [hdp] at e, hC _ _ _ _ (hc.mono ?_)⟩
  rintro e w' ⟨v, rfl, hh⟩
  exact hK _ _ hh
/-- the loop's body, called -/
theorem wpi_yield {l : Nat} {x : Operand} {xs : Array Operand} {ts : Array TypeId} {args : Array Value} {R : Ending → World → Prop} (hF : ∀ f, F.fn f) (hdp : F.depth = none) (hg : o.guard = none) (ho : o.op = .call { callee := .value x, args := xs, argTypes := ts }) (hx : a.eval x = .func (.yield l) #[] #[])
    (hxs : xs.map a.eval = args) (hY : YieldAt F (n - 1) P l args w R) (h : ∀ e w', R e w' → ∃ v, e = .returned v ∧ wpListIn F n P ops Q rest (a.put o.dst v) w') : wpListIn F n P ops Q (o :: rest) a w := by
  refine wpListIn_plain hg fun K hK => ⟨fun f _ => hF f, ?_⟩
  obtain ⟨fn, tmps, assign, body, hy, hR⟩ := hY
  have hd : isDefer o = false := by unfold isDefer; rw [ho]
  have hr : (execOp a.eval o).run P w = .ok (.round l fn tmps assign body) w := by
    subst hxs
    simp [execOp, ho, resolve, invoke, hx, hy, Deferred.ofValue]
  rw [Oper.semAt_eq _ _ _ (not_defer hd), hr, Oper.uponIn_round]
  refine ⟨fun e => by simp [hdp] at e, hR.mono ?_⟩
  intro e w' hRe
  obtain ⟨v, rfl, hh⟩ := h e w' hRe
  exact hK _ _ hh
end

theorem wideC {n : Nat} {P : Program} (f : FuncId) (args : Array Value) (w : World) (R : Ending → World → Prop) (h : Calls P f args w R) : CallsIn Fence.wide n P f args w R := callsIn_wide.2 h
theorem roundC {n l : Nat} {P : Program} (f : FuncId) (args : Array Value) (w : World) (R : Ending → World → Prop) (h : Calls P f args w R) : CallsIn (Fence.wide.inRound l) n P f args w R := CallsIn.inRound l (callsIn_wide.2 h)
/-- what speaks of blocks below B alone -/
theorem ownFrom_stable {β : Type} {B : Nat} {I : β → World → Prop} (h : ∀ s W W', I s W → B ≤ W.heap.size → Below B W W' → I s W') (hB : ∀ s W, I s W → B ≤ W.heap.size) : OwnFrom B I :=
  fun s W W' _ hs hg hr => h s W W' hs (hB s W hs) ((Below.refl B W).grown hg (hB s W hs) (fun k e => (hr k e).1))
theorem Only.keepsFrom {G : List Nat} {B : Nat} {W W' : World} (h : Only G W W') (hG : ∀ k ∈ G, k < B) : KeepsFrom B W W' :=
  ⟨h.size, fun k o hk hW _ => (h.block k (Array.getElem?_eq_some_iff.1 hW).1 (fun hg => by have := hG k hg; omega)).trans hW⟩
/-- a variable of a round's own: cells beyond B -/
theorem ownFrom_blk {β : Type} {B b : Nat} {L : List Value} {t : TypeId} : OwnFrom B (fun (_ : β) W => Blk W b L t) := by
  intro s W W' row hs hg hr
  refine (hg.block b (Array.getElem?_eq_some_iff.1 hs).1 (fun e => ?_)).trans hs
  obtain ⟨_, o, ho, hc⟩ := hr b e.symm
  rw [show W.heap[b]? = _ from hs] at ho
  cases ho
  cases hc
theorem Only.below_then {F : List Nat} {B : Nat} {a b c : World} (h : Only F a b) (hB : a.heap.size ≤ B) (k : Below B b c) : Only F a c :=
  ⟨k.os.trans h.os, k.tape.trans h.tape, k.output.trans h.output, Nat.le_trans h.size k.size, fun i hi hn => (k.block i (by omega)).trans (h.block i hi hn)⟩

end Go.Pm
