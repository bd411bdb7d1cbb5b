/- A range over a function, over resources. -/
import Derived.Test.YtffmbdagjpdieaaGreatDoorOps
namespace Go.Pm
open Go.RowKit

def Res.Celled (r : Res) : Prop := ∀ W, r.holds W → ∀ b ∈ r.fp, ∃ c t z, W.heap[b]? = some (.cells c t z)
theorem celled_cell (b : Nat) (L : List Value) (t : TypeId) : (Res.cell b L t).Celled := by
  intro W h k hk
  simp at hk
  subst hk
  exact ⟨_, _, _, h⟩
theorem celled_row (e : TypeId) (size : Nat) (v : Value) (n : Nat) (xs : List Value) : (Res.row e size v n xs).Celled := by
  intro W h k hk
  rcases h.2 with ⟨rfl, _⟩ | ⟨g, cap, cur, rfl, _, hg, _⟩
  · simp [Value.ownBlock] at hk
  · simp [Value.ownBlock] at hk
    subst hk
    exact ⟨_, _, _, hg⟩
theorem celled_fact (p : Prop) : (Res.fact p).Celled := fun _ _ _ h => by simp at h
/-- the mark of a range over a function -/
@[reducible] def Res.defd (D : Nat) : Res := ⟨[D], fun w => w.heap[D]? = some (.deferred (some [])), fun _ _ h hb => (h D (by simp)).trans hb⟩
theorem Inv.join2 {B : Base} {H K : List Res} {w : World} (h : Inv B H w) (hk : ∀ r ∈ K, r.holds w) (hl : ∀ r ∈ K, ∀ b ∈ r.fp, b < w.heap.size) (hn : (K.flatMap (·.fp)).Nodup) (ho : ∀ r ∈ K, ∀ b ∈ r.fp, B.I b = none)
    (hd : ∀ b, b ∈ K.flatMap (·.fp) → b ∉ H.flatMap (·.fp)) : Inv B (K ++ H) w := by
  refine ⟨h.base, fun r hr => ?_, fun r hr => ?_, ?_, fun r hr => ?_⟩
  · rcases List.mem_append.1 hr with hr | hr
    · exact hk r hr
    · exact h.own r hr
  · rcases List.mem_append.1 hr with hr | hr
    · exact hl r hr
    · exact h.lt r hr
  · rw [List.flatMap_append, List.nodup_append]
    exact ⟨hn, h.dis, fun a ha b hb e => hd a ha (e ▸ hb)⟩
  · rcases List.mem_append.1 hr with hr | hr
    · exact ho r hr
    · exact h.out r hr
theorem Inv.right {B : Base} {K H : List Res} {w : World} (h : Inv B (K ++ H) w) : Inv B H w := h.sub (List.sublist_append_right _ _)
/-- a block that is no cells is none of celled resources' -/
theorem not_celled {B : Base} {H : List Res} {W : World} (h : Inv B H W) (hc : ∀ r ∈ H, r.Celled) {k : Nat} {o : Obj} (hk : W.heap[k]? = some o) (ho : o.isCells = false) : k ∉ H.flatMap (·.fp) := by
  intro hm
  obtain ⟨r, hr, hb⟩ := List.mem_flatMap.1 hm
  obtain ⟨c, t, z, e⟩ := hc r hr W (h.own r hr) k hb
  rw [e] at hk
  cases hk
  cases ho
/-- what a step of the iterator's own leaves -/
theorem Inv.grown {B : Base} {H : List Res} {W W' : World} {row : Option Nat} (h : Inv B H W) (hc : ∀ r ∈ H, r.Celled) (hg : W.grownBy W' row) (hr : ∀ r, row = some r → B.I r = none ∧ ∃ o : Obj, W.heap[r]? = some o ∧ o.isCells = false) : Inv B H W' := by
  have hb : ∀ k, k < W.heap.size → row ≠ some k → W'.heap[k]? = W.heap[k]? := fun k hk hne => hg.block k hk (fun e => hne e.symm)
  refine ⟨⟨fun b o e => ?_, Nat.le_trans h.base.lo hg.size, hg.os.trans h.base.os, hg.tape.trans h.base.tape, hg.output.trans h.base.output⟩, fun r hr' => ?_, fun r hr' b hb' => Nat.lt_of_lt_of_le (h.lt r hr' b hb') hg.size, h.dis, h.out⟩
  · refine (hb b (h.base.lt e) (fun e2 => ?_)).trans (h.base.blk b o e)
    rw [(hr b e2).1] at e; cases e
  · refine r.stab W W' (fun b hb' => hb b (h.lt r hr' b hb') (fun e => ?_)) (h.own r hr')
    obtain ⟨_, o, ho, hn⟩ := hr b e
    exact not_celled h hc ho hn (List.mem_flatMap.2 ⟨r, hr', hb'⟩)

theorem sl_range {α : Type} {n : Nat} {P : Program} {g : Operand} {ps : Array Tmp} {assign body : Code} {Q : Exit → Act → World → Prop} {a : Act} {w : World}
    (h1 : 1 ≤ n) {gf : Nat} {lb : Array Value} (hg : a.eval g = .func (.func gf) #[] lb) (eg : ∀ args w, (callFunc gf args).run P w = .ok (.enter gf args) w)
    {encs : α → Array Value} {Kp : World → World → Prop} {S Sp : List α → Prop} {N : Nat} (hseq : SeqStopsK Fence.wide (n - 1) P gf lb encs Kp S Sp N w)
    (hKt : ∀ {A B C : World}, Kp A B → Kp B C → Kp A C) (hps : ∀ x, (encs x).size = ps.size)
    {B : Base} (Hs : List α → List Res) (X : α → Nat → List Res) (fr : α → Nat → Act) (hcel : ∀ pre r, r ∈ Hs pre → r.Celled) (hcelX : ∀ x b r, r ∈ X x b → r.Celled) (hfp : (∀ x b, X x b = []) ∨ ∀ pre r, r ∈ Hs pre → ∀ b ∈ r.fp, b < w.heap.size)
    (hKp : ∀ (H : List Res) (W W' : World), Inv B H W → W.heap.size ≤ W'.heap.size → (∀ k, k < W.heap.size → k ∉ H.flatMap (·.fp) → W'.heap[k]? = W.heap[k]?) → Kp W W')
    (hKb : ∀ (W : World) (l : Nat) (o' : Obj), w.heap.size ≤ l → Kp W (W.putObj l o'))
    (hv : Inv B (Hs []) w)
    (hassign : ∀ (l : Nat) (pre : List α) (x : α) (W : World) (B' : Base), B.Le B' → Inv B' (Hs pre) W → assign.wpIn (Fence.wide.inRound l) (n - 1 - 1) P (fun e a' W' => e = .normal ∧ ∃ b, a' = fr x b ∧ Inv B' (X x b ++ Hs pre) W') { tmps := (ps.zip (encs x)).foldl (fun t (p, v) => t.setIfInBounds p v) a.tmps, defers := [] } W)
    (hbody : ∀ (l : Nat) (pre : List α) (x : α) (b : Nat) (W : World) (B' : Base), B.Le B' → Inv B' (X x b ++ Hs pre) W → pre.length < N → body.wpIn (Fence.wide.inRound l) (n - 1 - 1) P (fun e _ W' => e = .normal ∧ Inv B' (Hs (pre ++ [x])) W') (fr x b) W)
    (hdone : ∀ (D : Nat) (xs : List α) (W : World), S xs → Inv B (Res.defd D :: Hs xs) W → Q .normal { a with defers := { target := .collected D, args := #[] } :: a.defers } W) :
    (Code.rangeFunc g ps assign body).wpIn Fence.wide n P Q a w := by
  have hBout : ∀ k, w.heap.size ≤ k → B.I k = none := fun k hk => hv.base.fresh hk
  refine wpIn_rangeFunc_ownH rfl h1 hg trivial eg hseq hKt (fun W l o o' hl _ _ _ => hKb W l o' hl) (Below.refl _ _) hps
    (fun pre W => Inv B (Hs pre) W ∧ w.heap.size ≤ W.heap.size) (fun _ _ _ => False) ?_ (fun _ _ _ _ _ h _ _ => h) ⟨hv, Nat.le_refl _⟩
    (fun x a' W => ∃ b, a' = fr x b ∧ (∀ r ∈ X x b, r.holds W ∧ ∀ k ∈ r.fp, w.heap.size ≤ k ∧ k < W.heap.size) ∧ ((X x b).flatMap (·.fp)).Nodup) ?_ ?_ ?_ ?_ ?_
  · rintro pre W W' row ⟨h, hs⟩ hg hr
    exact ⟨h.grown (hcel pre) hg (fun r e => ⟨hBout r (hr r e).1, (hr r e).2⟩), Nat.le_trans hs hg.size⟩
  · rintro x a' _ W W' row ⟨b, h2, h3, h4⟩ hg hr
    refine ⟨b, h2, fun r hr' => ⟨r.stab W W' (fun k hk => hg.block k ((h3 r hr').2 k hk).2 (fun e => ?_)) (h3 r hr').1, fun k hk => ⟨((h3 r hr').2 k hk).1, Nat.lt_of_lt_of_le ((h3 r hr').2 k hk).2 hg.size⟩⟩, h4⟩
    obtain ⟨_, o, ho, hn⟩ := hr k e.symm
    obtain ⟨c, t, z, e2⟩ := hcelX x b r hr' W (h3 r hr').1 k hk
    rw [e2] at ho
    cases ho
    cases hn
  · rintro l pre x W K ⟨hI, hsz⟩ hK
    refine wpIn_mono (hassign l pre x W _ hI.snapLe hI.snap) ?_
    rintro e a' W' ⟨rfl, b, rfl, h⟩
    obtain ⟨hle, hsame⟩ := h.right.unsnap
    refine hK _ _ ⟨hle, fun k o _ hk ho => (hsame k (Array.getElem?_eq_some_iff.1 hk).1 (not_celled hI (hcel pre) hk ho)).trans hk⟩ (hKp _ _ _ hI hle hsame) ⟨h.right.weak hI.snapLe, Nat.le_trans hsz hle⟩ ⟨b, rfl, fun r hr => ⟨h.own r (List.mem_append.2 (.inl hr)), fun k hk => ⟨?_, h.lt r (List.mem_append.2 (.inl hr)) k hk⟩⟩, ?_⟩
    · have ho := h.out r (List.mem_append.2 (.inl hr)) k hk
      replace ho : (if k ∈ (Hs pre).flatMap (·.fp) then none else W.heap[k]?) = none := ho
      have hd := h.dis
      rw [List.flatMap_append, List.nodup_append] at hd
      rw [if_neg (fun hm => hd.2.2 k (List.mem_flatMap.2 ⟨r, hr, hk⟩) k hm rfl)] at ho
      have := Array.getElem?_eq_none_iff.1 ho
      omega
    · have hd := h.dis
      rw [List.flatMap_append, List.nodup_append] at hd
      exact hd.1
  · rintro l pre x a' W _ _ ⟨hI, hsz⟩ ⟨b, rfl, h3, h4⟩ hN
    have hj : Inv B (X x b ++ Hs pre) W := by
      refine hI.join2 (fun r hr => (h3 r hr).1) (fun r hr k hk => ((h3 r hr).2 k hk).2) h4 (fun r hr k hk => hBout k ((h3 r hr).2 k hk).1) (fun k hk hm => ?_)
      rcases hfp with he | hfp
      · rw [he] at hk; simp at hk
      · obtain ⟨r, hr, hk⟩ := List.mem_flatMap.1 hk
        obtain ⟨q, hq, hk2⟩ := List.mem_flatMap.1 hm
        have := ((h3 r hr).2 k hk).1
        have := hfp pre q hq k hk2
        omega
    have hcj : ∀ r ∈ X x b ++ Hs pre, r.Celled := fun r hr => by
      rcases List.mem_append.1 hr with hr | hr
      · exact hcelX x b r hr
      · exact hcel pre r hr
    refine wpIn_mono (hbody l pre x b W _ hj.snapLe hj.snap hN) ?_
    rintro e a' W' ⟨rfl, h⟩
    obtain ⟨hle, hsame⟩ := h.unsnap
    exact ⟨⟨hle, fun k o _ hk ho => (hsame k (Array.getElem?_eq_some_iff.1 hk).1 (not_celled hj hcj hk ho)).trans hk⟩, hKp _ _ _ hj hle hsame, h.weak hj.snapLe, Nat.le_trans hsz hle⟩
  · rintro D xs W hD hS ⟨hI, _⟩ hK
    refine hdone D xs W hS (hI.join2 (K := [Res.defd D]) (fun r hr => ?_) (fun r hr k hk => ?_) (by simp) (fun r hr k hk => ?_) (fun k hk => ?_))
    · simp at hr; subst hr; exact hK
    · simp at hr; subst hr; simp at hk; subst hk; exact (Array.getElem?_eq_some_iff.1 hK).1
    · simp at hr; subst hr; simp at hk; subst hk; exact hBout _ hD
    · simp at hk; subst hk; exact not_celled hI (hcel xs) hK rfl
  · rintro D c pre W _ _ h
    exact h.elim
theorem sl_end0 {n : Nat} {P : Program} {fn : Func} {R : Ending → World → Prop} {tmps : Array Value} {w : World} {v : Value} (hr : (results fn tmps).run P w = .ok v w) (hR : R (.returned v) w) : bodyPostM Fence.wide n P fn R .ret ⟨tmps, []⟩ w := ⟨v, hr, hR⟩
/-- the end of a function that ranged over a function once -/
theorem sl_end1 {n : Nat} {P : Program} {fn : Func} {R : Ending → World → Prop} {tmps : Array Value} {D : Nat} {B : Base} {H : List Res} {w : World} (hv : Inv B (Res.defd D :: H) w) (h : ∀ w', Inv B H w' → ∃ v, (results fn tmps).run P w' = .ok v w' ∧ R (.returned v) w') :
    bodyPostM Fence.wide n P fn R .ret ⟨tmps, [{ target := .collected D, args := #[] }]⟩ w := by
  have hd := hv.dis
  rw [List.flatMap_cons, List.nodup_append] at hd
  have hi : Inv B H (w.putObj D (.deferred none)) := by
    have ho : ∀ k, k ≠ D → (w.putObj D (.deferred none)).heap[k]? = w.heap[k]? := fun k hk => World.putObj_heap_other hk
    refine ⟨⟨fun b o e => ?_, by simpa using hv.base.lo, hv.base.os, hv.base.tape, hv.base.output⟩, fun r hr => r.stab w _ (fun b hb => ho b (fun e => ?_)) (hv.drop.own r hr), fun r hr b hb => by simpa using hv.drop.lt r hr b hb, hv.drop.dis, hv.drop.out⟩
    · refine (ho b (fun e2 => ?_)).trans (hv.base.blk b o e)
      subst e2
      rw [hv.out (Res.defd b) (by simp) b (by simp)] at e
      cases e
    · subst e
      exact hd.2.2 b (by simp) b (List.mem_flatMap.2 ⟨r, hr, hb⟩) rfl
  obtain ⟨v, h1, h2⟩ := h _ hi
  exact ⟨by simp, .inl ⟨_, _, rfl, run_takeDeferred hv.head, ⟨v, h1, h2⟩⟩⟩
end Go.Pm
