/- A small separation logic over the model's worlds: what is fixed for good (a base), what is one's own (a list of resources), and what a call may do. -/
import Derived.Test.YtffmbdagjpdieaaGreatDoorRound
namespace Go.Pm
open Go.RowKit

/-- What will not change any more: some blocks, and the outside. -/
structure Base where
  I : Nat → Option Obj
  lo : Nat
  os : Os
  tape : Nat → Question → Nat
  output : Array (Nat × ByteArray)
structure Base.In (B : Base) (w : World) : Prop where
  blk : ∀ b o, B.I b = some o → w.heap[b]? = some o
  lo : B.lo ≤ w.heap.size
  os : w.os = B.os
  tape : w.tape = B.tape
  output : w.output = B.output
structure Base.Le (B C : Base) : Prop where
  blk : ∀ b o, B.I b = some o → C.I b = some o
  lo : B.lo ≤ C.lo
  os : C.os = B.os
  tape : C.tape = B.tape
  output : C.output = B.output
theorem Base.Le.refl (B : Base) : B.Le B := ⟨fun _ _ h => h, Nat.le_refl _, rfl, rfl, rfl⟩
theorem Base.Le.trans {B C D : Base} (h : B.Le C) (k : C.Le D) : B.Le D := ⟨fun b o e => k.blk b o (h.blk b o e), Nat.le_trans h.lo k.lo, k.os.trans h.os, k.tape.trans h.tape, k.output.trans h.output⟩
theorem Base.In.lt {B : Base} {w : World} (h : B.In w) {b : Nat} {o : Obj} (e : B.I b = some o) : b < w.heap.size := (Array.getElem?_eq_some_iff.1 (h.blk b o e)).1
theorem Base.In.fresh {B : Base} {w : World} (h : B.In w) {b : Nat} (hb : w.heap.size ≤ b) : B.I b = none := by
  cases e : B.I b with
  | none => rfl
  | some o => have := h.lt e; omega
def Base.add (B : Base) (b : Nat) (o : Obj) : Base := { B with I := fun k => if k = b then some o else B.I k }
theorem Base.add_le {B : Base} {b : Nat} {o : Obj} (h : B.I b = .none) : B.Le (B.add b o) :=
  ⟨fun k o' e => by
    show (if k = b then some o else B.I k) = some o'
    rw [if_neg (fun e2 => by subst e2; rw [h] at e; cases e)]; exact e, Nat.le_refl _, rfl, rfl, rfl⟩
theorem Base.add_self {B : Base} {b : Nat} {o : Obj} : (B.add b o).I b = some o := by show (if b = b then _ else _) = _; rw [if_pos rfl]

/-- Something of one's own: it lies in the blocks fp. -/
structure Res where
  fp : List Nat
  holds : World → Prop
  stab : ∀ w w' : World, (∀ b ∈ fp, w'.heap[b]? = w.heap[b]?) → holds w → holds w'
@[reducible] def Res.cell (b : Nat) (L : List Value) (t : TypeId) : Res := ⟨[b], fun w => Blk w b L t, fun _ _ h hb => (h b (by simp)).trans hb⟩
/-- a fact without memory -/
@[reducible] def Res.fact (p : Prop) : Res := ⟨[], fun _ => p, fun _ _ _ h => h⟩

structure Inv (B : Base) (H : List Res) (w : World) : Prop where
  base : B.In w
  own : ∀ r ∈ H, r.holds w
  lt : ∀ r ∈ H, ∀ b ∈ r.fp, b < w.heap.size
  dis : (H.flatMap (·.fp)).Nodup
  out : ∀ r ∈ H, ∀ b ∈ r.fp, B.I b = none

theorem Base.In.only {B : Base} {F : List Nat} {w w' : World} (h : B.In w) (ho : Only F w w') (hF : ∀ b ∈ F, B.I b = none) : B.In w' :=
  ⟨fun b o e => (ho.block b (h.lt e) (fun hf => by rw [hF b hf] at e; cases e)).trans (h.blk b o e), Nat.le_trans h.lo ho.size, ho.os.trans h.os, ho.tape.trans h.tape, ho.output.trans h.output⟩
theorem Inv.ext {B : Base} {H : List Res} {w w' : World} (h : Inv B H w) (he : Ext w w') : Inv B H w' :=
  ⟨h.base.only (Only.of_ext he) (F := []) (by simp), fun r hr => r.stab w w' (fun b hb => he.block b (h.lt r hr b hb)) (h.own r hr), fun r hr b hb => Nat.lt_of_lt_of_le (h.lt r hr b hb) he.size, h.dis, h.out⟩
theorem Inv.drew {B : Base} {H : List Res} {w : World} (h : Inv B H w) : Inv B H w.drew := h.ext (Ext.drew' w)
/-- something new -/
theorem Inv.new {B : Base} {H : List Res} {w w' : World} (h : Inv B H w) (he : Ext w w') (r : Res) (hr : r.holds w') (hf : ∀ b ∈ r.fp, w.heap.size ≤ b ∧ b < w'.heap.size) (hn : r.fp.Nodup) : Inv B (r :: H) w' := by
  have h' := h.ext he
  refine ⟨h'.base, fun q hq => ?_, fun q hq b hb => ?_, ?_, fun q hq b hb => ?_⟩
  · rcases List.mem_cons.1 hq with rfl | hq
    · exact hr
    · exact h'.own q hq
  · rcases List.mem_cons.1 hq with rfl | hq
    · exact (hf b hb).2
    · exact h'.lt q hq b hb
  · rw [List.flatMap_cons, List.nodup_append]
    refine ⟨hn, h.dis, fun a ha b hb e => ?_⟩
    obtain ⟨q, hq, hb⟩ := List.mem_flatMap.1 hb
    have := h.lt q hq b hb
    have := (hf a ha).1
    omega
  · rcases List.mem_cons.1 hq with rfl | hq
    · exact h.base.fresh (hf b hb).1
    · exact h'.out q hq b hb
theorem Inv.alloc {B : Base} {H : List Res} {w : World} (h : Inv B H w) (L : List Value) (t : TypeId) : Inv B (Res.cell w.heap.size L t :: H) (w.alloc (.cells L.toArray t)) :=
  h.new ((Below.refl _ _).alloc (Nat.le_refl _) _) _ (blk_new w L t) (by simp) (by simp)
/-- the first one turned -/
theorem Inv.upd {B : Base} {r : Res} {H : List Res} {w w' : World} (h : Inv B (r :: H) w) (r' : Res) (ho : Only r.fp w w') (hr : r'.holds w') (hf : ∀ b ∈ r'.fp, b ∈ r.fp ∨ w.heap.size ≤ b) (hl : ∀ b ∈ r'.fp, b < w'.heap.size) (hn : r'.fp.Nodup) : Inv B (r' :: H) w' := by
  have hd := h.dis
  rw [List.flatMap_cons, List.nodup_append] at hd
  refine ⟨h.base.only ho (h.out r (by simp)), fun q hq => ?_, fun q hq b hb => ?_, ?_, fun q hq b hb => ?_⟩
  · rcases List.mem_cons.1 hq with rfl | hq
    · exact hr
    · refine q.stab w w' (fun b hb => ho.block b (h.lt q (by simp [hq]) b hb) (fun hb' => ?_)) (h.own q (by simp [hq]))
      exact hd.2.2 b hb' b (List.mem_flatMap.2 ⟨q, hq, hb⟩) rfl
  · rcases List.mem_cons.1 hq with rfl | hq
    · exact hl b hb
    · exact Nat.lt_of_lt_of_le (h.lt q (by simp [hq]) b hb) ho.size
  · rw [List.flatMap_cons, List.nodup_append]
    refine ⟨hn, hd.2.1, fun a ha b hb e => ?_⟩
    subst e
    rcases hf a ha with h1 | h1
    · exact hd.2.2 a h1 a hb rfl
    · obtain ⟨q, hq, hb⟩ := List.mem_flatMap.1 hb
      have := h.lt q (by simp [hq]) a hb
      omega
  · rcases List.mem_cons.1 hq with rfl | hq
    · rcases hf b hb with h1 | h1
      · exact h.out r (by simp) b h1
      · exact h.base.fresh h1
    · exact h.out q (by simp [hq]) b hb
theorem Inv.perm {B : Base} {H K : List Res} {w : World} (h : Inv B H w) (hp : H.Perm K) : Inv B K w :=
  ⟨h.base, fun r hr => h.own r (hp.mem_iff.2 hr), fun r hr => h.lt r (hp.mem_iff.2 hr), ((hp.flatMap_right _).nodup_iff).1 h.dis, fun r hr => h.out r (hp.mem_iff.2 hr)⟩
theorem perm_front {α : Type} : ∀ (k : Nat) (l : List α) (x : α), l[k]? = some x → l.Perm (x :: l.eraseIdx k)
  | 0, y :: l, x, h => by simp at h; subst h; exact List.Perm.refl _
  | k + 1, y :: l, x, h => by
    have := perm_front k l x (by simpa using h)
    exact (List.Perm.cons y this).trans (List.Perm.swap _ _ _)
  | _, [], x, h => by simp at h
/-- the one at place k comes first -/
theorem Inv.front {B : Base} {H : List Res} {w : World} (h : Inv B H w) (k : Nat) {r : Res} (hk : H[k]? = some r) : Inv B (r :: H.eraseIdx k) w := h.perm (perm_front k H r hk)
theorem Inv.drop {B : Base} {r : Res} {H : List Res} {w : World} (h : Inv B (r :: H) w) : Inv B H w :=
  ⟨h.base, fun q hq => h.own q (by simp [hq]), fun q hq => h.lt q (by simp [hq]), by have := h.dis; rw [List.flatMap_cons, List.nodup_append] at this; exact this.2.1, fun q hq => h.out q (by simp [hq])⟩
theorem flatMap_sub {K H : List Res} (hs : K.Sublist H) : (K.flatMap (·.fp)).Sublist (H.flatMap (·.fp)) := by
  induction hs with
  | slnil => exact List.Sublist.refl _
  | cons a _ ih => rw [List.flatMap_cons]; exact ih.trans (List.sublist_append_right _ _)
  | cons_cons a _ ih => rw [List.flatMap_cons, List.flatMap_cons]; exact (List.Sublist.refl _).append ih
theorem Inv.head {B : Base} {r : Res} {H : List Res} {w : World} (h : Inv B (r :: H) w) : r.holds w := h.own r (by simp)
theorem Inv.headLt {B : Base} {r : Res} {H : List Res} {w : World} (h : Inv B (r :: H) w) : ∀ b ∈ r.fp, b < w.heap.size := h.lt r (by simp)
theorem Inv.sub {B : Base} {H K : List Res} {w : World} (h : Inv B H w) (hs : K.Sublist H) : Inv B K w :=
  ⟨h.base, fun q hq => h.own q (hs.subset hq), fun q hq => h.lt q (hs.subset hq), h.dis.sublist (flatMap_sub hs), fun q hq => h.out q (hs.subset hq)⟩
theorem Inv.get {B : Base} {H : List Res} {w : World} (h : Inv B H w) (k : Nat) {r : Res} (hk : H[k]? = some r) : r.holds w := h.own r (List.mem_of_getElem? hk)
/-- a resource of some blocks' own, seen otherwise -/
theorem Inv.as {B : Base} {r : Res} {H : List Res} {w : World} (h : Inv B (r :: H) w) (r' : Res) (hr : r'.holds w) (hf : r'.fp.Sublist r.fp) : Inv B (r' :: H) w := by
  have hd := h.dis
  rw [List.flatMap_cons, List.nodup_append] at hd
  refine h.upd r' (Only.refl _ _) hr (fun b hb => .inl (hf.subset hb)) (fun b hb => h.lt r (by simp) b (hf.subset hb)) (hd.1.sublist hf)
/-- two in one -/
theorem Inv.join {B : Base} {r s : Res} {H : List Res} {w : World} (h : Inv B (r :: s :: H) w) (q : Res) (hq : q.holds w) (hf : q.fp.Sublist (r.fp ++ s.fp)) : Inv B (q :: H) w := by
  refine ⟨h.base, fun x hx => ?_, fun x hx b hb => ?_, ?_, fun x hx b hb => ?_⟩
  · rcases List.mem_cons.1 hx with rfl | hx
    · exact hq
    · exact h.own x (by simp [hx])
  · rcases List.mem_cons.1 hx with rfl | hx
    · rcases List.mem_append.1 (hf.subset hb) with h1 | h1
      · exact h.lt r (by simp) b h1
      · exact h.lt s (by simp) b h1
    · exact h.lt x (by simp [hx]) b hb
  · have hd := h.dis
    simp only [List.flatMap_cons] at hd ⊢
    rw [← List.append_assoc] at hd
    exact hd.sublist (hf.append (List.Sublist.refl _))
  · rcases List.mem_cons.1 hx with rfl | hx
    · rcases List.mem_append.1 (hf.subset hb) with h1 | h1
      · exact h.out r (by simp) b h1
      · exact h.out s (by simp) b h1
    · exact h.out x (by simp [hx]) b hb
/-- one in two -/
theorem Inv.split {B : Base} {q : Res} {H : List Res} {w : World} (h : Inv B (q :: H) w) (r s : Res) (hr : r.holds w) (hs : s.holds w) (hf : q.fp = r.fp ++ s.fp) : Inv B (r :: s :: H) w := by
  refine ⟨h.base, fun x hx => ?_, fun x hx b hb => ?_, ?_, fun x hx b hb => ?_⟩
  · rcases List.mem_cons.1 hx with rfl | hx
    · exact hr
    · rcases List.mem_cons.1 hx with rfl | hx
      · exact hs
      · exact h.own x (by simp [hx])
  · rcases List.mem_cons.1 hx with rfl | hx
    · exact h.lt q (by simp) b (by rw [hf]; simp [hb])
    · rcases List.mem_cons.1 hx with rfl | hx
      · exact h.lt q (by simp) b (by rw [hf]; simp [hb])
      · exact h.lt x (by simp [hx]) b hb
  · have hd := h.dis
    simp only [List.flatMap_cons] at hd ⊢
    rw [hf, List.append_assoc] at hd
    exact hd
  · rcases List.mem_cons.1 hx with rfl | hx
    · exact h.out q (by simp) b (by rw [hf]; simp [hb])
    · rcases List.mem_cons.1 hx with rfl | hx
      · exact h.out q (by simp) b (by rw [hf]; simp [hb])
      · exact h.out x (by simp [hx]) b hb
/-- the cells of the first block, written anew -/
theorem Inv.put {B : Base} {b : Nat} {L : List Value} {t : TypeId} {H : List Res} {w : World} (h : Inv B (Res.cell b L t :: H) w) (L' : List Value) : Inv B (Res.cell b L' t :: H) (setBlk w b L') :=
  h.upd (Res.cell b L' t) ((Only.refl _ _).setBlk (.inl (by simp)) _) ((show Blk w b L t from h.head).set L') (fun b' hb => .inl hb) (fun b' hb => by simp at hb; subst hb; simp [setBlk]; exact h.headLt b' (by simp)) (by simp)
/-- for good -/
theorem Inv.freeze {B : Base} {b : Nat} {L : List Value} {t : TypeId} {H : List Res} {w : World} (h : Inv B (Res.cell b L t :: H) w) : Inv (B.add b (.cells L.toArray t)) H w := by
  have hd := h.dis
  rw [List.flatMap_cons, List.nodup_append] at hd
  refine ⟨⟨fun k o e => ?_, h.base.lo, h.base.os, h.base.tape, h.base.output⟩, h.drop.own, h.drop.lt, h.drop.dis, fun r hr k hk => ?_⟩
  · replace e : (if k = b then some (Obj.cells L.toArray t) else B.I k) = some o := e
    split at e
    · rename_i hkb
      subst hkb
      rw [← e]
      exact h.head
    · exact h.base.blk k o e
  · show (if k = b then _ else B.I k) = none
    rw [if_neg (fun e => by subst e; exact hd.2.2 k (by simp) k (List.mem_flatMap.2 ⟨r, hr, hk⟩) rfl)]
    exact h.drop.out r hr k hk
/-- a law's world: all that was there stays -/
def Base.of (W : World) : Base := ⟨fun b => W.heap[b]?, W.heap.size, W.os, W.tape, W.output⟩
theorem Inv.start (W : World) : Inv (Base.of W) [] W := ⟨⟨fun _ _ h => h, Nat.le_refl _, rfl, rfl, rfl⟩, by simp, by simp, by simp, by simp⟩
theorem Inv.below {W : World} {B : Base} {H : List Res} {w : World} (hB : (Base.of W).Le B) (h : Inv B H w) : Below W.heap.size W w := by
  refine ⟨h.base.os.trans hB.os, h.base.tape.trans hB.tape, h.base.output.trans hB.output, Nat.le_trans hB.lo h.base.lo, fun k hk => ?_⟩
  have e : W.heap[k]? = some W.heap[k] := Array.getElem?_eq_getElem hk
  rw [e]
  exact h.base.blk k _ (hB.blk k _ e)
theorem Inv.weak {B C : Base} {H : List Res} {w : World} (hB : B.Le C) (h : Inv C H w) : Inv B H w := by
  refine ⟨⟨fun b o e => h.base.blk b o (hB.blk b o e), Nat.le_trans hB.lo h.base.lo, h.base.os.trans hB.os, h.base.tape.trans hB.tape, h.base.output.trans hB.output⟩, h.own, h.lt, h.dis, fun r hr b hb => ?_⟩
  have := h.out r hr b hb
  cases e : B.I b with
  | none => rfl
  | some o => rw [hB.blk b o e] at this; cases this
/-- all else, as it lies now -/
def Base.snap (B : Base) (H : List Res) (W : World) : Base := { B with I := fun k => if k ∈ H.flatMap (·.fp) then none else W.heap[k]?, lo := W.heap.size }
theorem Inv.snap {B : Base} {H : List Res} {W : World} (h : Inv B H W) : Inv (B.snap H W) H W := by
  refine ⟨⟨fun b o e => ?_, Nat.le_refl _, h.base.os, h.base.tape, h.base.output⟩, h.own, h.lt, h.dis, fun r hr b hb => ?_⟩
  · replace e : (if b ∈ H.flatMap (·.fp) then none else W.heap[b]?) = some o := e
    split at e
    · cases e
    · exact e
  · show (if b ∈ H.flatMap (·.fp) then none else W.heap[b]?) = none
    rw [if_pos (List.mem_flatMap.2 ⟨r, hr, hb⟩)]
theorem Inv.snapLe {B : Base} {H : List Res} {W : World} (h : Inv B H W) : B.Le (B.snap H W) := by
  refine ⟨fun b o e => ?_, h.base.lo, rfl, rfl, rfl⟩
  show (if b ∈ H.flatMap (·.fp) then none else W.heap[b]?) = some o
  rw [if_neg (fun hm => ?_)]
  · exact h.base.blk b o e
  · obtain ⟨r, hr, hb⟩ := List.mem_flatMap.1 hm
    rw [h.out r hr b hb] at e; cases e
theorem Inv.unsnap {B : Base} {H K : List Res} {W W' : World} (h : Inv (B.snap H W) K W') : W.heap.size ≤ W'.heap.size ∧ ∀ k, k < W.heap.size → k ∉ H.flatMap (·.fp) → W'.heap[k]? = W.heap[k]? := by
  refine ⟨h.base.lo, fun k hk hn => ?_⟩
  have e : W.heap[k]? = some W.heap[k] := Array.getElem?_eq_getElem hk
  rw [e]
  refine h.base.blk k _ ?_
  show (if k ∈ H.flatMap (·.fp) then none else W.heap[k]?) = _
  rw [if_neg hn, e]
end Go.Pm
