/- Slices: pieces, appending within the room, copying. -/
import Derived.Test.YtffmbdagjpdieaaGreatDoorDrawSl
namespace Go.Pm
open Go.RowKit
section
variable {P : Program} {a : Act} {w w' : World} {o : Oper} {v : Value} {x y z : Operand} {t u e : TypeId} {p q r : Value}
theorem addr_add (g off k : Nat) : (⟨g, off, none⟩ : Addr).add k = ⟨g, off + k, none⟩ := by unfold Addr.add; split <;> simp_all
/-- s[l:] -/
theorem run_from {g off n c l size : Nat} (ht : P.underlying t = some (.slice (P.elem t))) (hs : ∀ w, (sizeOf (P.elem t)).run P w = .ok size w) (h1 : l ≤ n) (h2 : l < c) :
    (Instr.sliceAt t (.slice (some ⟨g, off, none⟩) n c) (some (.int .i64 (l : Int))) none none).run P w = .ok (.slice (some ⟨g, off + l * size, none⟩) (n - l) (c - l)) w := by
  rw [run_sliceAt_slice w t _ _ _ _ ht, run_slice_l w t _ n c ht .i64 l (by omega) (by omega), hs]
  simp only [Result.andThen, sliced, Int.toNat_natCast, Option.map_some, addr_add, show ¬ c = l by omega, if_false]
theorem run_from1 {g off n c l : Nat} (ht : P.underlying t = some (.slice (P.elem t))) (hs : ∀ w, (sizeOf (P.elem t)).run P w = .ok 1 w) (h1 : l ≤ n) (h2 : l < c) :
    (Instr.sliceAt t (.slice (some ⟨g, off, none⟩) n c) (some (.int .i64 (l : Int))) none none).run P w = .ok (.slice (some ⟨g, off + l, none⟩) (n - l) (c - l)) w := by
  have := run_from (w := w) (g := g) (off := off) ht hs h1 h2
  rwa [Nat.mul_one] at this
/-- append to bytes, there being room -/
theorem ex_appendRoom {g l c m c2 : Nat} {ad : Addr} {pre mid post news : List Value} {zv : Value} {bytes : Nat} (E : Elem P t e zv 1 bytes) (ho : o.op = .call { callee := .builtin .append, args := #[x, y], argTypes := #[t, t] }) (hx : a.eval x = .slice (some ⟨g, 0, none⟩) l c) (hy : a.eval y = .slice (some ad) m c2)
    (hb : Blk w g (pre ++ mid ++ post) e) (hpre : pre.length = l) (hmid : mid.length = m) (hl : news.length = m) (hroom : l + m ≤ c) (hsrc : Src w (some ad) news) (h1 : ∀ u ∈ news, u.oneCell' = true) : Ex P a o w (.slice (some ⟨g, 0, none⟩) (l + m) c) (setBlk w g (pre ++ news ++ post)) := by
  obtain ⟨ht, ⟨i, hi, hz, hs, hby⟩, hzs, hpos⟩ := E
  have hnews : ∀ j u, news[j]? = some u → w.cell? (ad.add j) = some u := by
    intro j u hu
    obtain ⟨hj, rfl⟩ := List.getElem?_eq_some_iff.1 hu
    obtain ⟨b, off, ha, hc⟩ := hsrc j hj
    simp only [Option.some.injEq] at ha
    subst ha
    rw [addr_add]; exact hc
  have hr := run_append_room (P := P) w t o.type e i ht hi g l c (pre ++ mid ++ post).toArray hb ad m c2 news (by rw [hs]; omega) hnews h1 hroom (by rw [hs]; simp; omega)
  have e1 : ((pre ++ mid ++ post).toArray.toList.take (l * i.size)) ++ news ++ ((pre ++ mid ++ post).toArray.toList.drop (l * i.size + news.length)) = pre ++ news ++ post := by
    rw [hs, Nat.mul_one, hl, ← hmid, ← hpre, List.append_assoc pre mid post]
    simp
  unfold Ex
  simp only [execOp, ho, resolve, invoke, builtin, List.map_toArray, List.map_cons, List.map_nil, hx, hy, Sem.run_bind, Sem.run_pure, Result.andThen_ok, hr]
  simp only [setBlk]
  rw [← e1]
/-- the cells of a piece of a block -/
theorem src_mid {b off : Nat} {pre mid post : List Value} (hb : Blk w b (pre ++ mid ++ post) t) (ho : pre.length = off) : Src w (some ⟨b, off, none⟩) mid := by
  intro i hi
  refine ⟨b, off, rfl, ?_⟩
  rw [hb.cell, ← ho, mid_get pre mid post i hi]
end
/-- the one at place k turned -/
theorem Inv.updAt {B : Base} {H : List Res} {w w' : World} (h : Inv B H w) (k : Nat) {r : Res} (hk : H[k]? = some r) (r' : Res) (ho : Only r.fp w w') (hr : r'.holds w') (hf : ∀ b ∈ r'.fp, b ∈ r.fp ∨ w.heap.size ≤ b) (hl : ∀ b ∈ r'.fp, b < w'.heap.size) (hn : r'.fp.Nodup) : Inv B (H.set k r') w' :=
  ((h.front k hk).upd r' ho hr hf hl hn).perm (perm_set k H _ _ hk)
end Go.Pm
