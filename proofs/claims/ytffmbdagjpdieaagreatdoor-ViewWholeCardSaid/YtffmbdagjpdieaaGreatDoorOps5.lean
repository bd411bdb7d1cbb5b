/- Bytes out of a text; rows that stay for good. -/
import Derived.Test.YtffmbdagjpdieaaGreatDoorOps4
namespace Go.Pm
open Go.RowKit
theorem freeze_heap {w : World} {b : Nat} {L : List Value} {t : TypeId} (hb : Blk w b L t) : (w.freeze ⟨b, L.length, none⟩ 1).heap[b]? = some (.cells L.toArray t (L.length, L.length + 1)) := by
  unfold World.freeze
  rw [if_neg (by decide)]
  show (w.heap.modify b _)[b]? = _
  rw [Array.getElem?_modify, if_pos rfl, show w.heap[b]? = _ from hb]
  simp
theorem freeze_other {w : World} {a : Addr} {n k : Nat} (hk : k ≠ a.block) : (w.freeze a n).heap[k]? = w.heap[k]? := by
  unfold World.freeze
  split
  · rfl
  · show (w.heap.modify a.block _)[k]? = _
    rw [Array.getElem?_modify, if_neg (fun e => hk e.symm)]
section
variable {F : Fence} {n : Nat} {P : Program} {ops : Array Oper} {Q : Exit → Act → World → Prop} {a : Act} {w : World} {rest : List Oper} {o : Oper} {B : Base} {H : List Res} {t e u : TypeId} {x : Operand}
/-- []byte of a constant text: its row stays for good -/
theorem sl_mark {b m c : Nat} {L : List Value} (hF : ∀ f, F.fn f) (hg : Region.wanted o (yielded ops a.tmps) = true) (ho : o.op = .convert t t x) (hx : a.eval x = .slice (some ⟨b, 0, none⟩) m c) (ht : P.underlying t = some (.slice e)) (he : P.underlying e = some (.int .u8)) (hv : Inv B (Res.cell b L u :: H) w)
    (h : ∀ B' w', B.Le B' → Inv B' H w' → RdV B' [] (some ⟨b, 0, none⟩) L → wpListIn F n P ops Q rest (a.put o.dst (.slice (some ⟨b, 0, none⟩) m c)) w') : wpListIn F n P ops Q (o :: rest) a w := by
  have hb : Blk w b L u := hv.head
  have hsh : w.shape? b = some (u, L.length) := by unfold World.shape?; rw [show w.heap[b]? = _ from hb]; simp
  have hrun : (convert t t (.slice (some ⟨b, 0, none⟩) m c)).run P w = .ok (.slice (some ⟨b, 0, none⟩) m c) (w.freeze ⟨b, L.length, none⟩ 1) := by
    simp [convert, run_underlying ht, run_underlying he, markStringish, hsh, Result.andThen]
  have hout : B.I b = none := hv.out _ (List.mem_cons_self) b (by simp)
  have hd := hv.dis
  rw [List.flatMap_cons, List.nodup_append] at hd
  have hsz : (w.freeze ⟨b, L.length, none⟩ 1).heap.size = w.heap.size := by unfold World.freeze; split <;> simp
  have hi : Inv (B.add b (.cells L.toArray u (L.length, L.length + 1))) H (w.freeze ⟨b, L.length, none⟩ 1) := by
    refine ⟨⟨fun k o ek => ?_, by rw [hsz]; exact hv.base.lo, ?_, ?_, ?_⟩, fun r hr' => r.stab w _ (fun k hk => freeze_other (fun ek => ?_)) (hv.drop.own r hr'), fun r hr' k hk => by rw [hsz]; exact hv.drop.lt r hr' k hk, hv.drop.dis, fun r hr' k hk => ?_⟩
    · replace ek : (if k = b then some (Obj.cells L.toArray u (L.length, L.length + 1)) else B.I k) = some o := ek
      split at ek
      · rename_i hkb; subst hkb; rw [← ek]; exact freeze_heap hb
      · rename_i hkb; rw [freeze_other hkb]; exact hv.base.blk k o ek
    · rw [show (w.freeze ⟨b, L.length, none⟩ 1).os = w.os by unfold World.freeze; split <;> rfl]; exact hv.base.os
    · rw [show (w.freeze ⟨b, L.length, none⟩ 1).tape = w.tape by unfold World.freeze; split <;> rfl]; exact hv.base.tape
    · rw [show (w.freeze ⟨b, L.length, none⟩ 1).output = w.output by unfold World.freeze; split <;> rfl]; exact hv.base.output
    · replace ek : k = b := ek
      subst ek
      exact hd.2.2 k (by simp) k (List.mem_flatMap.2 ⟨r, hr', hk⟩) rfl
    · show (if k = b then _ else B.I k) = none
      rw [if_neg (fun ek => by subst ek; exact hd.2.2 k (by simp) k (List.mem_flatMap.2 ⟨r, hr', hk⟩) rfl)]
      exact hv.drop.out r hr' k hk
  refine wpi_exG hF hg (by unfold isDefer; rw [ho]) (by unfold Ex; simp [execOp, ho, hx, hrun] : Ex P a o w (.slice (some ⟨b, 0, none⟩) m c) (w.freeze ⟨b, L.length, none⟩ 1)) (h _ _ (Base.add_le hout) hi (fun i hi => ⟨b, 0, rfl, .inl ⟨_, _, _, Base.add_self, ?_⟩⟩))
  simp [hi]
end
/-- a row that stays for good -/
theorem Inv.rowStays {B : Base} {e : TypeId} {ad : Option Addr} {n c : Nat} {xs : List Value} {H : List Res} {w : World} (hv : Inv B (Res.row e 1 (.slice ad n c) n xs :: H) w) : ∃ C : Base, B.Le C ∧ Inv C H w ∧ RdV C [] ad xs ∧ SliceOk ad n c := by
  have hr : w.ownsRow 0 e 1 (.slice ad n c) n xs := hv.head
  rcases hr.2 with ⟨h1, h2⟩ | ⟨g, cap, cur, h1, hb, hg, hnc, hcm, hcs, htake⟩
  · simp only [Value.slice.injEq] at h1
    obtain ⟨rfl, rfl, rfl⟩ := h1
    have hx : xs = [] := List.eq_nil_of_length_eq_zero (by have := hr.1; omega)
    subst hx
    exact ⟨B, Base.Le.refl B, hv.drop, rdV_nil, ⟨by omega, by simp, fun _ => rfl⟩⟩
  · simp only [Value.slice.injEq] at h1
    obtain ⟨rfl, -, rfl⟩ := h1
    have hout : B.I g = none := hv.out _ (List.mem_cons_self) g (by simp [Value.ownBlock])
    have hc : Inv B (Res.cell g cur.toList e :: H) w := hv.as (Res.cell g cur.toList e) (by simpa using hg) (by simp [Value.ownBlock])
    have hf := hc.freeze
    simp only [Array.toArray_toList] at hf
    refine ⟨_, Base.add_le hout, hf, fun i hi => ⟨g, 0, rfl, .inl ⟨_, _, _, Base.add_self, ?_⟩⟩, ⟨hnc, hcm, fun h => by cases h⟩⟩
    have h2 : (cur.toList.take (n * 1))[i]? = xs[i]? := by rw [htake]
    have hin : i < n * 1 := by have := hr.1; omega
    rw [List.getElem?_take_of_lt hin, List.getElem?_eq_getElem hi] at h2
    rw [Nat.zero_add, ← Array.getElem?_toList]
    exact h2
end Go.Pm
