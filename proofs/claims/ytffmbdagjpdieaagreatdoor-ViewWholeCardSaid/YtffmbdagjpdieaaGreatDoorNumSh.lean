/- What the held state needs of strconv: FormatInt and ParseInt in base ten, from the shelf. -/
import Derived.Test.YtffmbdagjpdieaaGreatDoorShelf
import Derived.Test.YtffmbdagjpdieaaGreatDoorNumW
namespace Go.Proofs.YtffmbdagjpdieaaGreatDoor
open Go.RowKit Go.Pm
theorem bytesWorld_ext (w : World) (e : TypeId) (t : ByteArray) : Ext w (Lib.bytesWorld w e t) := by
  have h : ∀ k, k < w.heap.size → (Lib.bytesWorld w e t).heap[k]? = w.heap[k]? := by
    intro k hk
    unfold Lib.bytesWorld World.freeze
    split
    · show (w.heap.push _)[k]? = _
      rw [Array.getElem?_push_lt hk, Array.getElem?_eq_getElem hk]
    · show ((w.heap.push _).modify w.heap.size _)[k]? = _
      rw [Array.getElem?_modify, if_neg (by omega), Array.getElem?_push_lt hk, Array.getElem?_eq_getElem hk]
  have hs : w.heap.size ≤ (Lib.bytesWorld w e t).heap.size := by
    unfold Lib.bytesWorld World.freeze
    split
    · show _ ≤ (w.heap.push _).size
      simp
    · show _ ≤ ((w.heap.push _).modify _ _).size
      simp
  refine ⟨?_, ?_, ?_, hs, h⟩ <;> (unfold Lib.bytesWorld World.freeze; split <;> rfl)
theorem growN_ext (w : World) (k : Nat) (os : Array Obj) : Ext w (Go.Sort.grow (w.drewN k) os) := by
  refine ⟨rfl, rfl, rfl, ?_, fun b hb => ?_⟩
  · show _ ≤ (w.heap ++ os).size
    simp
  · show (w.heap ++ os)[b]? = _
    rw [Array.getElem?_append_left hb]
theorem parsesInt (B : Base) (H : List Res) : ParsesInt B H := fun w n h0 h1 hv => by
  have hl := itoa_length n h0 h1
  have h : Calls Tryz.prog 38 #[.string ⟨(Lib.itoa n).toArray⟩, .int .i64 10, .int .i64 64] w _ := Any.strconv_ParseInt_10_at64_ok Tryz.laysPI ⟨(Lib.itoa n).toArray⟩ (by show (Lib.itoa n).toArray.size ≤ _; simp; omega) n (parse_itoa n h0 h1) w
  refine h.mono ?_
  rintro e w' ⟨rfl, rfl | ⟨t, rfl⟩⟩
  · exact ⟨rfl, hv⟩
  · exact ⟨rfl, hv.ext (bytesWorld_ext w _ t)⟩
theorem tab_below {P : Program} {W w : World} {n : String} {k : IntKind} {l : List Int} (h : Lib.TabIs P W n k l) (hb : Below W.heap.size W w) : Lib.TabIs P w n k l := by
  unfold Lib.TabIs World.var? at h ⊢
  cases hg : P.globalNamed n with
  | none => rw [hg] at h; cases h
  | some g =>
    rw [hg] at h
    simp only [Option.bind_some] at h ⊢
    have hlt : g < W.heap.size := by
      rcases Nat.lt_or_ge g W.heap.size with hlt | hge
      · exact hlt
      · rw [Array.getElem?_eq_none hge] at h; cases h
    rw [hb.block g hlt]; exact h
theorem formatsInt (B : Base) (H : List Res) (W : World) (hB : (Base.of W).Le B) (ht : Lib.TabIs Tryz.prog W "internal/strconv.uint64pow10" .u64 Lib.pow10Tab) : FormatsInt B H := fun w n h0 h1 hv => by
  have h : Calls Tryz.prog 50 #[.int .i64 n, .int .i64 10] w _ := Any.strconv_FormatInt_10 Tryz.laysFI n h0 h1 w (tab_below ht (hv.below hB))
  refine h.mono ?_
  rintro e w' ⟨rfl, k, os, rfl⟩
  exact ⟨rfl, hv.ext (growN_ext w k os)⟩
end Go.Proofs.YtffmbdagjpdieaaGreatDoor
