/- Regions that draw their order and add to memory at the most; reading; strings of bytes. -/
import Derived.Test.YtffmbdagjpdieaaGreatDoorOps2
namespace Go.Pm
open Go.RowKit

def AllSP (w : World) : List SP → List Value → Prop
  | [], l => l = []
  | R :: Rs, l => ∃ v vs, l = v :: vs ∧ R.p w v ∧ AllSP w Rs vs
theorem AllSP.nil {w : World} : AllSP w [] [] := rfl
theorem AllSP.cons {w : World} {R : SP} {Rs : List SP} {v : Value} {vs : List Value} (h : R.p w v) (t : AllSP w Rs vs) : AllSP w (R :: Rs) (v :: vs) := ⟨v, vs, rfl, h, t⟩
/-- a slice over the whole of a new block -/
def SP.slc (L : List Value) (n : Nat) (t : TypeId) : SP := ⟨fun w v => ∃ b, v = .slice (some ⟨b, 0, none⟩) n n ∧ Blk w b L t, fun _ _ _ he ⟨b, h1, h2⟩ => ⟨b, h1, h2.ext he⟩⟩
theorem no_none {ops : Array Oper} (h : ops.all (fun o => o.dst.isSome) = true) (i : Nat) (o : Oper) (ho : ops[i]? = some o ∧ o.dst = none) : False := by
  obtain ⟨h1, h2⟩ := ho
  obtain ⟨hi, rfl⟩ := Array.getElem?_eq_some_iff.1 h1
  have := Array.all_eq_true.1 h i hi
  rw [h2] at this
  cases this
theorem AllOps.mono {p q : Nat → Oper → Prop} : ∀ {l : List Oper} {k : Nat}, AllOps p k l → (∀ i o, p i o → q i o) → AllOps q k l
  | [], _, _, _ => trivial
  | _ :: _, _, h, f => ⟨f _ _ h.1, AllOps.mono h.2 f⟩
section
variable {P : Program} {ops : Array Oper} {Q : Exit → Act → World → Prop} {a0 : Act} {w0 : World}
theorem region_mono {n id : Nat} (hm : P.follows .mixedOrders = true) (A : List SP) (k : Nat) (hsize : a0.tmps.size = k) (hck : (backward ops && onceDst ops && fitsDst ops k && decide (A.length = ops.size)) = true) {B : Base} {H : List Res} (hv : Inv B H w0)
    (hop : AllOps (fun i o => ∀ a w, Inv B H w → Ready ops A a0 a w i o → StepOk P ops A Q i o a w) 0 ops.toList) (hi : ∀ (i : Nat) (o : Oper) w, (ops[i]? = some o ∧ o.dst = none) → ∃ v, nth A i w v)
    (hfin : ∀ vs w, AllSP w A vs → Inv B H w → Q .normal (putAll ops.toList vs a0) w) : (Code.region id ops true).wpIn Fence.wide n P Q a0 w0 := by
  have hck2 := hck
  rw [Bool.and_eq_true] at hck2
  have hlen := of_decide_eq_true hck2.2
  refine wpIn_wide.2 (wp_region_mono hm A k hsize hck (AllOps.mono hop ?_) ?_)
  · intro i o h a w he hR
    exact h a w (hv.ext he) hR
  · intro vs w h1 he hF
    have key : ∀ (A : List SP) (os : List Oper) (vs : List Value) (a : Act), A.length = os.length → vs.length = os.length → (∀ (i : Nat) (o : Oper), os[i]? = some o → o.dst = none → ∃ v, nth A i w v) → Facts w A os vs → ∃ us, AllSP w A us ∧ putAll os vs a = putAll os us a := by
      intro A
      induction A with
      | nil =>
        intro os vs a h1 h2 _ _
        cases os with
        | nil =>
          cases vs with
          | nil => exact ⟨[], .nil, rfl⟩
          | cons _ _ => simp at h2
        | cons _ _ => simp at h1
      | cons R A ih =>
        intro os vs a h1 h2 h3 h4
        cases os with
        | nil => simp at h1
        | cons o os =>
          cases vs with
          | nil => simp at h2
          | cons v vs =>
            obtain ⟨h5, h6⟩ := h4
            obtain ⟨us, h7, h8⟩ := ih os vs (a.put o.dst v) (by simpa using h1) (by simpa using h2) (fun i o' ho hd => by simpa [nth] using h3 (i + 1) o' (by simpa using ho) hd) h6
            cases hd : o.dst with
            | none =>
              obtain ⟨u, hu⟩ := h3 0 o (by simp) hd
              refine ⟨u :: us, .cons (by simpa [nth] using hu) h7, ?_⟩
              show putAll os vs (a.put o.dst v) = putAll os us (a.put o.dst u)
              rw [h8, hd]
              rfl
            | some d => exact ⟨v :: us, .cons (h5 (by rw [hd]; rfl)) h7, h8⟩
    obtain ⟨us, h2, h3⟩ := key A ops.toList vs a0 (by simpa using hlen) (by simpa using h1) (fun i o ho hd => hi i o w ⟨by simpa using ho, hd⟩) hF
    rw [h3]
    exact hfin us w h2 (hv.ext he)
end
section
variable {P : Program} {ops : Array Oper} {Q : Exit → Act → World → Prop} {A : List SP} {i : Nat} {o : Oper} {a : Act} {w : World} {t e : TypeId} {x y : Operand}
/-- make, in such a region -/
theorem mono_make {n bytes : Nat} {z : Value} (hg : Region.wanted o (yielded ops a.tmps) = true) (ho : o.op = .makeSlice t x y) (hx : a.eval x = .int .i64 (n : Int)) (hy : a.eval y = .int .i64 (n : Int)) (ht : P.underlying t = some (.slice e)) (hi : (P.info? e).map (fun i => (i.zero, i.size, i.bytes)) = some (some z, 1, bytes)) (hz1 : z.cells = #[z])
    (hcm : n ≤ maxLen) (hby : n * bytes ≤ 140737488355328) (hA : nth A i = (SP.slc (List.replicate n z) n e).p) : StepOk P ops A Q i o a w := by
  obtain ⟨i0, hi, hh⟩ := Option.map_eq_some_iff.1 hi
  simp only [Prod.mk.injEq] at hh
  unfold maxLen at hcm
  have hr := run_make (P := P) w t e i0 z ht hi hh.1 .i64 .i64 n n (by omega) (by omega) (by rw [hh.2.2, Int.mul_comm, ← Int.natCast_mul]; omega) (by omega)
  have hc : madeCells z.cells ((n : Int).toNat * i0.size) = (List.replicate n z).toArray := by
    apply Array.ext'
    rw [hh.2.1, Int.toNat_natCast, Nat.mul_one, madeCells_one hz1]
  rw [hc, Int.toNat_natCast] at hr
  refine stepOk_of (v := .slice (some ⟨w.heap.size, 0, none⟩) n n) (w' := w.alloc (.cells (List.replicate n z).toArray e)) hg (by simp [execOp, ho, hx, hy, hr]) ((Below.refl _ _).alloc (Nat.le_refl _) _) ?_
  rw [hA]
  exact ⟨w.heap.size, rfl, blk_new _ _ _⟩
end
/-- what can be read from an address, under what is fixed and one's own -/
def RdV (B : Base) (H : List Res) (a : Option Addr) (xs : List Value) : Prop :=
  ∀ i (h : i < xs.length), ∃ b off, a = some ⟨b, off, none⟩ ∧ ((∃ arr t z, B.I b = some (.cells arr t z) ∧ arr[off + i]? = some xs[i]) ∨ ∃ L t, Res.cell b L t ∈ H ∧ L[off + i]? = some xs[i])
section
variable {B C : Base} {H K : List Res} {a : Option Addr} {xs : List Value} {w : World}
theorem RdV.cellAt (hr : RdV B H a xs) (hv : Inv B H w) (i : Nat) (h : i < xs.length) : ∃ b off, a = some ⟨b, off, none⟩ ∧ w.cell? ⟨b, off + i, none⟩ = some xs[i] := by
  obtain ⟨b, off, h1, h2⟩ := hr i h
  refine ⟨b, off, h1, ?_⟩
  rcases h2 with ⟨arr, t, z, h3, h4⟩ | ⟨L, t, h3, h4⟩
  · rw [cell_of_row w b (off + i) arr t z (hv.base.blk b _ h3)]
    exact h4
  · rw [Blk.cell (hv.own _ h3 : Blk w b L t)]
    exact h4
theorem RdV.src (hr : RdV B H a xs) (hv : Inv B H w) : Src w a xs := fun i h => hr.cellAt hv i h
theorem RdV.more (hr : RdV B H a xs) (hB : B.Le C) (hH : ∀ r ∈ H, r ∈ K) : RdV C K a xs := by
  intro i h
  obtain ⟨b, off, h1, h2⟩ := hr i h
  refine ⟨b, off, h1, ?_⟩
  rcases h2 with ⟨arr, t, z, h3, h4⟩ | ⟨L, t, h3, h4⟩
  · exact .inl ⟨arr, t, z, hB.blk _ _ h3, h4⟩
  · exact .inr ⟨L, t, hH _ h3, h4⟩
theorem RdV.cons (hr : RdV B H a xs) (r : Res) : RdV B (r :: H) a xs := hr.more (Base.Le.refl B) (fun _ h => List.mem_cons_of_mem _ h)
theorem rdV_nil : RdV B H a [] := fun i h => by simp at h
theorem rdV_cell {b : Nat} {L : List Value} {t : TypeId} (off : Nat) (h : Res.cell b L t ∈ H) (hx : ∀ i (hi : i < xs.length), L[off + i]? = some xs[i]) : RdV B H (some ⟨b, off, none⟩) xs :=
  fun i hi => ⟨b, off, rfl, .inr ⟨L, t, h, hx i hi⟩⟩
theorem RdV.bytes {r : Res} {l : List UInt8} (hr : RdV B H a (l.map B8)) (hv : Inv B (r :: H) w) : Bytes w (fun b => b < w.heap.size ∧ b ∉ r.fp) a l := by
  have hd := hv.dis
  rw [List.flatMap_cons, List.nodup_append] at hd
  intro i h
  obtain ⟨b, off, h1, h2⟩ := hr i (by simpa using h)
  refine ⟨b, off, h1, ?_⟩
  rcases h2 with ⟨arr, t, z, h3, h4⟩ | ⟨L, t, h3, h4⟩
  · refine ⟨⟨hv.base.lt h3, fun hm => ?_⟩, ?_⟩
    · rw [hv.out r (by simp) b hm] at h3; cases h3
    · rw [cell_of_row w b (off + i) arr t z (hv.base.blk b _ h3)]
      simpa using h4
  · refine ⟨⟨hv.drop.lt _ h3 b (by simp), fun hm => hd.2.2 b hm b (List.mem_flatMap.2 ⟨_, h3, by simp⟩) rfl⟩, ?_⟩
    rw [Blk.cell (hv.drop.own _ h3 : Blk w b L t)]
    simpa using h4
/-- what a law's argument reads as, is read from its world for good -/
theorem rdV_of (W : World) (h : Src W a xs) : RdV (Base.of W) H a xs := by
  intro i hi
  obtain ⟨b, off, h1, h2⟩ := h i hi
  refine ⟨b, off, h1, .inl ?_⟩
  unfold World.cell? at h2
  split at h2
  · rename_i c e z hb
    simp at h2
    exact ⟨c, e, z, hb, h2⟩
  · cases h2
end
/-- a contract over resources says what it adds alone -/
theorem ext_of {W w : World} {H : List Res} (h : Inv (Base.of W) H w) : Ext W w := Inv.below (Base.Le.refl _) h
section
variable {P : Program} {a : Act} {w : World} {o : Oper} {x y : Operand} {t u e : TypeId}
/-- string(b) -/
theorem ex_str {ad : Option Addr} {n c : Nat} {l : List UInt8} {S : Nat → Prop} (hs : P.underlying t = some (.slice e)) (he : P.underlying e = some (.int .u8)) (hd : P.underlying u = some .string) (ho : o.op = .convert t u x) (hx : a.eval x = .slice ad n c) (hb : Bytes w S ad l) (hn : l.length = n) : Ex P a o w (.string ⟨l.toArray⟩) w := by
  unfold Ex
  simp [execOp, ho, hx, run_str_of_bytes (P := P) (w := w) (S := S) (c := c) hs he hd hb hn]
theorem bytes_blk {b off : Nat} {L : List Value} {l : List UInt8} (h : Blk w b L t) (hl : ∀ i (hi : i < l.length), L[off + i]? = some (B8 l[i])) : Bytes w (fun _ => True) (some ⟨b, off, none⟩) l :=
  fun i hi => ⟨b, off, rfl, trivial, by rw [h.cell]; exact hl i hi⟩
theorem bytes_all {b : Nat} {l : List UInt8} (h : Blk w b (l.map B8) t) : Bytes w (fun _ => True) (some ⟨b, 0, none⟩) l :=
  fun i hi => ⟨b, 0, rfl, trivial, by rw [h.cell]; simp [hi]⟩
theorem bytes_rep {b m : Nat} {c : UInt8} (h : Blk w b (List.replicate m (B8 c)) t) : Bytes w (fun _ => True) (some ⟨b, 0, none⟩) (List.replicate m c) :=
  bytes_all (t := t) (by rw [List.map_replicate]; exact h)
/-- s + s' -/
theorem ex_cat {s s' : List UInt8} (ho : o.op = .binOp .add t x y u) (hx : a.eval x = .string ⟨s.toArray⟩) (hy : a.eval y = .string ⟨s'.toArray⟩) (hl : s.length + s'.length ≤ 9223372036854775807) : Ex P a o w (.string ⟨(s ++ s').toArray⟩) w := by
  have h1 : (ByteArray.mk s.toArray).size = s.length := rfl
  have h2 : (ByteArray.mk s'.toArray).size = s'.length := rfl
  have h3 : (ByteArray.mk s.toArray) ++ (ByteArray.mk s'.toArray) = ⟨(s ++ s').toArray⟩ := by
    apply ByteArray.ext
    simp
  have h4 : ¬ (IntKind.i64.max < ((s.length + s'.length : Nat) : Int)) := by
    have : IntKind.i64.max = 9223372036854775807 := by decide
    omega
  unfold Ex
  simp only [execOp, ho, hx, hy, eqGuard, binOp, Op.stringOp, h1, h2, h3]
  simp
  omega
end
end Go.Pm
