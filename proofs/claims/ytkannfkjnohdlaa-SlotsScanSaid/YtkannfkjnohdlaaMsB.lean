/- A region that draws its order, its values told, over resources. -/
import Derived.Test.YtkannfkjnohdlaaMsA
import Derived.Test.YtkannfkjnohdlaaRows
import Derived.Deep.LoopGhost
import Derived.Lib.Hide
import Derived.Lib.SlBytesConst
import Derived.Deep.WholeRow
import Derived.Deep.DeepCutAuto
namespace Go.Pm
open Go.RowKit

def mixV (mem : List Nat) (vals : List Value) : Nat → List Value → List Value
  | i, v :: vs => (if mem.contains i then vals.getD (place mem i) undef else v) :: mixV mem vals (i + 1) vs
  | _, [] => []
theorem putAll_mix (mem : List Nat) (vals : List Value) : ∀ (os : List Oper) (VS vs : List Value) (i : Nat) (a : Act), VS.length = os.length → vs.length = os.length → Facts3 mem vals i (VS.map SP.eq) os vs → putAll os vs a = putAll os (mixV mem vals i VS) a
  | [], [], [], _, _, _, _, _ => rfl
  | o :: os, v :: VS, u :: vs, i, a, h1, h2, h3 => by
    obtain ⟨h4, h5⟩ := h3
    have e : a.put o.dst u = a.put o.dst (if mem.contains i then vals.getD (place mem i) undef else v) := by
      cases hd : o.dst with
      | none => rfl
      | some d =>
        have h6 := h4 (by rw [hd]; rfl)
        split at h6
        · rename_i hm; rw [if_pos hm, h6]
        · rename_i hm
          obtain ⟨w, hw⟩ := h6
          rw [if_neg hm, show u = v from hw]
    show putAll os vs (a.put o.dst u) = putAll os (mixV mem vals (i + 1) VS) (a.put o.dst _)
    rw [e]
    exact putAll_mix mem vals os VS vs (i + 1) _ (by simpa using h1) (by simpa using h2) h5
  | [], _ :: _, _, _, _, h, _, _ => by simp at h
  | _ :: _, [], _, _, _, h, _, _ => by simp at h
  | [], [], _ :: _, _, _, _, h, _ => by simp at h
  | _ :: _, _ :: _, [], _, _, _, h, _ => by simp at h
section
variable {n : Nat} {P : Program} {ops : Array Oper} {Q : Exit → Act → World → Prop} {a0 : Act} {w0 : World}
theorem add_step' {c : Bool} {p q : Prop} (hc : c = false) (h : q) : if c = true then p else q := by subst hc; exact h
theorem mem_step' {c : Bool} {p q : Prop} (hc : c = true) (h : p) : if c = true then p else q := by subst hc; exact h
theorem region_detR {l id : Nat} (hm : P.follows .mixedOrders = true) (hno : ¬ LetsOut Q) (VS : List Value) (mem : List Nat) (J : List Value → World → Prop) (k : Nat) (hsize : a0.tmps.size = k)
    (hck : (backward ops && onceDst ops && fitsDst ops k && decide mem.Nodup && chained ops mem && mem.all (· < ops.size) && decide (VS.length = ops.size)) = true) (hd : ops.all (fun o => !isDefer o) = true)
    (h0 : J [] w0) (hJ : ∀ vals w w', J vals w → Ext w w' → J vals w')
    (hop : AllOps (fun i o => ∀ a w vals, J vals w → Ready3 ops (VS.map SP.eq) mem a0 a w vals i → if mem.contains i then (vals.length = place mem i → StepMem P ops J Q o a w vals) else StepAdds P ops (VS.map SP.eq) Q i o a w) 0 ops.toList)
    (hfin : ∀ w vals, vals.length = mem.length → J vals w → Q .normal (putAll ops.toList (mixV mem vals 0 VS) a0) w) : (Code.region id ops true).wpIn (Fence.wide.inRound l) n P Q a0 w0 := by
  have hck2 := hck
  rw [Bool.and_eq_true] at hck2
  refine wpIn_region_chain hm hno (VS.map SP.eq) mem J k hsize hck2.1 hd h0 hJ hop (fun vs w vals h1 h2 h3 h4 => ?_)
  rw [putAll_mix mem vals ops.toList VS vs 0 a0 (by simpa using of_decide_eq_true hck2.2) (by simpa using h1) h4]
  exact hfin w vals h2 h3
theorem region_det {id : Nat} (hm : P.follows .mixedOrders = true) (VS : List Value) (mem : List Nat) (J : List Value → World → Prop) (k : Nat) (hsize : a0.tmps.size = k)
    (hck : (backward ops && onceDst ops && fitsDst ops k && decide mem.Nodup && chained ops mem && mem.all (· < ops.size) && decide (VS.length = ops.size)) = true)
    (h0 : J [] w0) (hJ : ∀ vals w w', J vals w → Ext w w' → J vals w')
    (hop : AllOps (fun i o => ∀ a w vals, J vals w → Ready3 ops (VS.map SP.eq) mem a0 a w vals i → if mem.contains i then (vals.length = place mem i → StepMem P ops J Q o a w vals) else StepAdds P ops (VS.map SP.eq) Q i o a w) 0 ops.toList)
    (hfin : ∀ w vals, vals.length = mem.length → J vals w → Q .normal (putAll ops.toList (mixV mem vals 0 VS) a0) w) : (Code.region id ops true).wpIn Fence.wide n P Q a0 w0 := by
  have hck2 := hck
  rw [Bool.and_eq_true] at hck2
  refine wpIn_wide.2 (wp_region_chain hm (VS.map SP.eq) mem J k hsize hck2.1 h0 hJ hop (fun vs w vals h1 h2 h3 h4 => ?_))
  rw [putAll_mix mem vals ops.toList VS vs 0 a0 (by simpa using of_decide_eq_true hck2.2) (by simpa using h1) h4]
  exact hfin w vals h2 h3
end
theorem Ready3.v {ops : Array Oper} {VS : List Value} {mem : List Nat} {a0 a : Act} {w : World} {vals : List Value} {i : Nat} (hR : Ready3 ops (VS.map SP.eq) mem a0 a w vals i) (j d : Nat) (h1 : ahead ops j i = true) (h2 : (ops[j]?).bind (·.dst) = some d) (h3 : mem.contains j = false) {v : Value} (hv : VS[j]? = some v) : a.tmps.getD d undef = v := by
  obtain ⟨w', h⟩ := hR.old j d h1 h2 h3
  unfold nth at h
  rw [List.getD_eq_getElem?_getD, List.getElem?_map, hv] at h
  exact h
section
variable {n : Nat} {P : Program} {ops : Array Oper} {Q : Exit → Act → World → Prop} {a0 : Act} {w0 : World}
end
end Go.Pm
/- Slices: pieces, appending within the room, copying. -/
namespace Go.Pm
open Go.RowKit
section
variable {P : Program} {a : Act} {w w' : World} {o : Oper} {v : Value} {x y z : Operand} {t u e : TypeId} {p q r : Value}
theorem addr_add (g off k : Nat) : (⟨g, off, none⟩ : Addr).add k = ⟨g, off + k, none⟩ := by unfold Addr.add; split <;> simp_all
/-- s[l:] -/
theorem run_from {g off n c l size : Nat} (ht : P.underlying t = some (.slice (P.elem t))) (hs : ∀ w, (sizeOf (P.elem t)).run P w = .ok size w) (h1 : l ≤ n) (h2 : l < c) :
    (Instr.sliceAt t (.slice (some ⟨g, off, none⟩) n c) (some (.int .i64 (l : Int))) none none).run P w = .ok (.slice (some ⟨g, off + l * size, none⟩) (n - l) (c - l)) w := by
  rw [run_sliceAt_slice w t _ _ _ _ ht, run_slice_l w t _ n c ht .i64 l (by omega) (by omega), hs]
  simp only [Result.andThen, sliced, Int.toNat_natCast, Option.map_some, addr_add, show ¬ c = l by omega, if_false]
theorem run_from1 {g off n c l : Nat} (ht : P.underlying t = some (.slice (P.elem t))) (hs : ∀ w, (sizeOf (P.elem t)).run P w = .ok 1 w) (h1 : l ≤ n) (h2 : l < c) :
    (Instr.sliceAt t (.slice (some ⟨g, off, none⟩) n c) (some (.int .i64 (l : Int))) none none).run P w = .ok (.slice (some ⟨g, off + l, none⟩) (n - l) (c - l)) w := by
  have := run_from (w := w) (g := g) (off := off) ht hs h1 h2
  rwa [Nat.mul_one] at this
/-- append to bytes, there being room -/
theorem ex_appendRoom {g l c m c2 : Nat} {ad : Addr} {pre mid post news : List Value} {zv : Value} {bytes : Nat} (E : Elem P t e zv 1 bytes) (ho : o.op = .call { callee := .builtin .append, args := #[x, y], argTypes := #[t, t] }) (hx : a.eval x = .slice (some ⟨g, 0, none⟩) l c) (hy : a.eval y = .slice (some ad) m c2)
    (hb : Blk w g (pre ++ mid ++ post) e) (hpre : pre.length = l) (hmid : mid.length = m) (hl : news.length = m) (hroom : l + m ≤ c) (hsrc : Src w (some ad) news) (h1 : ∀ u ∈ news, u.oneCell' = true) : Ex P a o w (.slice (some ⟨g, 0, none⟩) (l + m) c) (setBlk w g (pre ++ news ++ post)) := by
  obtain ⟨ht, ⟨i, hi, hz, hs, hby⟩, hzs, hpos⟩ := E
  have hnews : ∀ j u, news[j]? = some u → w.cell? (ad.add j) = some u := by
    intro j u hu
    obtain ⟨hj, rfl⟩ := List.getElem?_eq_some_iff.1 hu
    obtain ⟨b, off, ha, hc⟩ := hsrc j hj
    simp only [Option.some.injEq] at ha
    subst ha
    rw [addr_add]; exact hc
  have hr := run_append_room (P := P) w t o.type e i ht hi g l c (pre ++ mid ++ post).toArray hb ad m c2 news (by rw [hs]; omega) hnews h1 hroom (by rw [hs]; simp; omega)
  have e1 : ((pre ++ mid ++ post).toArray.toList.take (l * i.size)) ++ news ++ ((pre ++ mid ++ post).toArray.toList.drop (l * i.size + news.length)) = pre ++ news ++ post := by
    rw [hs, Nat.mul_one, hl, ← hmid, ← hpre, List.append_assoc pre mid post]
    simp
  unfold Ex
  simp only [execOp, ho, resolve, invoke, builtin, List.map_toArray, List.map_cons, List.map_nil, hx, hy, Sem.run_bind, Sem.run_pure, Result.andThen_ok, hr]
  simp only [setBlk]
  rw [← e1]
/-- the cells of a piece of a block -/
theorem src_mid {b off : Nat} {pre mid post : List Value} (hb : Blk w b (pre ++ mid ++ post) t) (ho : pre.length = off) : Src w (some ⟨b, off, none⟩) mid := by
  intro i hi
  refine ⟨b, off, rfl, ?_⟩
  rw [hb.cell, ← ho, mid_get pre mid post i hi]
end
/-- the one at place k turned -/
theorem Inv.updAt {B : Base} {H : List Res} {w w' : World} (h : Inv B H w) (k : Nat) {r : Res} (hk : H[k]? = some r) (r' : Res) (ho : Only r.fp w w') (hr : r'.holds w') (hf : ∀ b ∈ r'.fp, b ∈ r.fp ∨ w.heap.size ≤ b) (hl : ∀ b ∈ r'.fp, b < w'.heap.size) (hn : r'.fp.Nodup) : Inv B (H.set k r') w' :=
  ((h.front k hk).upd r' ho hr hf hl hn).perm (perm_set k H _ _ hk)
end Go.Pm
/- Regions that draw their order and add to memory at the most; reading; strings of bytes. -/
namespace Go.Pm
open Go.RowKit

section
variable {P : Program} {ops : Array Oper} {Q : Exit → Act → World → Prop} {a0 : Act} {w0 : World}
end
section
variable {P : Program} {ops : Array Oper} {Q : Exit → Act → World → Prop} {A : List SP} {i : Nat} {o : Oper} {a : Act} {w : World} {t e : TypeId} {x y : Operand}
end
/-- what can be read from an address, under what is fixed and one's own -/
def RdV (B : Base) (H : List Res) (a : Option Addr) (xs : List Value) : Prop :=
  ∀ i (h : i < xs.length), ∃ b off, a = some ⟨b, off, none⟩ ∧ ((∃ arr t z, B.I b = some (.cells arr t z) ∧ arr[off + i]? = some xs[i]) ∨ ∃ L t, Res.cell b L t ∈ H ∧ L[off + i]? = some xs[i])
section
variable {B C : Base} {H K : List Res} {a : Option Addr} {xs : List Value} {w : World}
theorem RdV.cellAt (hr : RdV B H a xs) (hv : Inv B H w) (i : Nat) (h : i < xs.length) : ∃ b off, a = some ⟨b, off, none⟩ ∧ w.cell? ⟨b, off + i, none⟩ = some xs[i] := by
  obtain ⟨b, off, h1, h2⟩ := hr i h
  refine ⟨b, off, h1, ?_⟩
  rcases h2 with ⟨arr, t, z, h3, h4⟩ | ⟨L, t, h3, h4⟩
  · rw [cell_of_row w b (off + i) arr t z (hv.base.blk b _ h3)]
    exact h4
  · rw [Blk.cell (hv.own _ h3 : Blk w b L t)]
    exact h4
theorem RdV.src (hr : RdV B H a xs) (hv : Inv B H w) : Src w a xs := fun i h => hr.cellAt hv i h
theorem RdV.more (hr : RdV B H a xs) (hB : B.Le C) (hH : ∀ r ∈ H, r ∈ K) : RdV C K a xs := by
  intro i h
  obtain ⟨b, off, h1, h2⟩ := hr i h
  refine ⟨b, off, h1, ?_⟩
  rcases h2 with ⟨arr, t, z, h3, h4⟩ | ⟨L, t, h3, h4⟩
  · exact .inl ⟨arr, t, z, hB.blk _ _ h3, h4⟩
  · exact .inr ⟨L, t, hH _ h3, h4⟩
theorem rdV_nil : RdV B H a [] := fun i h => by simp at h
theorem rdV_cell {b : Nat} {L : List Value} {t : TypeId} (off : Nat) (h : Res.cell b L t ∈ H) (hx : ∀ i (hi : i < xs.length), L[off + i]? = some xs[i]) : RdV B H (some ⟨b, off, none⟩) xs :=
  fun i hi => ⟨b, off, rfl, .inr ⟨L, t, h, hx i hi⟩⟩
theorem RdV.bytes {r : Res} {l : List UInt8} (hr : RdV B H a (l.map B8)) (hv : Inv B (r :: H) w) : Bytes w (fun b => b < w.heap.size ∧ b ∉ r.fp) a l := by
  have hd := hv.dis
  rw [List.flatMap_cons, List.nodup_append] at hd
  intro i h
  obtain ⟨b, off, h1, h2⟩ := hr i (by simpa using h)
  refine ⟨b, off, h1, ?_⟩
  rcases h2 with ⟨arr, t, z, h3, h4⟩ | ⟨L, t, h3, h4⟩
  · refine ⟨⟨hv.base.lt h3, fun hm => ?_⟩, ?_⟩
    · rw [hv.out r (by simp) b hm] at h3; cases h3
    · rw [cell_of_row w b (off + i) arr t z (hv.base.blk b _ h3)]
      simpa using h4
  · refine ⟨⟨hv.drop.lt _ h3 b (by simp), fun hm => hd.2.2 b hm b (List.mem_flatMap.2 ⟨_, h3, by simp⟩) rfl⟩, ?_⟩
    rw [Blk.cell (hv.drop.own _ h3 : Blk w b L t)]
    simpa using h4
/-- what a law's argument reads as, is read from its world for good -/
theorem rdV_of (W : World) (h : Src W a xs) : RdV (Base.of W) H a xs := by
  intro i hi
  obtain ⟨b, off, h1, h2⟩ := h i hi
  refine ⟨b, off, h1, .inl ?_⟩
  unfold World.cell? at h2
  split at h2
  · rename_i c e z hb
    simp at h2
    exact ⟨c, e, z, hb, h2⟩
  · cases h2
end
/-- a contract over resources says what it adds alone -/
theorem ext_of {W w : World} {H : List Res} (h : Inv (Base.of W) H w) : Ext W w := Inv.below (Base.Le.refl _) h
section
variable {P : Program} {a : Act} {w : World} {o : Oper} {x y : Operand} {t u e : TypeId}
/-- string(b) -/
theorem ex_str {ad : Option Addr} {n c : Nat} {l : List UInt8} {S : Nat → Prop} (hs : P.underlying t = some (.slice e)) (he : P.underlying e = some (.int .u8)) (hd : P.underlying u = some .string) (ho : o.op = .convert t u x) (hx : a.eval x = .slice ad n c) (hb : Bytes w S ad l) (hn : l.length = n) : Ex P a o w (.string ⟨l.toArray⟩) w := by
  unfold Ex
  simp [execOp, ho, hx, run_str_of_bytes (P := P) (w := w) (S := S) (c := c) hs he hd hb hn]
theorem bytes_all {b : Nat} {l : List UInt8} (h : Blk w b (l.map B8) t) : Bytes w (fun _ => True) (some ⟨b, 0, none⟩) l :=
  fun i hi => ⟨b, 0, rfl, trivial, by rw [h.cell]; simp [hi]⟩
theorem bytes_rep {b m : Nat} {c : UInt8} (h : Blk w b (List.replicate m (B8 c)) t) : Bytes w (fun _ => True) (some ⟨b, 0, none⟩) (List.replicate m c) :=
  bytes_all (t := t) (by rw [List.map_replicate]; exact h)
/-- s + s' -/
theorem ex_cat {s s' : List UInt8} (ho : o.op = .binOp .add t x y u) (hx : a.eval x = .string ⟨s.toArray⟩) (hy : a.eval y = .string ⟨s'.toArray⟩) (hl : s.length + s'.length ≤ 9223372036854775807) : Ex P a o w (.string ⟨(s ++ s').toArray⟩) w := by
  have h1 : (ByteArray.mk s.toArray).size = s.length := rfl
  have h2 : (ByteArray.mk s'.toArray).size = s'.length := rfl
  have h3 : (ByteArray.mk s.toArray) ++ (ByteArray.mk s'.toArray) = ⟨(s ++ s').toArray⟩ := by
    apply ByteArray.ext
    simp
  have h4 : ¬ (IntKind.i64.max < ((s.length + s'.length : Nat) : Int)) := by
    have : IntKind.i64.max = 9223372036854775807 := by decide
    omega
  unfold Ex
  simp only [execOp, ho, hx, hy, eqGuard, binOp, Op.stringOp, h1, h2, h3]
  simp
  omega
end
end Go.Pm
/- More operations: arrays, pieces. -/
namespace Go.Pm
open Go.RowKit
section
variable {P : Program} {w : World} {t e : TypeId}
theorem run_idxA {b off k n size : Nat} (ht : P.underlying t = some (.array n e)) (hs : ∀ w, (sizeOf e).run P w = .ok size w) (hk : k < n) :
    (Instr.indexAt t (.pointer (some ⟨b, off, none⟩)) (.int .i64 (k : Int))).run P w = .ok (.pointer (some ⟨b, off + k * size, none⟩)) w := by
  simp [Instr.indexAt, run_underlying ht, Instr.sureAddr, asIntOf, hs, hk, addr_add]
theorem run_idxA1 {b off k n : Nat} (ht : P.underlying t = some (.array n e)) (hs : ∀ w, (sizeOf e).run P w = .ok 1 w) (hk : k < n) :
    (Instr.indexAt t (.pointer (some ⟨b, off, none⟩)) (.int .i64 (k : Int))).run P w = .ok (.pointer (some ⟨b, off + k, none⟩)) w := by
  have := run_idxA (w := w) (b := b) (off := off) ht hs hk
  rwa [Nat.mul_one] at this
/-- s[l:h] -/
theorem run_lohi1 {g off n c l h : Nat} (ht : P.underlying t = some (.slice (P.elem t))) (hs : ∀ w, (sizeOf (P.elem t)).run P w = .ok 1 w) (h1 : l ≤ h) (h2 : h ≤ c) (h3 : l < c) :
    (Instr.sliceAt t (.slice (some ⟨g, off, none⟩) n c) (some (.int .i64 (l : Int))) (some (.int .i64 (h : Int))) none).run P w = .ok (.slice (some ⟨g, off + l, none⟩) (h - l) (c - l)) w := by
  rw [run_sliceAt_slice w t _ _ _ _ ht, run_slice_lh w t _ n c ht .i64 .i64 l h (by omega) (by omega) (by omega), hs]
  simp only [Result.andThen, sliced, Int.toNat_natCast, Option.map_some, addr_add, show ¬ c = l by omega, if_false, Nat.mul_one]
end
end Go.Pm
/- A region that draws its order: stages of memory with names that come up on the way. -/
namespace Go.Pm
open Go.RowKit

/-- a stage: what is known of the values so far, and of memory -/
structure Stg where
  p : List Value → World → Prop
  st : ∀ vals w w', p vals w → Ext w w' → p vals w'
def Stg.no : Stg := ⟨fun _ _ => False, fun _ _ _ h _ => h⟩
def JS (Ks : List Stg) (vals : List Value) (w : World) : Prop := (Ks.getD vals.length Stg.no).p vals w
theorem JS.ext {Ks : List Stg} : ∀ vals w w', JS Ks vals w → Ext w w' → JS Ks vals w' := fun vals w w' h he => (Ks.getD vals.length Stg.no).st vals w w' h he
theorem JS.at0 {Ks : List Stg} {vals : List Value} {w : World} (h : JS Ks vals w) {k : Nat} (hk : vals.length = k) : (Ks.getD k Stg.no).p vals w := by subst hk; exact h
theorem JS.le {Ks : List Stg} {vals : List Value} {w : World} {n : Nat} (hn : Ks.length = n + 1) (h : JS Ks vals w) : vals.length ≤ n := by
  unfold JS at h
  by_cases hl : vals.length < Ks.length
  · omega
  · rw [List.getD_eq_getElem?_getD, List.getElem?_eq_none (by omega)] at h
    exact h.elim
theorem JS.next {Ks : List Stg} {vals : List Value} {v : Value} {w : World} {k : Nat} (hk : vals.length = k) (h : (Ks.getD (k + 1) Stg.no).p (vals ++ [v]) w) : JS Ks (vals ++ [v]) w := by
  subst hk
  unfold JS
  rw [List.length_append]
  exact h
section
variable {n : Nat} {P : Program} {ops : Array Oper} {Q : Exit → Act → World → Prop} {a0 : Act} {w0 : World}
theorem region_stR {l id : Nat} (hm : P.follows .mixedOrders = true) (hno : ¬ LetsOut Q) (VS : List Value) (mem : List Nat) (Ks : List Stg) (k : Nat) (hsize : a0.tmps.size = k)
    (hck : (backward ops && onceDst ops && fitsDst ops k && decide mem.Nodup && chained ops mem && mem.all (· < ops.size) && decide (VS.length = ops.size)) = true) (hd : ops.all (fun o => !isDefer o) = true)
    (h0 : (Ks.getD 0 Stg.no).p [] w0)
    (hop : AllOps (fun i o => ∀ a w vals, JS Ks vals w → Ready3 ops (VS.map SP.eq) mem a0 a w vals i → if mem.contains i then (vals.length = place mem i → StepMem P ops (JS Ks) Q o a w vals) else StepAdds P ops (VS.map SP.eq) Q i o a w) 0 ops.toList)
    (hfin : ∀ w vals, (Ks.getD mem.length Stg.no).p vals w → Q .normal (putAll ops.toList (mixV mem vals 0 VS) a0) w) : (Code.region id ops true).wpIn (Fence.wide.inRound l) n P Q a0 w0 :=
  region_detR hm hno VS mem (JS Ks) k hsize hck hd h0 JS.ext hop (fun w vals hvl hJ => hfin w vals (hJ.at0 hvl))
theorem region_st {id : Nat} (hm : P.follows .mixedOrders = true) (VS : List Value) (mem : List Nat) (Ks : List Stg) (k : Nat) (hsize : a0.tmps.size = k)
    (hck : (backward ops && onceDst ops && fitsDst ops k && decide mem.Nodup && chained ops mem && mem.all (· < ops.size) && decide (VS.length = ops.size)) = true)
    (h0 : (Ks.getD 0 Stg.no).p [] w0)
    (hop : AllOps (fun i o => ∀ a w vals, JS Ks vals w → Ready3 ops (VS.map SP.eq) mem a0 a w vals i → if mem.contains i then (vals.length = place mem i → StepMem P ops (JS Ks) Q o a w vals) else StepAdds P ops (VS.map SP.eq) Q i o a w) 0 ops.toList)
    (hfin : ∀ w vals, (Ks.getD mem.length Stg.no).p vals w → Q .normal (putAll ops.toList (mixV mem vals 0 VS) a0) w) : (Code.region id ops true).wpIn Fence.wide n P Q a0 w0 :=
  region_det hm VS mem (JS Ks) k hsize hck h0 JS.ext hop (fun w vals hvl hJ => hfin w vals (hJ.at0 hvl))
end
section
variable {P : Program} {ops : Array Oper} {Q : Exit → Act → World → Prop} {J : List Value → World → Prop} {a : Act} {w : World} {vals : List Value} {o : Oper} {v : Value} {B : Base} {H : List Res} {t e : TypeId} {x y : Operand} {L : List Value}
/-- one element, in a new row -/
theorem mem_row1 {zv : Value} {bytes : Nat} (hg : Region.wanted o (yielded ops a.tmps) = true) (ho : o.op = .buildSlice t 1 #[(0, x)]) (hx : a.eval x = v) (hv : Inv B H w) (E : Elem P t e zv 1 bytes) (h1 : v.cells = #[v])
    (h : ∀ b w', Inv B (Res.cell b [v] e :: H) w' → J (vals ++ [.slice (some ⟨b, 0, none⟩) 1 1]) w') : StepMem P ops J Q o a w vals :=
  Ex.mem (ex_row1 ho hx (run_buildSlice1 E w v h1)) hg (h _ _ (hv.alloc [v] e))
theorem mem_storeAt (k : Nat) {b off : Nat} {L' : List Value} (hg : Region.wanted o (yielded ops a.tmps) = true) (ho : o.op = .store t x y) (hx : a.eval x = .pointer (some ⟨b, off, none⟩)) (hy : a.eval y = v) (hv : Inv B H w) (hk : H[k]? = some (Res.cell b L e)) (hz : (P.info? t).map (·.size) = some 1)
    (hoff : off < L.length) (hc : v.cells = #[v]) (h1 : v.oneCell' = true) (hL : L.set off v = L') (h : ∀ w', Inv B (H.set k (Res.cell b L' e)) w' → J (vals ++ [undef]) w') : StepMem P ops J Q o a w vals := by
  subst hL
  exact ExU.mem (ex_store ho hx hy (run_store1 hz (hv.get k hk : Blk w b L e) hoff hc h1)) hg (h _ (hv.putAt k hk _))
end
section
variable {F : Fence} {n : Nat} {P : Program} {ops : Array Oper} {Q : Exit → Act → World → Prop} {a : Act} {w : World} {rest : List Oper} {o : Oper} {v zv : Value} {B : Base} {H : List Res} {t e : TypeId} {x : Operand} {bytes : Nat}
theorem sl_rowOne (hF : ∀ f, F.fn f) (hg : Region.wanted o (yielded ops a.tmps) = true) (ho : o.op = .buildSlice t 1 #[(0, x)]) (hx : a.eval x = v) (hv : Inv B H w) (E : Elem P t e zv 1 bytes) (h1 : v.cells = #[v])
    (h : ∀ b w', Inv B (Res.cell b [v] e :: H) w' → wpListIn F n P ops Q rest (a.put o.dst (.slice (some ⟨b, 0, none⟩) 1 1)) w') : wpListIn F n P ops Q (o :: rest) a w :=
  wpi_exG hF hg (by unfold isDefer; rw [ho]) (ex_row1 ho hx (run_buildSlice1 E w v h1)) (h _ _ (hv.alloc [v] e))
end
/-- an element type's row, out of the program's table -/
theorem elem_of {P : Program} {t e : TypeId} {z : Value} {size bytes : Nat} (ht : P.underlying t = some (.slice e)) (hi : (P.info? e).map (fun i => (i.zero, i.size, i.bytes)) = some (some z, size, bytes)) (hz : z.cells.size = size) (hp : 0 < size) : Elem P t e z size bytes := by
  refine ⟨ht, ?_, hz, hp⟩
  obtain ⟨i, hi, h⟩ := Option.map_eq_some_iff.1 hi
  simp only [Prod.mk.injEq] at h
  exact ⟨i, hi, h⟩
end Go.Pm
/- Numbers in octets, the most significant first. -/
namespace Go.Pm
open Go.RowKit

def numOf (l : List UInt8) : Nat := l.foldl (fun n c => n * 256 + c.toNat) 0
def beOf (m n : Nat) : List UInt8 := (List.range m).map (fun j => UInt8.ofNat (n / 256 ^ (m - 1 - j)))
theorem snocInd {α : Type} {p : List α → Prop} (h0 : p []) (h1 : ∀ l c, p l → p (l ++ [c])) (l : List α) : p l := by
  have key : ∀ n (l : List α), l.length = n → p l := by
    intro n
    induction n with
    | zero => intro l hl; rw [List.eq_nil_of_length_eq_zero hl]; exact h0
    | succ n ih =>
      intro l hl
      have hne : l ≠ [] := fun e => by subst e; simp at hl
      rw [← List.dropLast_concat_getLast hne]
      exact h1 _ _ (ih _ (by simp [hl]))
  exact key _ l rfl
theorem numOf_snoc (l : List UInt8) (c : UInt8) : numOf (l ++ [c]) = numOf l * 256 + c.toNat := by simp [numOf]
theorem numOf_lt (l : List UInt8) : numOf l < 256 ^ l.length := by
  refine snocInd (p := fun l => numOf l < 256 ^ l.length) (by decide) (fun l c ih => ?_) l
  show numOf (l ++ [c]) < 256 ^ (l ++ [c]).length
  rw [numOf_snoc, List.length_append, List.length_singleton, Nat.pow_succ]
  have := c.toNat_lt
  have ih : numOf l < 256 ^ l.length := ih
  omega
theorem beOf_length (m n : Nat) : (beOf m n).length = m := by simp [beOf]
theorem beOf_succ (m n : Nat) : beOf (m + 1) n = beOf m (n / 256) ++ [UInt8.ofNat n] := by
  unfold beOf
  rw [List.range_succ, List.map_append]
  congr 1
  · apply List.map_congr_left
    intro j hj
    have hj := List.mem_range.1 hj
    rw [Nat.div_div_eq_div_mul, show m + 1 - 1 - j = (m - 1 - j) + 1 by omega, Nat.pow_succ, Nat.mul_comm]
  · simp
theorem numOf_be (m n : Nat) (h : n < 256 ^ m) : numOf (beOf m n) = n := by
  induction m generalizing n with
  | zero => simp at h; subst h; rfl
  | succ m ih =>
    rw [beOf_succ, numOf_snoc, ih (n / 256) (by rw [Nat.pow_succ] at h; omega), UInt8.toNat_ofNat']
    omega
theorem be_numOf (l : List UInt8) : beOf l.length (numOf l) = l := by
  refine snocInd (p := fun l => beOf l.length (numOf l) = l) rfl (fun l c ih => ?_) l
  show beOf (l ++ [c]).length (numOf (l ++ [c])) = l ++ [c]
  have ih : beOf l.length (numOf l) = l := ih
  rw [List.length_append, List.length_singleton, beOf_succ, numOf_snoc]
  have hc := c.toNat_lt
  rw [show (numOf l * 256 + c.toNat) / 256 = numOf l by omega, ih]
  congr 2
  apply UInt8.toNat_inj.1
  rw [UInt8.toNat_ofNat']
  omega
/-- n<<8 | c -/
theorem or_byte {P : Program} {w : World} (m c : Nat) (hm : m < 72057594037927936) (hc : c < 256) : (Op.intBits .or .u64 ((m * 256 : Nat) : Int) (c : Int)).run P w = .ok (.int .u64 ((m * 256 + c : Nat) : Int)) w := by
  have e : (BitVec.ofInt 64 ((m * 256 : Nat) : Int) ||| BitVec.ofInt 64 (c : Int)).toNat = m * 256 + c := by
    rw [BitVec.toNat_or, BitVec.ofInt_natCast, BitVec.ofInt_natCast, BitVec.toNat_ofNat, BitVec.toNat_ofNat, Nat.mod_eq_of_lt (by omega), Nat.mod_eq_of_lt (by omega)]
    have := Nat.two_pow_add_eq_or_of_lt (i := 8) (b := c) (by omega) m
    rw [show (2 : Nat) ^ 8 * m = m * 256 by omega] at this
    omega
  have e2 : (Op.intBits .or .u64 ((m * 256 : Nat) : Int) (c : Int)).run P w = .ok (.int .u64 (IntKind.u64.wrap ((BitVec.ofInt 64 ((m * 256 : Nat) : Int) ||| BitVec.ofInt 64 (c : Int)).toNat : Int))) w := rfl
  rw [e2, e, u64_in (by omega)]
theorem shl8 (m : Nat) (h : m < 72057594037927936) : IntKind.u64.wrap ((m : Int) * 2 ^ (min (8 : Int).toNat IntKind.u64.bits)) = ((m * 256 : Nat) : Int) := by
  have : (2 : Int) ^ (min (8 : Int).toNat IntKind.u64.bits) = 256 := by decide
  rw [this, u64_in (by omega)]
  omega
theorem shr8 (m : Nat) : ((m : Int)).fdiv (2 ^ (min (8 : Int).toNat IntKind.u64.bits)) = ((m / 256 : Nat) : Int) := by
  have : (2 : Int) ^ (min (8 : Int).toNat IntKind.u64.bits) = 256 := by decide
  rw [this, Int.fdiv_eq_ediv_of_nonneg _ (by decide)]
  omega
theorem u8_of (m : Nat) : IntKind.u8.wrap (m : Int) = ((UInt8.ofNat m).toNat : Int) := by
  have : IntKind.wrap .u8 (m : Int) = (m : Int) % 256 := by simp [IntKind.wrap, IntKind.signed, IntKind.bits]
  rw [this, UInt8.toNat_ofNat']
  omega
end Go.Pm
/- The CRC-32 register on plain natural numbers, and its laws. -/
namespace Crc
def bstep (r : Nat) : Nat := if r % 2 = 1 then (r / 2) ^^^ 3988292384 else r / 2
def itn : Nat → Nat → Nat
  | 0, r => r
  | n + 1, r => bstep (itn n r)
def upd (r : Nat) (c : UInt8) : Nat := itn 8 (r ^^^ c.toNat)
def reg (l : List UInt8) (r : Nat) : Nat := l.foldl upd r
def sum (l : List UInt8) : Nat := reg l 4294967295 ^^^ 4294967295

theorem xor_lt {a b : Nat} (ha : a < 4294967296) (hb : b < 4294967296) : a ^^^ b < 4294967296 :=
  Nat.xor_lt_two_pow (n := 32) ha hb
theorem bstep_lt {r : Nat} (h : r < 4294967296) : bstep r < 4294967296 := by
  unfold bstep; split
  · exact xor_lt (by omega) (by omega)
  · omega
theorem itn_lt {r : Nat} (n : Nat) (h : r < 4294967296) : itn n r < 4294967296 := by
  induction n with
  | zero => exact h
  | succ n ih => exact bstep_lt ih
theorem byte_lt (c : UInt8) : c.toNat < 4294967296 := by have := c.toNat_lt; omega
theorem upd_lt {r : Nat} (c : UInt8) (h : r < 4294967296) : upd r c < 4294967296 := itn_lt 8 (xor_lt h (byte_lt c))
theorem reg_lt {r : Nat} (l : List UInt8) (h : r < 4294967296) : reg l r < 4294967296 := by
  unfold reg
  induction l generalizing r with
  | nil => exact h
  | cons c l ih => exact ih (upd_lt c h)
theorem sum_lt (l : List UInt8) : sum l < 4294967296 := xor_lt (reg_lt l (by omega)) (by omega)
theorem reg_append (l m : List UInt8) (r : Nat) : reg (l ++ m) r = reg m (reg l r) := by simp [reg]
theorem reg_take_succ (l : List UInt8) (r k : Nat) (h : k < l.length) : reg (l.take (k + 1)) r = upd (reg (l.take k) r) l[k] := by
  rw [List.take_succ_eq_append_getElem h, reg_append]; rfl
theorem reg_flat_succ (ls : List (List UInt8)) (r k : Nat) (h : k < ls.length) : reg (ls.take (k + 1)).flatten r = reg ls[k] (reg (ls.take k).flatten r) := by
  rw [List.take_succ_eq_append_getElem h, List.flatten_append, reg_append]; simp
theorem itn_succ (n r : Nat) : itn (n + 1) r = bstep (itn n r) := rfl

/- linear -/
theorem bstep_xor (a b : Nat) : bstep (a ^^^ b) = bstep a ^^^ bstep b := by
  have hd : (a ^^^ b) / 2 = a / 2 ^^^ b / 2 := by
    have := Nat.shiftRight_xor_distrib (a := a) (b := b) (i := 1)
    simpa [Nat.shiftRight_eq_div_pow] using this
  have hm : (a ^^^ b) % 2 = (a % 2 + b % 2) % 2 := by
    have := Nat.xor_mod_two_eq_one (a := a) (b := b)
    omega
  unfold bstep
  rw [hd, hm]
  rcases Nat.mod_two_eq_zero_or_one a with ha | ha <;> rcases Nat.mod_two_eq_zero_or_one b with hb | hb <;> simp [ha, hb]
  · ac_rfl
  · ac_rfl
  · rw [show (a / 2 ^^^ 3988292384 ^^^ (b / 2 ^^^ 3988292384)) = (a / 2 ^^^ b / 2) ^^^ (3988292384 ^^^ 3988292384) by ac_rfl]; simp
theorem itn_xor (n a b : Nat) : itn n (a ^^^ b) = itn n a ^^^ itn n b := by
  induction n with
  | zero => rfl
  | succ n ih => simp only [itn_succ, ih, bstep_xor]
theorem bstep_zero {r : Nat} (h : r < 4294967296) (h0 : bstep r = 0) : r = 0 := by
  unfold bstep at h0
  split at h0
  · rename_i h1
    have hx : r / 2 = 3988292384 := by
      have := congrArg (· ^^^ 3988292384) h0
      simpa [Nat.xor_assoc] using this
    omega
  · omega
theorem itn_zero {r : Nat} (n : Nat) (h : r < 4294967296) (h0 : itn n r = 0) : r = 0 := by
  induction n with
  | zero => exact h0
  | succ n ih => exact ih (bstep_zero (itn_lt n h) h0)
theorem xor_eq_zero {a b : Nat} (h : a ^^^ b = 0) : a = b := by
  have := congrArg (· ^^^ b) h
  simpa [Nat.xor_assoc] using this
theorem itn_inj {a b : Nat} (n : Nat) (ha : a < 4294967296) (hb : b < 4294967296) (h : itn n a = itn n b) : a = b := by
  have := itn_xor n a b
  rw [h, Nat.xor_self] at this
  exact xor_eq_zero (itn_zero n (xor_lt ha hb) this)
theorem itn_add (m n r : Nat) : itn (m + n) r = itn n (itn m r) := by
  induction n with
  | zero => rfl
  | succ n ih => rw [← Nat.add_assoc, itn_succ, ih, itn_succ]
theorem itn_shift (n r : Nat) : itn n (r * 2 ^ n) = r := by
  induction n generalizing r with
  | zero => simp [itn]
  | succ n ih =>
    rw [itn_succ, Nat.pow_succ, show r * (2 ^ n * 2) = (r * 2) * 2 ^ n by rw [Nat.mul_comm (2 ^ n), Nat.mul_assoc], ih]
    unfold bstep
    have : r * 2 % 2 = 0 := by omega
    simp [this]
/-- four bytes are read as one word -/
def word (a b c d : UInt8) : Nat := a.toNat ^^^ (b.toNat * 2 ^ 8) ^^^ (c.toNat * 2 ^ 16) ^^^ (d.toNat * 2 ^ 24)
theorem reg4 (a b c d : UInt8) (r : Nat) : reg [a, b, c, d] r = itn 32 (r ^^^ word a b c d) := by
  simp only [reg, List.foldl_cons, List.foldl_nil, upd]
  unfold word
  have h1 : itn 32 (d.toNat * 2 ^ 24) = itn 8 d.toNat := by rw [show 32 = 24 + 8 from rfl, itn_add, itn_shift]
  have h2 : itn 32 (c.toNat * 2 ^ 16) = itn 16 c.toNat := by rw [show 32 = 16 + 16 from rfl, itn_add, itn_shift]
  have h3 : itn 32 (b.toNat * 2 ^ 8) = itn 24 b.toNat := by rw [show 32 = 8 + 24 from rfl, itn_add, itn_shift]
  have g2 : ∀ x, itn 8 (itn 8 x) = itn 16 x := fun x => (itn_add 8 8 x).symm
  have g3 : ∀ x, itn 8 (itn 16 x) = itn 24 x := fun x => (itn_add 16 8 x).symm
  have g4 : ∀ x, itn 8 (itn 24 x) = itn 32 x := fun x => (itn_add 24 8 x).symm
  rw [itn_xor 32, itn_xor 32, itn_xor 32, itn_xor 32, h1, h2, h3]
  rw [itn_xor 8 _ d.toNat, itn_xor 8 _ c.toNat, itn_xor 8 _ b.toNat, itn_xor 8 _ a.toNat]
  rw [itn_xor 8 (itn 8 r), g2, g2, itn_xor 8 _ (itn 8 b.toNat), itn_xor 8 (itn 16 r), g3, g3, g2, itn_xor 8 _ (itn 8 c.toNat), itn_xor 8 _ (itn 16 b.toNat), itn_xor 8 (itn 24 r), g4, g4, g3, g2]
  simp only [Nat.xor_assoc]
theorem word_lt (a b c d : UInt8) : word a b c d < 4294967296 := by
  have := a.toNat_lt; have := b.toNat_lt; have := c.toNat_lt; have := d.toNat_lt
  unfold word
  exact xor_lt (xor_lt (xor_lt (by omega) (by omega)) (by omega)) (by omega)
theorem word_eq (a b c d : UInt8) : word a b c d = a.toNat + b.toNat * 2 ^ 8 + c.toNat * 2 ^ 16 + d.toNat * 2 ^ 24 := by
  have h : ∀ (x y i : Nat), x < 2 ^ i → x ^^^ (y * 2 ^ i) = x + y * 2 ^ i := by
    intro x y i hx
    rw [Nat.add_comm, Nat.mul_comm, Nat.xor_comm]
    rw [Nat.two_pow_add_eq_or_of_lt hx]
    apply Nat.eq_of_testBit_eq
    intro j
    simp only [Nat.testBit_xor, Nat.testBit_or, Nat.testBit_two_pow_mul]
    by_cases hj : i ≤ j
    · have : x.testBit j = false := Nat.testBit_lt_two_pow (Nat.lt_of_lt_of_le hx (Nat.pow_le_pow_right (by omega) hj))
      simp [this]
    · simp [hj]
  have := a.toNat_lt; have := b.toNat_lt; have := c.toNat_lt; have := d.toNat_lt
  unfold word
  rw [h _ _ 8 (by omega), h _ _ 16 (by omega), h _ _ 24 (by omega)]
theorem word_inj {a b c d a' b' c' d' : UInt8} (h : word a b c d = word a' b' c' d') : a = a' ∧ b = b' ∧ c = c' ∧ d = d' := by
  rw [word_eq, word_eq] at h
  have := a.toNat_lt; have := b.toNat_lt; have := c.toNat_lt; have := d.toNat_lt
  have := a'.toNat_lt; have := b'.toNat_lt; have := c'.toNat_lt; have := d'.toNat_lt
  refine ⟨UInt8.toNat_inj.1 ?_, UInt8.toNat_inj.1 ?_, UInt8.toNat_inj.1 ?_, UInt8.toNat_inj.1 ?_⟩ <;> omega
theorem upd_inj {r s : Nat} (c : UInt8) (hr : r < 4294967296) (hs : s < 4294967296) (h : upd r c = upd s c) : r = s := by
  have := itn_inj 8 (xor_lt hr (byte_lt c)) (xor_lt hs (byte_lt c)) h
  have := congrArg (· ^^^ c.toNat) this
  simpa [Nat.xor_assoc] using this
theorem reg_inj {r s : Nat} (l : List UInt8) (hr : r < 4294967296) (hs : s < 4294967296) (h : reg l r = reg l s) : r = s := by
  induction l generalizing r s with
  | nil => exact h
  | cons c l ih => exact upd_inj c hr hs (ih (upd_lt c hr) (upd_lt c hs) h)
/-- texts that are alike but for four bytes, one behind the other: their sums are alike only if the texts are -/
theorem sum_apart (p q : List UInt8) (a b c d a' b' c' d' : UInt8) (h : sum (p ++ [a, b, c, d] ++ q) = sum (p ++ [a', b', c', d'] ++ q)) :
    a = a' ∧ b = b' ∧ c = c' ∧ d = d' := by
  unfold sum at h
  have h1 : reg (p ++ [a, b, c, d] ++ q) 4294967295 = reg (p ++ [a', b', c', d'] ++ q) 4294967295 := by
    have := congrArg (· ^^^ 4294967295) h
    simpa [Nat.xor_assoc] using this
  rw [reg_append, reg_append, reg_append, reg_append] at h1
  have hp : reg p 4294967295 < 4294967296 := reg_lt p (by omega)
  have h2 := reg_inj q (reg_lt _ hp) (reg_lt _ hp) h1
  rw [reg4, reg4] at h2
  have h3 := itn_inj 32 (xor_lt hp (word_lt _ _ _ _)) (xor_lt hp (word_lt _ _ _ _)) h2
  have h4 := congrArg (reg p 4294967295 ^^^ ·) h3
  simp only [← Nat.xor_assoc, Nat.xor_self, Nat.zero_xor] at h4
  exact word_inj h4
end Crc
/- crc.Sum and the reference's Sum compute Crc.sum. -/
namespace Go.Proofs.Ytkannfkjnohdlaa
open Go.RowKit Go.Pm

theorem xor32 {a b : Nat} (ha : a < 4294967296) (hb : b < 4294967296) : Value.int .u32 (bits .xor .u32 (a : Int) (b : Int)) = .int .u32 ((a ^^^ b : Nat) : Int) := by rw [u32_xor_nat a b ha hb]
theorem bstep_odd {x : Nat} (hx : x < 4294967296) (h : x % 2 = 1) : Value.int .u32 (bits .xor .u32 ((x : Int) / 2) 3988292384) = .int .u32 (Crc.bstep x : Int) := by
  have := u32_xor_nat (x / 2) 3988292384 (by omega) (by omega)
  unfold Crc.bstep
  rw [if_pos h, ← this]; rfl
theorem bstep_even {x : Nat} (h : ¬ x % 2 = 1) : Value.int .u32 ((x : Int) / 2) = .int .u32 (Crc.bstep x : Int) := by
  unfold Crc.bstep
  rw [if_neg h]; rfl

theorem and1 (z : Nat) (h : z < 4294967296) : bits .and .u32 (z : Int) 1 = ((z % 2 : Nat) : Int) := by
  have := u32_and_nat z 1 h (by omega)
  rw [nat_mask1] at this
  exact this

set_option maxHeartbeats 1000000 in
theorem refSum (w : World) (S : Nat → Prop) (a : Option Addr) (n cap : Nat) (l : List UInt8) (hn : l.length = n) (hm : l.length ≤ maxLen) (hb : Bytes w S a l) :
    Calls Try.prog 16 #[.slice a n cap] w fun e w' => e = .returned (.int .u32 (Crc.sum l)) ∧ w = w' := by
  subst hn
  unfold maxLen at hm
  have hb' := Lib.hid hb
  clear hb
  go_enter Try.func16, Try.ntmps16
  go_wp2
  go_loop [3, 4] (fun r i => ∃ (k : Nat), k ≤ l.length ∧ i = .int .i64 k ∧ r = .int .u32 (Crc.reg (l.take k) 4294967295)) (fun _ i => l.length - (intOf i).toNat)
  case atStart => exact ⟨0, Nat.zero_le _, rfl, rfl⟩
  case round =>
    obtain ⟨k, hk, rfl, rfl⟩ := hrel
    by_cases hlt : k < l.length
    · obtain ⟨b, off, ha, _, hck⟩ := hb'.out k hlt
      subst ha
      have hs := Lib.hid (Crc.reg_take_succ l 4294967295 k hlt)
      have hx := Crc.reg_lt (r := 4294967295) (l.take k) (by omega)
      generalize Crc.reg (l.take k) 4294967295 = x at *
      have hcb := Crc.byte_lt l[k]
      generalize l[k] = c at *
      go_wp2
      rw [xor32 hx hcb]
      have hy : x ^^^ c.toNat < 4294967296 := Crc.xor_lt hx hcb
      have hs2 : Hid (Crc.reg (l.take (k+1)) 4294967295 = Crc.itn 8 (x ^^^ c.toNat)) := hs
      clear hs
      generalize x ^^^ c.toNat = y at *
      go_loop [3, 5] (fun r i => ∃ (j : Nat), j ≤ 8 ∧ i = .int .i64 j ∧ r = .int .u32 (Crc.itn j y)) (fun _ i => 8 - (intOf i).toNat)
      case atStart => exact ⟨0, Nat.zero_le _, rfl, rfl⟩
      case round =>
        obtain ⟨j, hj, rfl, rfl⟩ := hrel
        have hz := Crc.itn_lt j hy
        have hs3 := Lib.hid (Crc.itn_succ j y)
        by_cases hj8 : j < 8
        · generalize Crc.itn j y = z at *
          by_cases hodd : z % 2 = 1
          · have ho : ((z : Int) % 2 == 1) = true := by simp; omega
            have hb := bstep_odd hz hodd
            rw [← hs3.out] at hb
            have hb2 := Lib.hid hb
            clear hb
            go_wp2
            go_round
            case rel => exact ⟨j + 1, by omega, by go_num, hb2.out⟩
            case measure => simp [intOf]; omega
          · have ho : ((z : Int) % 2 == 1) = false := by simp; omega
            have hb := bstep_even hodd
            rw [← hs3.out] at hb
            have hb2 := Lib.hid hb
            clear hb
            go_wp2
            go_round
            case rel => exact ⟨j + 1, by omega, by go_num, hb2.out⟩
            case measure => simp [intOf]; omega
        · obtain rfl : j = 8 := by omega
          rw [← hs2.out]
          go_wp2
          go_round
          case rel => exact ⟨k + 1, by omega, by go_num, rfl⟩
          case measure => simp [intOf]; omega
    · rw [List.take_of_length_le (by omega)]
      have hx := Crc.reg_lt (r := 4294967295) l (by omega)
      have hf := Lib.hid (xor32 hx (b := 4294967295) (by omega))
      have hg : Hid (Crc.reg l 4294967295 ^^^ 4294967295 = Crc.sum l) := rfl
      generalize Crc.reg l 4294967295 = x at *
      go_wp2
      go_ret
      exact ⟨by rw [← hg.out]; exact congrArg Ending.returned hf.out, rfl⟩

theorem not32 {x : Nat} (h : x < 4294967296) : Value.int .u32 (bits .xor .u32 IntKind.u32.max (x : Int)) = .int .u32 ((x ^^^ 4294967295 : Nat) : Int) := by
  have := u32_xor_nat 4294967295 x (by omega) h
  rw [Nat.xor_comm] at this
  rw [← this]; rfl

set_option maxHeartbeats 2000000 in
theorem crcSum (w : World) (S : Nat → Prop) (a : Option Addr) (n cap : Nat) (ls : List (List UInt8)) (hn : ls.length = n) (hm : ls.length ≤ maxLen) (hb : Rows8 w S a ls) :
    Calls Try.prog 15 #[.slice a n cap] w fun e w' => e = .returned (.int .u32 (Crc.sum ls.flatten)) ∧ w = w' := by
  subst hn
  unfold maxLen at hm
  have hb' := Lib.hid hb
  clear hb
  go_enter Try.func15, Try.ntmps15
  go_wp2
  go_loop [3, 11] (fun r i => ∃ (k : Nat), k ≤ ls.length ∧ i = .int .i64 k ∧ r = .int .u32 (Crc.reg (ls.take k).flatten 4294967295)) (fun _ i => ls.length - (intOf i).toNat)
  case atStart => exact ⟨0, Nat.zero_le _, rfl, rfl⟩
  case round =>
    obtain ⟨n, hn, rfl, rfl⟩ := hrel
    by_cases hnlt : n < ls.length
    · obtain ⟨b, off, a', c', ha, _, hcn, ⟨hc1, hc2, _⟩, hbn⟩ := hb'.out n hnlt
      subst ha
      have hsn := Lib.hid (Crc.reg_flat_succ ls 4294967295 n hnlt)
      have hx0 := Crc.reg_lt (r := 4294967295) (ls.take n).flatten (by omega)
      generalize Crc.reg (ls.take n).flatten 4294967295 = x0 at *
      unfold maxLen at hc2
      have hb2 := Lib.hid hbn
      clear hbn hb'
      generalize ls[n] = l at *
      go_wp2
      go_loop [3, 17] (fun r i => ∃ (k : Nat), k ≤ l.length ∧ i = .int .i64 k ∧ r = .int .u32 (Crc.reg (l.take k) x0)) (fun _ i => l.length - (intOf i).toNat)
      case atStart => exact ⟨0, Nat.zero_le _, rfl, rfl⟩
      case round =>
        obtain ⟨k, hk, rfl, rfl⟩ := hrel
        by_cases hlt : k < l.length
        · obtain ⟨b2, off2, ha2, _, hck⟩ := hb2.out k hlt
          subst ha2
          have hs := Lib.hid (Crc.reg_take_succ l x0 k hlt)
          have hx := Crc.reg_lt (l.take k) hx0
          generalize Crc.reg (l.take k) x0 = x at *
          have hcb := Crc.byte_lt l[k]
          generalize l[k] = c at *
          go_wp2
          rw [xor32 hx hcb]
          have hy : x ^^^ c.toNat < 4294967296 := Crc.xor_lt hx hcb
          have hs2 : Hid (Crc.reg (l.take (k+1)) x0 = Crc.itn 8 (x ^^^ c.toNat)) := hs
          clear hs
          generalize x ^^^ c.toNat = y at *
          go_loop [3, 25] (fun r i => ∃ (j : Nat), j ≤ 8 ∧ i = .int .i64 j ∧ r = .int .u32 (Crc.itn j y)) (fun _ i => 8 - (intOf i).toNat)
          case atStart => exact ⟨0, Nat.zero_le _, rfl, rfl⟩
          case round =>
            obtain ⟨j, hj, rfl, rfl⟩ := hrel
            have hz := Crc.itn_lt j hy
            have hs3 := Lib.hid (Crc.itn_succ j y)
            by_cases hj8 : j < 8
            · generalize Crc.itn j y = z at *
              have hand := and1 z hz
              by_cases hodd : z % 2 = 1
              · rw [hodd] at hand
                have hb := bstep_odd hz hodd
                rw [← hs3.out] at hb
                have hb2 := Lib.hid hb
                clear hb hodd
                go_wp2
                go_round
                case rel => exact ⟨j + 1, by omega, by go_num, hb2.out⟩
                case measure => simp [intOf]; omega
              · rw [show z % 2 = 0 by omega] at hand
                have hb := bstep_even hodd
                rw [← hs3.out] at hb
                have hb2 := Lib.hid hb
                clear hb hodd
                go_wp2
                go_round
                case rel => exact ⟨j + 1, by omega, by go_num, hb2.out⟩
                case measure => simp [intOf]; omega
            · obtain rfl : j = 8 := by omega
              rw [← hs2.out]
              go_wp2
              go_round
              case rel => exact ⟨k + 1, by omega, by go_num, rfl⟩
              case measure => simp [intOf]; omega
        · rw [List.take_of_length_le (by omega), ← hsn.out]
          go_wp2
          go_round
          case rel => exact ⟨n + 1, by omega, by go_num, rfl⟩
          case measure => simp [intOf]; omega
    · rw [List.take_of_length_le (by omega)]
      have hx := Crc.reg_lt (r := 4294967295) ls.flatten (by omega)
      have hf := Lib.hid (not32 hx)
      have hg : Hid (Crc.reg ls.flatten 4294967295 ^^^ 4294967295 = Crc.sum ls.flatten) := rfl
      generalize Crc.reg ls.flatten 4294967295 = x at *
      go_wp2
      go_ret
      exact ⟨by rw [← hg.out]; exact congrArg Ending.returned hf.out, rfl⟩

/-- Sum of one text, as a call with one argument stands -/
theorem crcSum1 (w : World) (b n c : Nat) (a : Option Addr) (l : List UInt8) (hc : w.cell? ⟨b, 0, none⟩ = some (.slice a n c)) (S : Nat → Prop) (hb : Bytes w S a l) (hn : n = l.length) (h1 : SliceOk a n c) :
    Calls Try.prog 15 #[.slice (some ⟨b, 0, none⟩) 1 1] w fun e w' => e = .returned (.int .u32 (Crc.sum l)) ∧ w = w' := by
  subst hn
  have := crcSum w (fun _ => True) (some ⟨b, 0, none⟩) 1 1 [l] rfl (by simp [maxLen]) (rows8_one trivial hc (hb.mono (fun _ _ => trivial)) rfl h1)
  simpa using this
end Go.Proofs.Ytkannfkjnohdlaa
namespace Go.Proofs.Ytkannfkjnohdlaa
open Go.RowKit Go.Pm

end Go.Proofs.Ytkannfkjnohdlaa
/- One fact of the program's, apart (for claims that don't need the checksum's laws). -/
namespace Go.Proofs.Ytkannfkjnohdlaa
open Go.RowKit Go.Pm
theorem mixed : Try.prog.follows .mixedOrders = true := by kernel_rfl
end Go.Proofs.Ytkannfkjnohdlaa
/- The disk of sectors, as plain data. -/
namespace Go.Pm

structure Disk where
  dur : List (List UInt8)
  pend : List (Nat × List UInt8)
  left : Int

structure Disk.Ok (D : Disk) : Prop where
  dur : ∀ s ∈ D.dur, s.length = 64
  pos : 1 ≤ D.dur.length
  max : D.dur.length ≤ 65536
  pend : ∀ p ∈ D.pend, p.1 < D.dur.length ∧ p.2.length = 64
  left1 : -1 ≤ D.left
  left2 : D.left ≤ 9223372036854775807

namespace Disk
def has (D : Disk) (at_ n : Int) : Bool := decide (1 ≤ n) && decide (0 ≤ at_) && decide (at_ < D.dur.length) && decide (n ≤ D.dur.length - at_)
/-- a call is counted -/
def tick (D : Disk) : Disk := { D with left := if 0 < D.left then D.left - 1 else D.left }
/-- a piece of a text, filled up to a sector -/
def pad (b : List UInt8) : List UInt8 := b ++ List.replicate (64 - b.length) 0
def nsec (b : List UInt8) : Nat := (b.length + 63) / 64
def sector (b : List UInt8) (i : Nat) : List UInt8 := pad ((b.drop (64 * i)).take 64)
def sectors (b : List UInt8) : List (List UInt8) := (List.range (nsec b)).map (sector b)
def writesOf (at_ : Nat) (b : List UInt8) (k : Nat) : List (Nat × List UInt8) := (List.range k).map (fun i => (at_ + i, sector b i))
def write (D : Disk) (at_ : Nat) (b : List UInt8) : Disk := { D.tick with pend := D.pend ++ writesOf at_ b (nsec b) }
/-- what sector i reads as under the first writes of l -/
def over (l : List (Nat × List UInt8)) (i : Nat) (s : List UInt8) : List UInt8 := l.foldl (fun acc p => if p.1 = i then p.2 else acc) s
def see (D : Disk) (i : Nat) : List UInt8 := over D.pend i (D.dur.getD i [])
def view (D : Disk) (l : List (Nat × List UInt8)) (at_ n : Nat) : List (List UInt8) := (List.range n).map (fun k => over l (at_ + k) (D.dur.getD (at_ + k) []))
def read (D : Disk) (at_ n : Nat) : List UInt8 := (view D D.pend at_ n).flatten
def put (d : List (List UInt8)) (p : Nat × List UInt8) : List (List UInt8) := d.set p.1 p.2
def sync (D : Disk) : Disk := { D.tick with dur := D.pend.foldl put D.dur, pend := [] }
def kept (D : Disk) (keep : List Int) : List (Nat × List UInt8) := (D.pend.zipIdx.filter (fun x => keep.contains (x.2 : Int))).map (·.1)
def crash (D : Disk) (keep : List Int) : Disk := { dur := (D.kept keep).foldl put D.dur, pend := [], left := -1 }
def zero (n : Nat) : Disk := { dur := List.replicate n (List.replicate 64 0), pend := [], left := -1 }

theorem pad_length (b : List UInt8) (h : b.length ≤ 64) : (pad b).length = 64 := by simp [pad]; omega
theorem sector_length (b : List UInt8) (i : Nat) : (sector b i).length = 64 := pad_length _ (by simp; omega)
theorem zero_ok {n : Nat} (h1 : 1 ≤ n) (h2 : n ≤ 65536) : (zero n).Ok := by
  refine ⟨fun s hs => ?_, by simp [zero]; omega, by simp [zero]; omega, fun p hp => by simp [zero] at hp, by simp [zero], by simp [zero]⟩
  simp [zero] at hs
  rw [hs.2]; simp
theorem put_length (d : List (List UInt8)) (p : Nat × List UInt8) : (put d p).length = d.length := by simp [put]
theorem foldl_put_length (l : List (Nat × List UInt8)) (d : List (List UInt8)) : (l.foldl put d).length = d.length := by
  induction l generalizing d with
  | nil => rfl
  | cons p l ih => rw [List.foldl_cons, ih, put_length]
theorem foldl_put_mem {l : List (Nat × List UInt8)} {d : List (List UInt8)} (hd : ∀ s ∈ d, s.length = 64) (hl : ∀ p ∈ l, p.2.length = 64) : ∀ s ∈ l.foldl put d, s.length = 64 := by
  induction l generalizing d with
  | nil => exact hd
  | cons p l ih =>
    rw [List.foldl_cons]
    refine ih (fun s hs => ?_) (fun q hq => hl q (by simp [hq]))
    rcases List.mem_or_eq_of_mem_set hs with h | h
    · exact hd s h
    · rw [h]; exact hl p (by simp)
theorem kept_mem {D : Disk} {keep : List Int} {p : Nat × List UInt8} (h : p ∈ D.kept keep) : p ∈ D.pend := by
  unfold kept at h
  obtain ⟨x, hx, rfl⟩ := List.mem_map.1 h
  have := (List.mem_filter.1 hx).1
  obtain ⟨y, i⟩ := x
  exact (List.mem_zipIdx this).2.2 ▸ List.getElem_mem _
theorem crash_ok {D : Disk} (h : D.Ok) (keep : List Int) : (D.crash keep).Ok := by
  refine ⟨foldl_put_mem h.dur (fun p hp => (h.pend p (kept_mem hp)).2), ?_, ?_, fun p hp => by simp [crash] at hp, by simp [crash], by simp [crash]⟩
  · simp only [crash, foldl_put_length]; exact h.pos
  · simp only [crash, foldl_put_length]; exact h.max
end Disk
end Go.Pm
/- The disk's methods. -/
namespace Go.Proofs.Ytkannfkjnohdlaa
open Go.RowKit Go.Pm

def wrCells (p : Nat × List UInt8) : List Value := .int .i64 (p.1 : Int) :: p.2.map B8
def durCells (d : List (List UInt8)) : List Value := (d.map (·.map B8)).flatten
def pendCells (l : List (Nat × List UInt8)) : List Value := (l.map wrCells).flatten

/-- The disk D lies behind the pointer to block p; its blocks are F. -/
def DiskAt (w : World) (p : Nat) (D : Disk) (F : List Nat) : Prop := D.Ok ∧ ∃ gd vp, F = p :: gd :: (Value.ownBlock vp).toList ∧ F.Nodup ∧
  Blk w p [.slice (some ⟨gd, 0, none⟩) D.dur.length D.dur.length, vp, .int .i64 D.left] 87 ∧ Blk w gd (durCells D.dur) 90 ∧ w.ownsRow 0 92 65 vp D.pend.length (pendCells D.pend)

theorem DiskAt.lt {w : World} {p : Nat} {D : Disk} {F : List Nat} (h : DiskAt w p D F) : ∀ k ∈ F, k < w.heap.size := by
  obtain ⟨_, gd, vp, rfl, _, h1, h2, h3⟩ := h
  intro k hk
  simp only [List.mem_cons, Option.mem_toList] at hk
  rcases hk with rfl | rfl | hk
  · exact h1.lt
  · exact h2.lt
  · exact (h3.lt k hk).2
theorem DiskAt.same {w w' : World} {p : Nat} {D : Disk} {F : List Nat} (h : DiskAt w p D F) (hs : ∀ k ∈ F, w'.heap[k]? = w.heap[k]?) : DiskAt w' p D F := by
  obtain ⟨h0, gd, vp, rfl, hn, h1, h2, h3⟩ := h
  refine ⟨h0, gd, vp, rfl, hn, (hs p (by simp)).trans h1, (hs gd (by simp)).trans h2, h3.1, ?_⟩
  rcases h3.2 with h4 | ⟨g, cap, cur, rfl, hb, hg, h5⟩
  · exact .inl h4
  · exact .inr ⟨g, cap, cur, rfl, hb, (hs g (by simp [Value.ownBlock])).trans hg, h5⟩
theorem DiskAt.ext {w w' : World} {p : Nat} {D : Disk} {F : List Nat} (h : DiskAt w p D F) (hs : Ext w w') : DiskAt w' p D F :=
  h.same (fun k hk => hs.block k (h.lt k hk))

theorem ret_bool {b c : Bool} (h : b = c) : Ending.returned (.bool b) = .returned (.bool c) := by rw [h]
set_option maxHeartbeats 1000000 in
theorem diskHas (w : World) (p : Nat) (D : Disk) (F : List Nat) (at_ n : Int) (hD : DiskAt w p D F) (ha : -9223372036854775808 ≤ at_ ∧ at_ ≤ 9223372036854775807) :
    Calls Try.prog 44 #[.pointer (some ⟨p, 0, none⟩), .int .i64 at_, .int .i64 n] w fun e w' => e = .returned (.bool (D.has at_ n)) ∧ w = w' := by
  obtain ⟨hok, gd, vp, rfl, _, h1, _, _⟩ := hD
  have hm := hok.max
  have hc : w.cell? ⟨p, 0, none⟩ = some (.slice (some ⟨gd, 0, none⟩) D.dur.length D.dur.length) := by rw [h1.cell]; rfl
  have hv : Hid (∀ b, D.has at_ n = b ↔ (decide (1 ≤ n) && decide (0 ≤ at_) && decide (at_ < D.dur.length) && decide (n ≤ D.dur.length - at_)) = b) := fun b => Iff.rfl
  clear h1
  generalize D.dur.length = L at *
  generalize D.has at_ n = B at *
  by_cases c1 : 1 ≤ n
  · by_cases c2 : 0 ≤ at_
    · by_cases c3 : at_ < L
      · by_cases c4 : n ≤ L - at_
        · go_enter Try.func44, Try.ntmps44
          go_wp2_with fail
          go_ret
          exact ⟨ret_bool ((hv.out true).2 (by simp [c1, c2, c3, c4])).symm, rfl⟩
        · go_enter Try.func44, Try.ntmps44
          go_wp2_with fail
          go_ret
          exact ⟨ret_bool ((hv.out false).2 (by simp [c1, c2, c3, c4])).symm, rfl⟩
      · go_enter Try.func44, Try.ntmps44
        go_wp2_with fail
        go_ret
        exact ⟨ret_bool ((hv.out false).2 (by simp; omega)).symm, rfl⟩
    · go_enter Try.func44, Try.ntmps44
      go_wp2_with fail
      go_ret
      exact ⟨ret_bool ((hv.out false).2 (by simp; omega)).symm, rfl⟩
  · go_enter Try.func44, Try.ntmps44
    go_wp2_with fail
    go_ret
    exact ⟨ret_bool ((hv.out false).2 (by simp; omega)).symm, rfl⟩

/-- the receiver's cells -/
theorem DiskAt.cells {w : World} {p : Nat} {D : Disk} {F : List Nat} (h : DiskAt w p D F) : ∃ gd vp, w.cell? ⟨p, 0, none⟩ = some (.slice (some ⟨gd, 0, none⟩) D.dur.length D.dur.length) ∧ w.cell? ⟨p, 1, none⟩ = some vp ∧ w.cell? ⟨p, 2, none⟩ = some (.int .i64 D.left) ∧ ∀ k, w.frozen? ⟨p, k, none⟩ = false := by
  obtain ⟨_, gd, vp, _, _, h1, _, _⟩ := h
  exact ⟨gd, vp, by rw [h1.cell]; rfl, by rw [h1.cell]; rfl, by rw [h1.cell]; rfl, fun k => h1.free k⟩
/-- another count of calls -/
theorem DiskAt.setLeft {w : World} {p : Nat} {D : Disk} {F : List Nat} (h : DiskAt w p D F) (n : Int) (hn : -1 ≤ n ∧ n ≤ 9223372036854775807) : DiskAt (w.setCell ⟨p, 2, none⟩ (.int .i64 n)) p { D with left := n } F ∧ Only F w (w.setCell ⟨p, 2, none⟩ (.int .i64 n)) := by
  obtain ⟨h0, gd, vp, rfl, hnd, h1, h2, h3⟩ := h
  have hw : w.setCell ⟨p, 2, none⟩ (.int .i64 n) = setBlk w p [.slice (some ⟨gd, 0, none⟩) D.dur.length D.dur.length, vp, .int .i64 n] := setCell_eq_setRow w p 2 _ _ (0, 0) _ h1
  have ho : ∀ k, k ≠ p → (w.setCell ⟨p, 2, none⟩ (.int .i64 n)).heap[k]? = w.heap[k]? := fun k hk => by rw [hw]; exact setRow_other _ _ _ _ hk
  have hnd' := hnd
  simp only [List.nodup_cons, List.mem_cons, Option.mem_toList, not_or] at hnd'
  refine ⟨⟨⟨h0.dur, h0.pos, h0.max, h0.pend, hn.1, hn.2⟩, gd, vp, rfl, hnd, ?_, (ho gd (fun e => hnd'.1.1 e.symm)).trans h2, h3.1, ?_⟩, ?_⟩
  · rw [hw]; exact h1.set _
  · rcases h3.2 with h4 | ⟨g, cap, cur, rfl, hb, hg, h5⟩
    · exact .inl h4
    · exact .inr ⟨g, cap, cur, rfl, hb, (ho g (fun e => hnd'.1.2 (by simp [Value.ownBlock, e]))).trans hg, h5⟩
  · rw [hw]; exact (Only.refl _ _).setBlk (.inl (by simp)) _

set_option maxHeartbeats 1000000 in
theorem diskCall (w : World) (p : Nat) (D : Disk) (F : List Nat) (hD : DiskAt w p D F) :
    Calls Try.prog 45 #[.pointer (some ⟨p, 0, none⟩)] w fun e w' => e = .returned (.bool (D.left != 0)) ∧ DiskAt w' p D.tick F ∧ Only F w w' := by
  obtain ⟨gd, vp, hc0, hc1, hc2, hfz⟩ := hD.cells
  have hl1 := hD.1.left1
  have hl2 := hD.1.left2
  have hfz2 := hfz 2
  by_cases hz : D.left = 0
  · have ht : D.tick = D := by cases D; simp_all [Disk.tick]
    have hb : (D.left != 0) = false := by simp [hz]
    rw [ht, hb]
    rw [hz] at hc2
    have hDH := Lib.hid hD
    clear hD hfz ht hb hz
    go_enter Try.func45, Try.ntmps45
    go_wp2_with fail
    go_ret
    exact ⟨rfl, hDH.out, Only.refl _ _⟩
  · have hb : (D.left != 0) = true := by simp [hz]
    have hz0 : (D.left == 0) = false := by simp [hz]
    rw [hb]
    by_cases hp : 0 < D.left
    · have ht : D.tick = { D with left := D.left - 1 } := by simp [Disk.tick, hp]
      have hst := Lib.hid (hD.setLeft (D.left - 1) (by omega))
      rw [ht]
      clear hD hfz ht hb hz
      generalize D.left = n at *
      go_enter Try.func45, Try.ntmps45
      go_wp2_with fail
      go_ret
      exact ⟨rfl, hst.out.1, hst.out.2⟩
    · have ht : D.tick = D := by unfold Disk.tick; rw [if_neg hp]
      have hDH := Lib.hid hD
      rw [ht]
      clear hD hfz ht hb hz
      generalize hn : D.left = n at *
      clear hn
      go_enter Try.func45, Try.ntmps45
      go_wp2_with fail
      go_ret
      exact ⟨rfl, hDH.out, Only.refl _ _⟩

def zsec : Value := .agg (List.replicate 64 (Value.int .u8 0)).toArray
theorem zeroSec : (Try.prog.info? 90).map (fun i => (i.zero, i.size, i.bytes)) = some (some zsec, 64, 64) := by kernel_rfl
theorem madeCells_same (v : Value) (n k : Nat) (hk : 0 < k) : (madeCells (List.replicate k v).toArray n).toList = List.replicate n v := by
  unfold madeCells
  apply List.ext_getElem
  · simp
  · intro i h1 h2
    have : i % k < k := Nat.mod_lt _ hk
    simp [this]
theorem durCells_zero (n : Nat) : durCells (List.replicate n (List.replicate 64 0)) = List.replicate (n * 64) (Value.int .u8 0) := by
  unfold durCells
  induction n with
  | zero => simp
  | succ n ih => rw [List.replicate_succ, List.map_cons, List.flatten_cons, ih, Nat.succ_mul, Nat.add_comm, ← List.replicate_append_replicate]; simp [B8]

set_option maxRecDepth 100000 in
set_option maxHeartbeats 1000000 in
theorem diskNew (w : World) (n : Nat) (h1 : 1 ≤ n) (h2 : n ≤ 65536) :
    Calls Try.prog 21 #[.int .i64 n] w fun e w' => ∃ p F, e = .returned (.tuple #[.pointer (some ⟨p, 0, none⟩), .int .i64 0]) ∧ DiskAt w' p (Disk.zero n) F ∧ Ext w w' ∧ ∀ k ∈ F, w.heap.size ≤ k := by
  obtain ⟨i0, hi, hz0, hz1, hz2⟩ := info_parts zeroSec
  have hi' := Lib.hid hi
  have hz0' := Lib.hid hz0
  have hz1' := Lib.hid hz1
  have hz2' := Lib.hid hz2
  clear hi hz0 hz1 hz2
  go_enter Try.func21, Try.ntmps21
  go_wp2_with (at_make; refine wpList_make_full _ rfl _ _ 84 rfl w.heap.size 90 i0 zsec 64 Try.underlying84 hi'.out hz0'.out hz1'.out .i64 .i64 _ _ n rfl rfl rfl rfl (by rw [hz2'.out]; omega) (by unfold maxLen; omega) (Nat.le_refl _) ?_)
  rename_i x cs heq
  intro w1 hown hgrow
  have hcs : (madeCells cs (n * 64)).toList = durCells (List.replicate n (List.replicate 64 0)) := by
    have : cs = (List.replicate 64 (Value.int .u8 0)).toArray := by
      unfold zsec at heq
      exact (Value.agg.inj heq).symm
    rw [this, durCells_zero]
    exact madeCells_same _ _ 64 (by omega)
  rw [hcs] at hown
  have hext : Ext w w1 := (Below.refl _ _).grown hgrow (Nat.le_refl _) (fun k hk => by cases hk)
  have hblk : Blk w1 w.heap.size (durCells (List.replicate n (List.replicate 64 0))) 90 := by
    rcases hown.2 with ⟨h, _⟩ | ⟨g, cap, cur, h, _, hg, h3, _, h5, h6⟩
    · simp at h
    · simp only [Value.slice.injEq, Option.some.injEq, Addr.mk.injEq, and_true, true_and] at h
      obtain ⟨rfl, rfl⟩ := h
      rw [List.take_of_length_le (by rw [Array.length_toList, h5]; exact Nat.le_refl _)] at h6
      rw [← h6]
      simpa using hg
  have hlt := hblk.lt
  have hblkH := Lib.hid hblk
  have hexH := Lib.hid hext
  clear hown hgrow heq hcs hblk hext
  go_wp2_with fail
  go_ret2
  refine ⟨w1.heap.size, [w1.heap.size, w.heap.size], rfl, ⟨Disk.zero_ok h1 h2, w.heap.size, .slice none 0 0, rfl, ?_, ?_, ?_, ?_⟩, hexH.out.alloc hexH.out.size _, ?_⟩
  · simp; omega
  · have := blk_new w1 [.slice (some ⟨w.heap.size, 0, none⟩) n n, .slice none 0 0, .int .i64 (-1)] 87
    simpa [Disk.zero] using this
  · exact hblkH.out.ext ((Below.refl _ _).alloc (Nat.le_refl _) _)
  · exact World.ownsRow_nil _ _ _ _
  · intro k hk
    have := hexH.out.size
    simp at hk
    omega
end Go.Proofs.Ytkannfkjnohdlaa
/- disk.Write -/
namespace Go.Proofs.Ytkannfkjnohdlaa
open Go.RowKit Go.Pm

/-- sixty-four zero bytes -/
def z64 : List Value := List.replicate 64 (.int .u8 0)
theorem z64_len : z64.length = 64 := by unfold z64; simp
theorem z64_drop (k : Nat) : z64.drop k = List.replicate (64 - k) (.int .u8 0) := by unfold z64; rw [List.drop_replicate]
theorem buildW (x : Int) (w : World) : (Instr.build 92 #[(0, .int .i64 x)]).run Try.prog w = .ok (.agg (.int .i64 x :: z64).toArray) w := by kernel_rfl
theorem allocW (w : World) : (Instr.alloc 92 true (.tuple #[])).run Try.prog w = .ok (.pointer (some ⟨w.heap.size, 0, none⟩)) (w.alloc (.cells (.int .i64 0 :: z64).toArray 92)) := by kernel_rfl
theorem wideW : Wide Try.prog 92 65 := ⟨fun w => by kernel_rfl, by kernel_rfl⟩
theorem wideS : Wide Try.prog 90 64 := ⟨fun w => by kernel_rfl, by kernel_rfl⟩
theorem faW0 (b off : Nat) (w : World) : (Instr.fieldAt 92 (.pointer (some ⟨b, off, none⟩)) 0).run Try.prog w = .ok (.pointer (some ⟨b, off, none⟩)) w := by kernel_rfl
theorem faW1 (b off : Nat) (w : World) : (Instr.fieldAt 92 (.pointer (some ⟨b, off, none⟩)) 1).run Try.prog w = .ok (.pointer (some ⟨b, off + 1, none⟩)) w := by kernel_rfl
theorem faD0 (b off : Nat) (w : World) : (Instr.fieldAt 87 (.pointer (some ⟨b, off, none⟩)) 0).run Try.prog w = .ok (.pointer (some ⟨b, off, none⟩)) w := by kernel_rfl
theorem faD1 (b off : Nat) (w : World) : (Instr.fieldAt 87 (.pointer (some ⟨b, off, none⟩)) 1).run Try.prog w = .ok (.pointer (some ⟨b, off + 1, none⟩)) w := by kernel_rfl
theorem slS (b off : Nat) (w : World) : (Instr.sliceAt 90 (.pointer (some ⟨b, off, none⟩)) none none none).run Try.prog w = .ok (.slice (some ⟨b, off, none⟩) 64 64) w := by kernel_rfl
theorem naP (w : World) : (isAgg 85).run Try.prog w = .ok false w := by kernel_rfl
theorem naI (w : World) : (isAgg 3).run Try.prog w = .ok false w := by kernel_rfl
theorem naS (w : World) : (isAgg 84).run Try.prog w = .ok false w := by kernel_rfl
theorem elemW : Elem Try.prog 85 92 (.agg (.int .i64 0 :: z64).toArray) 65 72 := ⟨Try.underlying85, info_parts (by kernel_rfl), by unfold z64; simp [Value.cells], by decide⟩

theorem nsec_int (l : List UInt8) : ((l.length : Int) + 64 - 1) / 64 = (Disk.nsec l : Int) := by unfold Disk.nsec; omega

set_option maxRecDepth 100000 in
set_option maxHeartbeats 1000000 in
theorem diskWriteBad (w : World) (p : Nat) (D : Disk) (F : List Nat) (at_ : Int) (a : Option Addr) (n cap : Nat) (l : List UInt8) (hD : DiskAt w p D F) (ha : -9223372036854775808 ≤ at_ ∧ at_ ≤ 9223372036854775807) (hn : l.length = n) (hm : n ≤ 1000000000) (hh : D.has at_ (Disk.nsec l) = false) :
    Calls Try.prog 22 #[.pointer (some ⟨p, 0, none⟩), .int .i64 at_, .slice a n cap] w fun e w' => e = .returned (.int .i64 2) ∧ w = w' := by
  subst hn
  have hDH := Lib.hid hD
  have hns := Lib.hid (nsec_int l)
  have hhH := Lib.hid hh
  clear hD hh
  go_enter Try.func22, Try.ntmps22
  go_wp2_with fail
  rw [hns.out]
  refine (diskHas w p D F at_ _ hDH.out ha).mono ?_
  rintro e w' ⟨rfl, rfl⟩
  rw [hhH.out]
  go_wp2_with fail
  go_ret
  exact ⟨rfl, rfl⟩

set_option maxRecDepth 100000 in
set_option maxHeartbeats 1000000 in
theorem diskWriteOff (w : World) (p : Nat) (D : Disk) (F : List Nat) (at_ : Int) (a : Option Addr) (n cap : Nat) (l : List UInt8) (hD : DiskAt w p D F) (ha : -9223372036854775808 ≤ at_ ∧ at_ ≤ 9223372036854775807) (hn : l.length = n) (hm : n ≤ 1000000000) (hh : D.has at_ (Disk.nsec l) = true) (hl : D.left = 0) :
    Calls Try.prog 22 #[.pointer (some ⟨p, 0, none⟩), .int .i64 at_, .slice a n cap] w fun e w' => e = .returned (.int .i64 20) ∧ DiskAt w' p D F ∧ Only F w w' := by
  subst hn
  have hDH := Lib.hid hD
  have hns := Lib.hid (nsec_int l)
  have hhH := Lib.hid hh
  have ht : Hid (D.tick = D) := by show D.tick = D; unfold Disk.tick; rw [if_neg (by omega)]
  have hb : Hid ((D.left != 0) = false) := by show (D.left != 0) = false; simp [hl]
  clear hD hh hl
  go_enter Try.func22, Try.ntmps22
  go_wp2_with fail
  rw [hns.out]
  refine (diskHas w p D F at_ _ hDH.out ha).mono ?_
  rintro e w' ⟨rfl, rfl⟩
  rw [hhH.out]
  go_wp2_with fail
  refine (diskCall w p D F hDH.out).mono ?_
  rintro e w1 ⟨rfl, hD1, ho1⟩
  rw [hb.out]
  rw [ht.out] at hD1
  have hD1 := Lib.hid hD1
  have ho1 := Lib.hid ho1
  go_wp2_with fail
  go_ret
  exact ⟨rfl, hD1.out, ho1.out⟩

/-- what copy brings over, and what the write's cells are then -/
theorem copyCells (l : List UInt8) (i n' : Nat) (hn : (l.drop (64 * i)).length = n') : ∃ cs : List Value, cs = ((l.drop (64 * i)).map B8).take 64 ∧ cs.length = Nat.min n' 64 ∧ cs ++ z64.drop cs.length = (Disk.sector l i).map B8 ∧ cs.length ≤ n' := by
  refine ⟨_, rfl, by simp [← hn, Nat.min_comm], ?_, by simp [← hn]; omega⟩
  unfold Disk.sector Disk.pad
  rw [← List.map_take, List.map_append, List.length_map, z64_drop, List.map_replicate]
  rfl


set_option maxRecDepth 100000 in
/-- b[k:] of bytes -/
theorem run_from {w W : World} {S : Nat → Prop} {a : Option Addr} {n c : Nat} {l : List UInt8} (k : Nat) (hn : l.length = n) (hok : SliceOk a n c) (hb : Bytes w S a l) (hk : k ≤ n) :
    ∃ a', (Instr.sliceAt 24 (.slice a n c) (some (.int .i64 (k : Int))) none none).run Try.prog W = .ok (.slice a' (n - k) (c - k)) W ∧ SliceOk a' (n - k) (c - k) ∧ Bytes w S a' (l.drop k) := by
  have hs : ∀ w, (sizeOf (Try.prog.elem 24)).run Try.prog w = .ok 1 w := fun w => by kernel_rfl
  have hle := hok.le
  have hmx := hok.max
  refine ⟨if c = k then a else a.map (·.add (k * 1)), ?_, ⟨by omega, by omega, ?_⟩, ?_⟩
  · rw [run_sliceAt_slice W _ _ _ _ _ Try.underlying24, run_slice_l W _ a n c Try.underlying24 .i64 k (by omega) (by omega), hs]
    simp [sliced, Result.andThen]
  · split
    · intro h; omega
    · intro h
      have := hok.nil (by simpa using h)
      omega
  · intro i hi
    have hi' : k + i < l.length := by simp at hi; omega
    obtain ⟨b, off, h1, h2, h3⟩ := hb (k + i) hi'
    rw [if_neg (by omega)]
    subst h1
    refine ⟨b, off + k, ?_, h2, by rw [Nat.add_assoc, h3]; simp⟩
    have : (⟨b, off, none⟩ : Addr).add (k * 1) = ⟨b, off + k, none⟩ := by unfold Addr.add; split <;> simp_all
    rw [Option.map_some, this]

theorem pendCells_snoc (l : List (Nat × List UInt8)) (x : Nat × List UInt8) : pendCells (l ++ [x]) = pendCells l ++ wrCells x := by simp [pendCells]
theorem wrCells_one (x : Nat × List UInt8) : ∀ v ∈ wrCells x, v.oneCell' = true := by
  intro v hv
  simp only [wrCells, List.mem_cons] at hv
  rcases hv with rfl | hv
  · rfl
  · exact oneCell_bytes _ v hv

/-- the disk's parts, named -/
structure DiskParts (w : World) (p : Nat) (D : Disk) (F : List Nat) (gd : Nat) (vp : Value) : Prop where
  ok : D.Ok
  eqF : F = p :: gd :: (Value.ownBlock vp).toList
  nd : F.Nodup
  blk : Blk w p [.slice (some ⟨gd, 0, none⟩) D.dur.length D.dur.length, vp, .int .i64 D.left] 87
  dur : Blk w gd (durCells D.dur) 90
  pend : w.ownsRow 0 92 65 vp D.pend.length (pendCells D.pend)
theorem DiskAt.parts {w : World} {p : Nat} {D : Disk} {F : List Nat} (h : DiskAt w p D F) : ∃ gd vp, DiskParts w p D F gd vp := by
  obtain ⟨h0, gd, vp, h1, h2, h3, h4, h5⟩ := h
  exact ⟨gd, vp, h0, h1, h2, h3, h4, h5⟩
theorem DiskParts.at {w : World} {p : Nat} {D : Disk} {F : List Nat} {gd : Nat} {vp : Value} (h : DiskParts w p D F gd vp) : DiskAt w p D F := ⟨h.ok, gd, vp, h.eqF, h.nd, h.blk, h.dur, h.pend⟩

theorem add_step {b : Bool} {X Y : Prop} (hb : b = false) (h : Y) : if b = true then X else Y := by rw [hb]; exact h
theorem mem_step {b : Bool} {X Y : Prop} (hb : b = true) (h : X) : if b = true then X else Y := by rw [hb]; exact h
/-- what holds while a write is pushed on: nothing done; appended; stored -/
def PushJ (W : World) (p : Nat) (D : Disk) (F : List Nat) (vp : Value) (x : Nat × List UInt8) : List Value → World → Prop
  | [], w => Ext W w
  | [v], w => w.ownsRow 0 92 65 v (D.pend.length + 1) (pendCells D.pend ++ wrCells x) ∧ Only vp.ownBlock.toList W w ∧ (v.ownBlock = vp.ownBlock ∨ ∃ b, v.ownBlock = some b ∧ W.heap.size ≤ b)
  | _, w => ∃ F', DiskAt w p { D with pend := D.pend ++ [x] } F' ∧ Only F W w ∧ ∀ k ∈ F', k ∈ F ∨ W.heap.size ≤ k
theorem only_then {F : List Nat} {a b c : World} (h : Only F a b) (k : Ext b c) : Only F a c := h.trans (Only.of_ext (F := []) k) (fun i _ hi => by simp at hi)
theorem pushJ_ext {W : World} {p : Nat} {D : Disk} {F : List Nat} {vp : Value} {x : Nat × List UInt8} : ∀ vals w w', PushJ W p D F vp x vals w → Ext w w' → PushJ W p D F vp x vals w'
  | [], w, w', h, he => h.tr he
  | [v], w, w', ⟨h1, h2, h3⟩, he => ⟨ownsRow_ext h1 he, only_then h2 he, h3⟩
  | _ :: _ :: _, w, w', ⟨F', h1, h2, h3⟩, he => ⟨F', h1.ext he, only_then h2 he, h3⟩
/-- one element in a block of its own -/
def rowSP (L : List Value) : SP := ⟨fun w v => ∃ b, v = .slice (some ⟨b, 0, none⟩) 1 1 ∧ ∃ t, Blk w b L t, fun _ _ _ he ⟨b, h1, t, h2⟩ => ⟨b, h1, t, h2.ext he⟩⟩
theorem blk_src {w : World} {b : Nat} {L : List Value} {t : TypeId} (h : Blk w b L t) : Src w (some ⟨b, 0, none⟩) L := fun i hi => ⟨b, 0, rfl, by rw [h.cell]; simp [hi]⟩

theorem pushAppend {W w : World} {p : Nat} {D : Disk} {F : List Nat} {gd : Nat} {vp : Value} {x : Nat × List UInt8} {ty : TypeId} (hD : DiskParts W p D F gd vp) (hx : x.2.length = 64) (hl : D.pend.length ≤ 2000000000) (hJ : PushJ W p D F vp x [] w) {v : Value} (hv : (rowSP (wrCells x)).p w v) :
    ∃ v' w', (Builtin.append_ #[85, 85] ty #[vp, v]).run Try.prog w = .ok v' w' ∧ PushJ W p D F vp x ([] ++ [v']) w' := by
  obtain ⟨b, rfl, t, hb⟩ := hv
  obtain ⟨v', w', hr, h1, h2, h3⟩ := run_append_src2 (ty := ty) elemW (ownsRow_ext hD.pend hJ) (ad := some ⟨b, 0, none⟩) (m := 1) (c := 1) (news := wrCells x) ⟨by omega, by unfold maxLen; omega, by simp⟩ (by simp [wrCells, hx]) (blk_src hb) (wrCells_one x) (by simp only [maxLen]; omega) (by omega)
  refine ⟨v', w', hr, h1, ?_, ?_⟩
  · exact (Only.of_ext (F := vp.ownBlock.toList) hJ).grown h2 (fun k hk => .inl (by simp [hk]))
  · rcases h3 with h3 | ⟨b', h3, h4⟩
    · exact .inl h3
    · exact .inr ⟨b', h3, Nat.le_trans hJ.size h4⟩

theorem pushStore {W w : World} {p : Nat} {D : Disk} {F : List Nat} {gd : Nat} {vp : Value} {x : Nat × List UInt8} (hD : DiskParts W p D F gd vp) (hx : x.1 < D.dur.length ∧ x.2.length = 64) {v : Value} (hJ : PushJ W p D F vp x [v] w) :
    ∃ w', (Instr.storeAt 85 (.pointer (some ⟨p, 0 + 1, none⟩)) v).run Try.prog w = .ok () w' ∧ PushJ W p D F vp x ([v] ++ [undef]) w' := by
  obtain ⟨h1, h2, h3⟩ := hJ
  have hF := hD.eqF
  have hnd := hD.nd
  subst hF
  have hnd' := hnd
  simp only [List.nodup_cons, List.mem_cons, Option.mem_toList, not_or] at hnd'
  have hp : Blk w p [.slice (some ⟨gd, 0, none⟩) D.dur.length D.dur.length, vp, .int .i64 D.left] 87 := hD.blk.only h2 (by simpa using hnd'.1.2)
  have hg : Blk w gd (durCells D.dur) 90 := hD.dur.only h2 (by simpa using hnd'.2.1)
  have hpl := hD.blk.lt
  have hgl := hD.dur.lt
  have hne : ∀ b, v.ownBlock = some b → b ≠ p ∧ b ≠ gd := by
    intro b hb
    rcases h3 with h3 | ⟨b', h3, h4⟩
    · rw [h3] at hb
      exact ⟨fun e => hnd'.1.2 (e ▸ hb), fun e => hnd'.2.1 (e ▸ hb)⟩
    · rw [h3] at hb
      simp only [Option.some.injEq] at hb
      omega
  refine ⟨setBlk w p [.slice (some ⟨gd, 0, none⟩) D.dur.length D.dur.length, v, .int .i64 D.left], ?_, p :: gd :: v.ownBlock.toList, ⟨?_, gd, v, rfl, ?_, hp.set _, hg.setOther (fun e => hnd'.1.1 e.symm) _, ?_⟩, ?_, ?_⟩
  · have hsz : v.cells = #[v] := by
      rcases h1.2 with ⟨rfl, _⟩ | ⟨g, cap, cur, rfl, _⟩ <;> rfl
    have h1c : v.oneCell' = true := by
      rcases h1.2 with ⟨rfl, _⟩ | ⟨g, cap, cur, rfl, _⟩ <;> rfl
    have hst := run_storeCells_at Try.prog p 1 87 [v] 0 _ w hp (by simp) (by simpa using h1c)
    have hz : (sizeOf 85).run Try.prog w = .ok 1 w := by kernel_rfl
    simp only [Instr.storeAt, Instr.sureAddr, storeVar]
    simp [hsz, hz]
    simpa using hst
  · have := hD.ok
    refine ⟨this.dur, this.pos, this.max, fun q hq => ?_, this.left1, this.left2⟩
    simp only [List.mem_append, List.mem_singleton] at hq
    rcases hq with hq | rfl
    · exact this.pend q hq
    · exact hx
  · simp only [List.nodup_cons, List.mem_cons, Option.mem_toList, not_or]
    refine ⟨⟨hnd'.1.1, fun e => (hne p e).1 rfl⟩, fun e => (hne gd e).2 rfl, ?_⟩
    cases v.ownBlock <;> simp
  · simp only [List.length_append, List.length_singleton, pendCells_snoc]
    exact ownsRow_only h1 ((Only.refl [p] w).setBlk (.inl (by simp)) _) (fun b hb => by simpa using (hne b hb).1)
  · exact (h2.mono (fun k _ hk => by simp at hk ⊢; exact .inr (.inr hk))).setBlk (.inl (by simp)) _
  · intro k hk
    simp only [List.mem_cons, Option.mem_toList] at hk ⊢
    rcases hk with rfl | rfl | hk
    · simp
    · simp
    · rcases h3 with h3 | ⟨b', h3, h4⟩
      · rw [h3] at hk; exact .inl (.inr (.inr hk))
      · rw [h3] at hk
        simp only [Option.some.injEq] at hk
        exact .inr (by omega)

set_option maxRecDepth 100000 in
set_option maxHeartbeats 400000 in
theorem diskWriteOk (w : World) (p : Nat) (D : Disk) (F : List Nat) (at_ : Nat) (a : Option Addr) (n cap : Nat) (l : List UInt8) (S : Nat → Prop) (hD : DiskAt w p D F) (hn : l.length = n) (hok : SliceOk a n cap) (hb : Bytes w S a l) (hS : ∀ k, S k → k < w.heap.size ∧ k ∉ F)
    (hh : D.has at_ (Disk.nsec l) = true) (hl : D.left ≠ 0) (hpl : D.pend.length ≤ 1000000000) :
    Calls Try.prog 22 #[.pointer (some ⟨p, 0, none⟩), .int .i64 (at_ : Int), .slice a n cap] w fun e w' => e = .returned (.int .i64 0) ∧ ∃ F', DiskAt w' p (D.write at_ l) F' ∧ Only F w w' ∧ ∀ k ∈ F', k ∈ F ∨ w.heap.size ≤ k := by
  subst hn
  have hfit : 1 ≤ Disk.nsec l ∧ at_ + Disk.nsec l ≤ D.dur.length := by
    simp only [Disk.has, Bool.and_eq_true, decide_eq_true_eq] at hh
    omega
  have hmx := hD.1.max
  have hm : l.length ≤ 10000000 := by unfold Disk.nsec at hfit; omega
  have hDH := Lib.hid hD
  have hns := Lib.hid (nsec_int l)
  have hhH := Lib.hid hh
  have hbH : Hid ((D.left != 0) = true) := by show (D.left != 0) = true; simp [hl]
  have hokH := Lib.hid hok
  have hbyH := Lib.hid hb
  have hSH := Lib.hid hS
  clear hD hh hl hb hok hS
  go_enter Try.func22, Try.ntmps22
  go_wp2_with fail
  rw [hns.out]
  refine (diskHas w p D F at_ _ hDH.out (by omega)).mono ?_
  rintro e w' ⟨rfl, rfl⟩
  rw [hhH.out]
  go_wp2_with fail
  refine (diskCall w p D F hDH.out).mono ?_
  rintro e w1 ⟨rfl, hD1, ho1⟩
  rw [hbH.out]
  have hD1 := Lib.hid hD1
  have ho1 := Lib.hid ho1
  go_wp2_with fail
  go_loopw [1, 2] (fun x b wr => ∃ (i : Nat) (a' : Option Addr) (n' c' : Nat) (Fi : List Nat), i ≤ Disk.nsec l ∧ x = .int .i64 ((at_ + i : Nat) : Int) ∧ b = .slice a' n' c' ∧ (l.drop (64 * i)).length = n' ∧ SliceOk a' n' c' ∧ Bytes w S a' (l.drop (64 * i)) ∧
      DiskAt wr p { D.tick with pend := D.pend ++ Disk.writesOf at_ l i } Fi ∧ Only F w wr ∧ ∀ k ∈ Fi, k ∈ F ∨ w.heap.size ≤ k) (fun x _ _ => at_ + Disk.nsec l - (intOf x).toNat)
  case atStart => exact ⟨0, a, l.length, cap, F, by omega, rfl, rfl, by simp, hokH.out, by simpa using hbyH.out, by simp only [Disk.writesOf, List.range_zero, List.map_nil, List.append_nil]; exact hD1.out, ho1.out, fun k hk => .inl hk⟩
  case round =>
    obtain ⟨i, a', n', c', Fi, hi, rfl, rfl, hn', hok', hby', hDi, hoi, hFi⟩ := hrel
    by_cases hlt : i < Disk.nsec l
    · have hnpos : 0 < n' := by rw [← hn']; simp [Disk.nsec] at hlt ⊢; omega
      have hnle : n' ≤ 10000000 := by rw [← hn']; simp; omega
      have hby2 := hby'.only hoi hSH.out
      -- the new write, in a block of its own
      obtain ⟨sec, hsec⟩ : ∃ sec, sec = Disk.sector l i := ⟨_, rfl⟩
      have hcells := copyCells l i n' hn'
      rw [← hsec] at hcells
      obtain ⟨cs, hcs1, hcs2, hcs3, hcs4⟩ := hcells
      have hsecl : sec.length = 64 := by rw [hsec]; exact Disk.sector_length l i
      have hW1 : Blk (wr.alloc (.cells (.int .i64 ((at_ + i : Nat) : Int) :: z64).toArray 92)) wr.heap.size ([.int .i64 ((at_ + i : Nat) : Int)] ++ z64.take cs.length ++ z64.drop cs.length) 92 := by
        rw [List.append_assoc, List.take_append_drop]; exact blk_new _ _ _
      have hsrc1 : Src (wr.alloc (.cells (.int .i64 ((at_ + i : Nat) : Int) :: z64).toArray 92)) a' cs := by
        rw [hcs1]
        exact fun j hj => (hby2.frame (w' := wr.alloc (.cells (.int .i64 ((at_ + i : Nat) : Int) :: z64).toArray 92)) (fun b hb => heap_old _ _ b (Nat.lt_of_lt_of_le (hSH.out b hb).1 hoi.size))).src.take _ j hj
      have hcopy := run_copy_mid (P := Try.prog) (dT := 24) (ty := 3) (dLen := 64) (dCap := 64) (sCap := c') Try.underlying24 (by kernel_rfl) hW1 1 rfl (by rw [List.length_take, z64_len, hcs2]; exact Nat.min_eq_left (Nat.min_le_right _ _)) hcs2 hok' hsrc1 (by rw [hcs1]; exact fun u hu => oneCell_bytes _ u (List.mem_of_mem_take hu))
      have hW2 : setBlk (wr.alloc (.cells (.int .i64 ((at_ + i : Nat) : Int) :: z64).toArray 92)) wr.heap.size ([.int .i64 ((at_ + i : Nat) : Int)] ++ cs ++ z64.drop cs.length) = wr.alloc (.cells (wrCells (at_ + i, sec)).toArray 92) := by
        unfold setBlk wrCells
        rw [World.setRow_alloc_new, List.append_assoc, hcs3]
        rfl
      rw [hW2] at hcopy
      have hst := run_store_mid (P := Try.prog) (t := 92) (b := wr.heap.size) (off := 0) (pre := []) (mid := .int .i64 0 :: z64) (post := []) (new := .int .i64 ((at_ + i : Nat) : Int) :: z64) (w := wr.alloc (.cells (.int .i64 0 :: z64).toArray 92)) (e := 92)
        (by rw [List.length_cons, z64_len]; exact wideW.size) (by simpa using blk_new wr (.int .i64 0 :: z64) 92) rfl rfl (by unfold z64; simp [Value.oneCell'])
      have hW1' : setBlk (wr.alloc (.cells (.int .i64 0 :: z64).toArray 92)) wr.heap.size ([] ++ (.int .i64 ((at_ + i : Nat) : Int) :: z64) ++ []) = wr.alloc (.cells (.int .i64 ((at_ + i : Nat) : Int) :: z64).toArray 92) := by
        unfold setBlk
        rw [World.setRow_alloc_new]
        simp
      rw [hW1'] at hst
      have hcl := hcs2
      have hstH := Lib.hid hst
      have hcopyH := Lib.hid hcopy
      have hDiH := Lib.hid hDi
      have hoiH := Lib.hid hoi
      have hFiH := Lib.hid hFi
      have hbyiH := Lib.hid hby'
      have hokiH := Lib.hid hok'
      have hn'H := Lib.hid hn'
      have hcs2H := Lib.hid hcs2
      have hsecH := Lib.hid hsec
      have hle64 : cs.length ≤ 64 := by rw [hcs2]; exact Nat.min_le_right _ _
      clear hst hcopy hDi hoi hFi hby' hok' hn' hcs1 hcs2 hcs3 hW1 hW2 hW1' hsrc1 hby2 hsec hcl
      go_upto_region 6 with (fail)
      refine wp_region_lit ?_
      refine wpl_ex rfl (ex_move (v := .int .i64 ((at_ + i : Nat) : Int)) rfl rfl) ?_
      refine wpl_ex rfl (ex_build1 rfl rfl (buildW _ _)) ?_
      refine wpl_ex rfl (ex_alloc rfl (allocW _)) ?_
      refine wpl_exU rfl (ex_store rfl rfl rfl hstH.out) ?_
      refine wpList_nil ?_
      simp only [Act.put, List.setIfInBounds_toArray, List.set_cons_succ, List.set_cons_zero]
      go_upto_region 7 with (fail)
      refine wp_region_lit ?_
      refine wpl_ex rfl (ex_field rfl rfl (faW1 _ _ _)) ?_
      refine wpl_ex rfl (ex_slice rfl rfl rfl rfl rfl (slS _ _ _)) ?_
      refine wpl_ex rfl (ex_move (v := .slice a' n' c') rfl rfl) ?_
      refine wpl_ex rfl (ex_copy rfl rfl rfl hcopyH.out) ?_
      refine wpl_ex rfl (ex_assign (v := .int .i64 (cs.length : Int)) rfl rfl) ?_
      refine wpList_nil ?_
      simp only [Act.put, List.setIfInBounds_toArray, List.set_cons_succ, List.set_cons_zero]
      go_upto_region 8 with (fail)
      obtain ⟨gd, vp, hDp⟩ := (hDiH.out.ext ((Below.refl wr.heap.size wr).alloc (Nat.le_refl _) (.cells (wrCells (at_ + i, sec)).toArray 92))).parts
      have hnb : Blk (wr.alloc (.cells (wrCells (at_ + i, sec)).toArray 92)) wr.heap.size (wrCells (at_ + i, sec)) 92 := blk_new _ _ _
      have hW2size : wr.heap.size ≤ (wr.alloc (.cells (wrCells (at_ + i, sec)).toArray 92)).heap.size := by simp
      have hoW2 := hoiH.out.alloc (.cells (wrCells (at_ + i, sec)).toArray 92)
      have hpl2 : (D.pend ++ Disk.writesOf at_ l i).length ≤ 1000000000 + 65536 := by simp [Disk.writesOf]; omega
      obtain ⟨Di, hDie⟩ : ∃ Di : Disk, Di = { D.tick with pend := D.pend ++ Disk.writesOf at_ l i } := ⟨_, rfl⟩
      rw [← hDie] at hDp
      have hDil : Di.pend.length ≤ 1000000000 + 65536 := by rw [hDie]; exact hpl2
      have hDid : at_ + i < Di.dur.length := by rw [hDie]; show at_ + i < D.dur.length; omega
      have hwl : (wrCells (at_ + i, sec)).length = 65 := by simp [wrCells, hsecl]
      obtain ⟨x, hx⟩ : ∃ x, x = (at_ + i, sec) := ⟨_, rfl⟩
      rw [← hx] at hDp hnb hW2size hoW2 hwl ⊢
      generalize wr.alloc (.cells (wrCells x).toArray 92) = W2 at *
      have hc1 : ∀ w, Ext W2 w → w.cell? ⟨p, 0 + 1, none⟩ = some vp := fun w he => by rw [(hDp.blk.ext he).cell]; rfl
      refine wp_region_chain mixed [SP.eq (.pointer (some ⟨p, 0, none⟩)), SP.eq (.pointer (some ⟨p, 0, none⟩)), SP.eq (.pointer (some ⟨p, 0, none⟩)), SP.eq (.pointer (some ⟨p, 0 + 1, none⟩)), SP.eq vp, SP.eq (.agg (wrCells x).toArray), rowSP (wrCells x),
        SP.any, SP.eq (.pointer (some ⟨p, 0, none⟩)), SP.eq (.pointer (some ⟨p, 0 + 1, none⟩)), SP.any] [7, 10] (PushJ W2 p Di Fi vp x) 45 rfl (by kernel_rfl) (Ext.rfl' _) pushJ_ext ⟨?_, ?_, ?_, ?_, ?_, ?_, ?_, ?_, ?_, ?_, ?_, trivial⟩ ?_
      · exact fun a w vals hJ hR => add_step rfl (Ex.adds' (ex_move rfl (hR.keep 0 rfl)) rfl rfl)
      · exact fun a w vals hJ hR => add_step rfl (Ex.adds' (ex_move rfl (hR.keep 0 rfl)) rfl rfl)
      · exact fun a w vals hJ hR => add_step rfl (Ex.adds' (ex_nil rfl (hR.pred 1 31 rfl rfl rfl rfl)) rfl rfl)
      · exact fun a w vals hJ hR => add_step rfl (Ex.adds' (ex_field rfl (hR.pred 2 32 rfl rfl rfl rfl) (faD1 _ _ _)) rfl rfl)
      · intro a w vals hJ hR
        obtain rfl : vals = [] := List.eq_nil_of_length_eq_zero (Nat.le_zero.1 (hR.hi 7 (by simp) rfl))
        exact add_step rfl (Ex.adds' (ex_load rfl (hR.pred 3 33 rfl rfl rfl rfl) (run_load1 naP (hc1 w hJ))) rfl rfl)
      · intro a w vals hJ hR
        obtain rfl : vals = [] := List.eq_nil_of_length_eq_zero (Nat.le_zero.1 (hR.hi 7 (by simp) rfl))
        refine add_step rfl (Ex.adds' (ex_load rfl (hR.keep 7 rfl) (run_load_mid (pre := []) (post := []) (mid := wrCells x) (by rw [hwl]; exact wideW) (by simpa using hnb.ext hJ) rfl)) rfl rfl)
      · intro a w vals hJ hR
        exact add_step rfl (Ex.adds (ex_row1 rfl (hR.pred 5 35 rfl rfl rfl rfl) (run_row1 elemW (wrCells x) hwl (by omega))) rfl ((Below.refl _ _).alloc (Nat.le_refl _) _) ⟨w.heap.size, rfl, _, blk_new _ _ _⟩)
      · refine fun a w vals hJ hR => mem_step rfl fun hvl => ?_
        obtain rfl : vals = [] := List.eq_nil_of_length_eq_zero hvl
        obtain ⟨v', w', hr, hJ'⟩ := pushAppend (ty := 85) hDp (by rw [hx]; exact hsecl) (by omega) hJ (hR.pred 6 36 rfl rfl rfl rfl)
        exact Ex.mem (ex_append rfl (hR.pred 4 34 rfl rfl rfl rfl) rfl hr) rfl hJ'
      · exact fun a w vals hJ hR => add_step rfl (Ex.adds' (ex_nil rfl (hR.old 0 30 rfl rfl rfl).choose_spec) rfl rfl)
      · exact fun a w vals hJ hR => add_step rfl (Ex.adds' (ex_field rfl (hR.pred 8 38 rfl rfl rfl rfl) (faD1 _ _ _)) rfl rfl)
      · refine fun a w vals hJ hR => mem_step rfl fun hvl => ?_
        obtain ⟨v', rfl⟩ : ∃ v', vals = [v'] := by
          match vals, hvl with
          | [v], _ => exact ⟨v, rfl⟩
        obtain ⟨w', hr, hJ'⟩ := pushStore hDp (by rw [hx]; exact ⟨hDid, hsecl⟩) hJ
        exact ExU.mem (ex_store rfl (hR.pred 9 39 rfl rfl rfl rfl) (hR.val 7 37 rfl rfl rfl) hr) rfl hJ'
      · intro vs w3 vals hlen hvl hJ hF
        obtain ⟨F3, hD3, ho3, hF3⟩ : ∃ F', DiskAt w3 p { Di with pend := Di.pend ++ [x] } F' ∧ Only Fi W2 w3 ∧ ∀ k ∈ F', k ∈ Fi ∨ W2.heap.size ≤ k := by
          match vals, hvl with
          | [v1, v2], _ => exact hJ
        clear hF hJ hc1
        obtain ⟨v0, vs0, rfl, hl0⟩ := len_succ (n := 10) hlen
        obtain ⟨v1, vs1, rfl, hl1⟩ := len_succ (n := 9) hl0
        obtain ⟨v2, vs2, rfl, hl2⟩ := len_succ (n := 8) hl1
        obtain ⟨v3, vs3, rfl, hl3⟩ := len_succ (n := 7) hl2
        obtain ⟨v4, vs4, rfl, hl4⟩ := len_succ (n := 6) hl3
        obtain ⟨v5, vs5, rfl, hl5⟩ := len_succ (n := 5) hl4
        obtain ⟨v6, vs6, rfl, hl6⟩ := len_succ (n := 4) hl5
        obtain ⟨v7, vs7, rfl, hl7⟩ := len_succ (n := 3) hl6
        obtain ⟨v8, vs8, rfl, hl8⟩ := len_succ (n := 2) hl7
        obtain ⟨v9, vs9, rfl, hl9⟩ := len_succ (n := 1) hl8
        obtain ⟨v10, vs10, rfl, hl10⟩ := len_succ (n := 0) hl9
        obtain rfl := List.eq_nil_of_length_eq_zero hl10
        clear hlen hl0 hl1 hl2 hl3 hl4 hl5 hl6 hl7 hl8 hl9 hl10
        simp only [putAll, Act.put, List.setIfInBounds_toArray, List.set_cons_succ, List.set_cons_zero]
        obtain ⟨a2, hcut, hok2, hby2⟩ := run_from (W := w3) cs.length hn'H.out hokiH.out hbyiH.out hcs4
        go_upto_region 9 with (fail)
        refine wp_region_lit ?_
        refine wpl_ex rfl (ex_move (v := .slice a' n' c') rfl rfl) ?_
        refine wpl_ex rfl (ex_move (v := .int .i64 (cs.length : Int)) rfl rfl) ?_
        refine wpl_ex rfl (ex_slice rfl rfl rfl rfl rfl hcut) ?_
        refine wpl_ex rfl (ex_assign (v := .slice a2 (n' - cs.length) (c' - cs.length)) rfl rfl) ?_
        refine wpList_nil ?_
        simp only [Act.put, List.setIfInBounds_toArray, List.set_cons_succ, List.set_cons_zero]
        go_wp2_with fail
        have hcs2 := hcs2H.out
        have hn' := hn'H.out
        have hmn : cs.length = min n' 64 := hcs2
        have hlen : (l.drop (64 * (i + 1))).length = n' - cs.length := by rw [List.length_drop] at hn' ⊢; omega
        have hdrop : (l.drop (64 * i)).drop cs.length = l.drop (64 * (i + 1)) := by
          rw [List.drop_drop]
          by_cases h64 : 64 ≤ n'
          · rw [show cs.length = 64 by omega, Nat.mul_succ]
          · rw [List.drop_eq_nil_of_le (by rw [List.length_drop] at hn'; omega), List.drop_eq_nil_of_le (by rw [List.length_drop] at hn'; omega)]
        have hFi := hFiH.out
        have hsec := hsecH.out
        refine ⟨⟨i + 1, a2, n' - cs.length, c' - cs.length, F3, by omega, by simp; omega, rfl, hlen, hok2, by rw [← hdrop]; exact hby2, ?_, ?_, ?_⟩, ?_⟩
        · have e : ({ Di with pend := Di.pend ++ [x] } : Disk) = { D.tick with pend := D.pend ++ Disk.writesOf at_ l (i + 1) } := by
            rw [hDie, hx, hsec]
            simp [Disk.writesOf, List.range_succ]
          rw [← e]; exact hD3
        · exact hoW2.trans ho3 (fun j hj hjf => by rcases hFi j hjf with h | h; exact h; omega)
        · intro k hk
          have := hoiH.out.size
          rcases hF3 k hk with h | h
          · exact hFi k h
          · exact .inr (by omega)
        · simp only [intOf]
          omega
    · obtain rfl : i = Disk.nsec l := by omega
      have hn0 : n' = 0 := by rw [← hn']; simp [Disk.nsec]; omega
      subst hn0
      have hDi := Lib.hid hDi
      have hoi := Lib.hid hoi
      have hFi := Lib.hid hFi
      clear hn' hok' hby'
      go_wp2_with fail
      go_ret
      exact ⟨rfl, Fi, hDi.out, hoi.out, hFi.out⟩
end Go.Proofs.Ytkannfkjnohdlaa
/- the disk's iterator over its pending writes -/
namespace Go.Proofs.Ytkannfkjnohdlaa
open Go.RowKit Go.Pm

theorem run_index {P : Program} {t e : TypeId} {g off n c k size : Nat} {w : World} (ht : P.underlying t = some (.slice (P.elem t))) (hs : (sizeOf (P.elem t)).run P w = .ok size w) (hk : k < n) :
    (Instr.indexAt t (.slice (some ⟨g, off, none⟩) n c) (.int .i64 (k : Int))).run P w = .ok (.pointer (some ⟨g, off + k * size, none⟩)) w := by
  rw [run_indexAt_slice (h := ht), if_pos (by omega), hs]
  have : (⟨g, off, none⟩ : Addr).add (k * size) = ⟨g, off + k * size, none⟩ := by unfold Addr.add; split <;> simp_all
  simp [Result.andThen, this]

theorem pendCells_split (l : List (Nat × List UInt8)) (k : Nat) (hk : k < l.length) : pendCells l = pendCells (l.take k) ++ wrCells l[k] ++ pendCells (l.drop (k + 1)) := by
  have : l = l.take k ++ [l[k]] ++ l.drop (k + 1) := by simp
  conv => lhs; rw [this]
  simp only [pendCells, List.map_append, List.flatten_append, List.map_cons, List.map_nil, List.flatten_cons, List.flatten_nil, List.append_nil]
theorem pendCells_length {l : List (Nat × List UInt8)} (h : ∀ p ∈ l, p.2.length = 64) : (pendCells l).length = l.length * 65 := by
  induction l with
  | nil => rfl
  | cons p l ih =>
    have h1 := h p (by simp)
    have h2 := ih (fun q hq => h q (by simp [hq]))
    simp only [pendCells, List.map_cons, List.flatten_cons, List.length_append, List.length_cons] at h2 ⊢
    rw [h2]
    simp [wrCells, h1]
    omega

/-- a pending write and its number -/
abbrev PendEl (D : Disk) := { x : Nat × (Nat × List UInt8) // D.pend[x.1]? = some x.2 }
def pendEnc {D : Disk} (x : PendEl D) : Array Value := #[.int .i64 (x.1.1 : Int), .agg (wrCells x.1.2).toArray]
def numbered (D : Disk) : List (Nat × (Nat × List UInt8)) := D.pend.zipIdx.map (fun p => (p.2, p.1))
theorem numbered_length (D : Disk) : (numbered D).length = D.pend.length := by simp [numbered]
theorem numbered_get (D : Disk) (k : Nat) (hk : k < D.pend.length) : (numbered D)[k]? = some (k, D.pend[k]) := by
  simp [numbered, hk]
/-- what a round keeps: the block of the pending writes -/
def pendKept (vp : Value) (W W' : World) : Prop := W.heap.size ≤ W'.heap.size ∧ ∀ g, vp.ownBlock = some g → W'.heap[g]? = W.heap[g]?
theorem pendKept.tr {vp : Value} {A B C : World} (h : pendKept vp A B) (k : pendKept vp B C) : pendKept vp A C := ⟨Nat.le_trans h.1 k.1, fun g hg => (k.2 g hg).trans (h.2 g hg)⟩
theorem pendKept_owns {vp : Value} {W W' : World} {e : TypeId} {size n : Nat} {xs : List Value} (h : W.ownsRow 0 e size vp n xs) (k : pendKept vp W W') : W'.ownsRow 0 e size vp n xs := by
  refine ⟨h.1, ?_⟩
  rcases h.2 with h4 | ⟨g, cap, cur, rfl, hb, hg, h5⟩
  · exact .inl h4
  · exact .inr ⟨g, cap, cur, rfl, hb, (k.2 g rfl).trans hg, h5⟩
set_option maxRecDepth 100000 in
theorem sizeW (w : World) : (sizeOf (Try.prog.elem 85)).run Try.prog w = .ok 65 w := by kernel_rfl
theorem naD (w : World) : (isAgg 36).run Try.prog w = .ok false w := by kernel_rfl
set_option maxRecDepth 100000 in
/-- a pending write, where it lies -/
theorem pendLoad {w : World} {D : Disk} (hok : D.Ok) {vp : Value} (h : w.ownsRow 0 92 65 vp D.pend.length (pendCells D.pend)) (k : Nat) (hk : k < D.pend.length) :
    ∃ ad, (Instr.indexAt 85 vp (.int .i64 (k : Int))).run Try.prog w = .ok (.pointer (some ad)) w ∧ (Instr.loadAt 92 (.pointer (some ad))).run Try.prog w = .ok (.agg (wrCells D.pend[k]).toArray) w := by
  rcases h.2 with ⟨_, h0⟩ | ⟨g, cap, cur, rfl, _, hg, hnc, _, hcs, htake⟩
  · omega
  · refine ⟨_, run_index (e := 92) Try.underlying85 (sizeW w) hk, ?_⟩
    have hb : Blk w g (pendCells (D.pend.take k) ++ wrCells D.pend[k] ++ (pendCells (D.pend.drop (k + 1)) ++ cur.toList.drop (D.pend.length * 65))) 92 := by
      rw [← List.append_assoc, ← pendCells_split D.pend k hk, ← htake, List.take_append_drop]
      exact hg
    have hl : (wrCells D.pend[k]).length = 65 := by simp [wrCells, (hok.pend _ (List.getElem_mem hk)).2]
    refine run_load_mid (by rw [hl]; exact wideW) hb ?_
    rw [pendCells_length (fun p hp => (hok.pend p (List.mem_of_mem_take hp)).2), List.length_take, Nat.min_eq_left (Nat.le_of_lt hk)]
    omega
theorem wrCells_len {D : Disk} (hok : D.Ok) (k : Nat) (hk : k < D.pend.length) : (wrCells D.pend[k]).length = 65 := by simp [wrCells, (hok.pend _ (List.getElem_mem hk)).2]
/-- a variable for a write: laid, then filled -/
theorem storeNewW (w : World) (L : List Value) (hL : L.length = 65) (h1 : ∀ v ∈ L, v.oneCell' = true) :
    (Instr.storeAt 92 (.pointer (some ⟨w.heap.size, 0, none⟩)) (.agg L.toArray)).run Try.prog (w.alloc (.cells (.int .i64 0 :: z64).toArray 92)) = .ok () (w.alloc (.cells L.toArray 92)) := by
  have hst := run_store_mid (P := Try.prog) (t := 92) (b := w.heap.size) (off := 0) (pre := []) (mid := .int .i64 0 :: z64) (post := []) (new := L) (w := w.alloc (.cells (.int .i64 0 :: z64).toArray 92)) (e := 92)
    (by rw [hL]; exact wideW.size) (by simpa using blk_new w (.int .i64 0 :: z64) 92) rfl (by rw [hL, List.length_cons, z64_len]) h1
  have : setBlk (w.alloc (.cells (.int .i64 0 :: z64).toArray 92)) w.heap.size ([] ++ L ++ []) = w.alloc (.cells L.toArray 92) := by
    unfold setBlk
    rw [World.setRow_alloc_new]
    simp
  rw [this] at hst
  exact hst
theorem loadNewW (w : World) (L : List Value) (hL : L.length = 65) : (Instr.loadAt 92 (.pointer (some ⟨w.heap.size, 0, none⟩))).run Try.prog (w.alloc (.cells L.toArray 92)) = .ok (.agg L.toArray) (w.alloc (.cells L.toArray 92)) :=
  run_load_mid (pre := []) (post := []) (mid := L) (by rw [hL]; exact wideW) (by simpa using blk_new w L 92) rfl
theorem pendSlice {w : World} {e : TypeId} {size : Nat} {vp : Value} {n : Nat} {xs : List Value} (h : w.ownsRow 0 e size vp n xs) : ∃ ad c, vp = .slice ad n c := by
  rcases h.2 with ⟨rfl, rfl⟩ | ⟨g, cap, cur, rfl, _⟩
  · exact ⟨_, _, rfl⟩
  · exact ⟨_, _, rfl⟩
set_option maxRecDepth 100000 in
set_option maxHeartbeats 1000000 in
theorem diskWrites (w : World) (ad : Option Addr) :
    Calls Try.prog 46 #[.pointer ad] w fun e w' => e = .returned (.func (.func 57) #[] #[.pointer (some ⟨w.heap.size, 0, none⟩)]) ∧ w' = w.alloc (.cells #[.pointer ad] 36) := by
  go_enter Try.func46, Try.ntmps46
  go_wp2_with fail
  go_ret
  exact ⟨rfl, rfl⟩

set_option maxRecDepth 100000 in
set_option maxHeartbeats 400000 in
theorem diskIter (w : World) (p : Nat) (D : Disk) (F : List Nat) (gd : Nat) (vp : Value) (hD : DiskParts w p D F gd vp) (B m : Nat) (hB : w.cell? ⟨B, 0, none⟩ = some (.pointer (some ⟨p, 0, none⟩))) (hBl : B < w.heap.size) (hlen : D.pend.length ≤ 2000000000) :
    SeqStopsK Fence.wide m Try.prog 57 #[.pointer (some ⟨B, 0, none⟩)] pendEnc (pendKept vp) (fun xs : List (PendEl D) => xs.map (·.1) = numbered D) (fun _ => True) D.pend.length w := by
  intro l J Jx W hW hJ hJx hY h0
  have hsame : ∀ k, k < w.heap.size → W.heap[k]? = w.heap[k]? := hW.block
  have hcB : W.cell? ⟨B, 0, none⟩ = some (.pointer (some ⟨p, 0, none⟩)) := (World.cell?_of_block (hsame B hBl)).trans hB
  have hcp : W.cell? ⟨p, 0 + 1, none⟩ = some vp := by
    have : Blk W p _ 87 := (hsame p hD.blk.lt).trans hD.blk
    rw [this.cell]; rfl
  have hrow : W.ownsRow 0 92 65 vp D.pend.length (pendCells D.pend) := ownsRow_ext hD.pend hW
  obtain ⟨vad, vc, hvp⟩ := pendSlice hrow
  have hok := hD.ok
  refine callsIn_of_wp Try.func57 rfl trivial ?_ rfl
  simp only [Try.ntmps57, List.size_toArray, List.length_cons, List.length_nil, Nat.reduceAdd, Nat.reduceSub, Array.replicate_succ, Array.replicate_zero, List.push_toArray, List.append_toArray, List.nil_append, List.cons_append]
  (repeat ((fail_if_success refine wpIn_region_lit ?_); (fail_if_success refine wpIn_cond (t := true) ?_ ?_); gi_step))
  refine wpIn_region_lit ?_
  refine wpi_ex (fun _ => trivial) rfl rfl (ex_load rfl rfl (run_load1 naD hcB)) ?_
  refine wpi_ex (fun _ => trivial) rfl rfl (ex_nil rfl rfl) ?_
  refine wpi_ex (fun _ => trivial) rfl rfl (ex_field rfl rfl (faD1 _ _ _)) ?_
  refine wpi_ex (fun _ => trivial) rfl rfl (ex_load rfl rfl (run_load1 naP hcp)) ?_
  refine wpi_ex (fun _ => trivial) rfl rfl (ex_len Try.underlying85 rfl hvp) ?_
  refine wpi_ex (fun _ => trivial) rfl rfl (ex_move (v := .int .i64 0) rfl rfl) ?_
  refine wpListIn_nil ?_
  simp only [Act.put, List.setIfInBounds_toArray, List.set_cons_succ, List.set_cons_zero]
  (repeat ((fail_if_success refine wpIn_region_lit ?_); (fail_if_success refine wpIn_cond (t := true) ?_ ?_); gi_step))
  gi_loopw [10] (fun x wr => ∃ (k : Nat) (pre : List (PendEl D)), x = .int .i64 (k : Int) ∧ k ≤ D.pend.length ∧ pre.map (·.1) = (numbered D).take k ∧ J pre wr ∧ pendKept vp W wr) (fun x _ => D.pend.length - (intOf x).toNat)
  case atStart => exact ⟨0, [], rfl, by omega, by simp, h0, Nat.le_refl _, fun _ _ => rfl⟩
  case round =>
    obtain ⟨k, pre, rfl, hk, hpre, hJk, hkept⟩ := hrel
    have hpl : pre.length = k := by
      have := congrArg List.length hpre
      rw [List.length_map, List.length_take, numbered_length] at this
      omega
    by_cases hlt : k < D.pend.length
    · (repeat ((fail_if_success refine wpIn_region_lit ?_); (fail_if_success refine wpIn_cond (t := true) ?_ ?_); gi_step))
      refine wpIn_region_lit ?_
      refine wpi_ex (fun _ => trivial) rfl rfl (ex_bin (v := .bool true) rfl rfl rfl (by simp [go_sem]) (by simp [go_sem, hlt])) ?_
      refine wpListIn_nil ?_
      simp only [Act.put, List.setIfInBounds_toArray, List.set_cons_succ, List.set_cons_zero]
      (repeat ((fail_if_success refine wpIn_region_lit ?_); (fail_if_success refine wpIn_cond (t := true) ?_ ?_); gi_step))
      refine wpIn_cond_true rfl ?_
      (repeat ((fail_if_success refine wpIn_region_lit ?_); (fail_if_success refine wpIn_cond (t := true) ?_ ?_); gi_step))
      obtain ⟨ad, hidx, hld⟩ := pendLoad hok (pendKept_owns hrow hkept) k hlt
      have hwl := wrCells_len hok k hlt
      have hw1 := wrCells_one D.pend[k]
      have hx : D.pend[k]? = some D.pend[k] := List.getElem?_eq_getElem hlt
      have hnum : (numbered D)[k]? = some (k, D.pend[k]) := numbered_get D k hlt
      generalize D.pend[k] = x at *
      refine wpIn_region_lit ?_
      refine wpi_ex (fun _ => trivial) rfl rfl (ex_move (v := .int .i64 (k : Int)) rfl rfl) ?_
      refine wpi_ex (fun _ => trivial) rfl rfl (ex_index rfl rfl rfl hidx) ?_
      refine wpi_ex (fun _ => trivial) rfl rfl (ex_load rfl rfl hld) ?_
      refine wpi_ex (fun _ => trivial) rfl rfl (ex_alloc rfl (allocW _)) ?_
      refine wpi_ex (fun _ => trivial) rfl rfl (ex_assign (v := .int .i64 (k : Int)) rfl rfl) ?_
      refine wpi_exU (fun _ => trivial) rfl rfl (ex_store rfl rfl rfl (storeNewW wr (wrCells x) hwl hw1)) ?_
      refine wpListIn_nil ?_
      simp only [Act.put, List.setIfInBounds_toArray, List.set_cons_succ, List.set_cons_zero]
      (repeat ((fail_if_success refine wpIn_region_lit ?_); (fail_if_success refine wpIn_cond (t := true) ?_ ?_); gi_step))
      have hJ1 : J pre (wr.alloc (.cells (wrCells x).toArray 92)) := hJ pre wr _ none hJk (World.grownBy_alloc wr _ none) (fun r e => by cases e)
      have hk1 : pendKept vp W (wr.alloc (.cells (wrCells x).toArray 92)) := hkept.tr ⟨by simp, fun g hg => heap_old wr _ g (by
        rcases hrow.2 with ⟨rfl, _⟩ | ⟨g', cap, cur, rfl, _, hg', _⟩
        · cases hg
        · cases hg
          exact Nat.lt_of_lt_of_le (Array.getElem?_eq_some_iff.1 hg').1 hkept.1)⟩
      have hyl := hY pre ⟨(k, x), hx⟩ _ hJ1 (by omega)
      refine wpIn_region_lit ?_
      refine wpi_ex (fun _ => trivial) rfl rfl (ex_move (v := .func (.yield l) #[] #[]) rfl rfl) ?_
      refine wpi_ex (fun _ => trivial) rfl rfl (ex_move (v := .int .i64 (k : Int)) rfl rfl) ?_
      refine wpi_ex (fun _ => trivial) rfl rfl (ex_load rfl rfl (loadNewW wr (wrCells x) hwl)) ?_
      refine wpi_yield (args := #[.int .i64 (k : Int), .agg (wrCells x).toArray]) (fun _ => trivial) rfl rfl rfl rfl (by simp only [List.map_toArray, List.map_cons, List.map_nil]; rfl) hyl ?_
      rintro e W3 (⟨rfl, hJ3, hk3⟩ | ⟨rfl, hJx3⟩)
      · refine ⟨_, rfl, ?_⟩
        refine wpi_ex (fun _ => trivial) rfl rfl (ex_un (v := .bool false) rfl rfl (by simp [go_sem])) ?_
        refine wpListIn_nil ?_
        simp only [Act.put, List.setIfInBounds_toArray, List.set_cons_succ, List.set_cons_zero]
        (repeat ((fail_if_success refine wpIn_region_lit ?_); (fail_if_success refine wpIn_cond (t := true) ?_ ?_); gi_step))
        refine wpIn_cond_false rfl ?_
        (repeat ((fail_if_success refine wpIn_region_lit ?_); (fail_if_success refine wpIn_cond (t := true) ?_ ?_); gi_step))
        refine wpIn_region_lit ?_
        refine wpi_ex (fun _ => trivial) rfl rfl (ex_bin (v := .int .i64 ((k : Int) + 1)) rfl rfl rfl (by simp [go_sem]) (by simp [go_sem, IntKind.wrap_i64]; omega)) ?_
        refine wpi_ex (fun _ => trivial) rfl rfl (ex_move (v := .int .i64 ((k : Int) + 1)) rfl rfl) ?_
        refine wpListIn_nil ?_
        simp only [Act.put, List.setIfInBounds_toArray, List.set_cons_succ, List.set_cons_zero]
        (repeat ((fail_if_success refine wpIn_region_lit ?_); (fail_if_success refine wpIn_cond (t := true) ?_ ?_); gi_step))
        go_roundw
        case rel => exact ⟨k + 1, pre ++ [⟨(k, x), hx⟩], by simp, hlt, by rw [List.map_append, hpre, List.take_add_one, hnum]; rfl, hJ3, hk1.tr hk3⟩
        case measure => show D.pend.length - ((k : Int) + 1).toNat < D.pend.length - (k : Int).toNat; omega
      · refine ⟨_, rfl, ?_⟩
        refine wpi_ex (fun _ => trivial) rfl rfl (ex_un (v := .bool true) rfl rfl (by simp [go_sem])) ?_
        refine wpListIn_nil ?_
        simp only [Act.put, List.setIfInBounds_toArray, List.set_cons_succ, List.set_cons_zero]
        (repeat ((fail_if_success refine wpIn_region_lit ?_); (fail_if_success refine wpIn_cond (t := true) ?_ ?_); gi_step))
        refine wpIn_cond_true rfl ?_
        (repeat ((fail_if_success refine wpIn_region_lit ?_); (fail_if_success refine wpIn_cond (t := true) ?_ ?_); gi_step))
        refine bodyPost_ret (results_none rfl _ _ _) rfl ?_
        exact ⟨⟨_, rfl⟩, .inr ⟨_, trivial, hJx3⟩⟩
    · obtain rfl : k = D.pend.length := by omega
      (repeat ((fail_if_success refine wpIn_region_lit ?_); (fail_if_success refine wpIn_cond (t := true) ?_ ?_); gi_step))
      refine wpIn_region_lit ?_
      refine wpi_ex (fun _ => trivial) rfl rfl (ex_bin (v := .bool false) rfl rfl rfl (by simp [go_sem]) (by simp [go_sem])) ?_
      refine wpListIn_nil ?_
      simp only [Act.put, List.setIfInBounds_toArray, List.set_cons_succ, List.set_cons_zero]
      (repeat ((fail_if_success refine wpIn_region_lit ?_); (fail_if_success refine wpIn_cond (t := true) ?_ ?_); gi_step))
      refine wpIn_cond_false rfl ?_
      (repeat ((fail_if_success refine wpIn_region_lit ?_); (fail_if_success refine wpIn_cond (t := true) ?_ ?_); gi_step))
      go_end0
      exact ⟨⟨_, rfl⟩, .inl ⟨pre, by rw [hpre, List.take_of_length_le (by rw [numbered_length]; exact Nat.le_refl _)], hJk⟩⟩
end Go.Proofs.Ytkannfkjnohdlaa
/- disk.Sync -/
namespace Go.Proofs.Ytkannfkjnohdlaa
open Go.RowKit Go.Pm

theorem callWrites : Callable Try.prog 46 := ⟨_, Try.func46, by kernel_rfl, by kernel_rfl⟩
theorem callCall : Callable Try.prog 45 := ⟨_, Try.func45, by kernel_rfl, by kernel_rfl⟩
set_option maxRecDepth 100000 in
theorem sizeS (w : World) : (sizeOf (Try.prog.elem 84)).run Try.prog w = .ok 64 w := by kernel_rfl
theorem durCells_split (l : List (List UInt8)) (k : Nat) (hk : k < l.length) : durCells l = durCells (l.take k) ++ l[k].map B8 ++ durCells (l.drop (k + 1)) := by
  have : l = l.take k ++ [l[k]] ++ l.drop (k + 1) := by simp
  conv => lhs; rw [this]
  simp only [durCells, List.map_append, List.flatten_append, List.map_cons, List.map_nil, List.flatten_cons, List.flatten_nil, List.append_nil]
theorem durCells_set (l : List (List UInt8)) (k : Nat) (hk : k < l.length) (s : List UInt8) : durCells (l.set k s) = durCells (l.take k) ++ s.map B8 ++ durCells (l.drop (k + 1)) := by
  rw [durCells_split (l.set k s) k (by simpa using hk)]
  rw [List.take_set, List.set_eq_of_length_le (by simp; omega)]
  simp [List.drop_set]
theorem durCells_length {l : List (List UInt8)} (h : ∀ p ∈ l, p.length = 64) : (durCells l).length = l.length * 64 := by
  induction l with
  | nil => rfl
  | cons p l ih =>
    have h1 := h p (by simp)
    have h2 := ih (fun q hq => h q (by simp [hq]))
    simp only [durCells, List.map_cons, List.flatten_cons, List.length_append, List.length_cons] at h2 ⊢
    rw [h2]
    simp [h1]
    omega
theorem storeSec {w : World} {gd : Nat} {d : List (List UInt8)} (hb : Blk w gd (durCells d) 90) (hd : ∀ s ∈ d, s.length = 64) (k : Nat) (hk : k < d.length) (s : List UInt8) (hs : s.length = 64) :
    (Instr.storeAt 90 (.pointer (some ⟨gd, 0 + k * 64, none⟩)) (.agg (s.map B8).toArray)).run Try.prog w = .ok () (setBlk w gd (durCells (d.set k s))) := by
  rw [durCells_split d k hk] at hb
  rw [durCells_set d k hk s]
  refine run_store_mid (by rw [List.length_map, hs]; exact wideS.size) hb ?_ (by simp [hs, hd _ (List.getElem_mem hk)]) (oneCell_bytes s)
  rw [durCells_length (fun s hs => hd s (List.mem_of_mem_take hs)), List.length_take, Nat.min_eq_left (Nat.le_of_lt hk)]
  omega
/-- while a sector is put -/
def PutJ (W : World) (gd : Nat) (d : List (List UInt8)) (x : Nat × List UInt8) : List Value → World → Prop
  | [], w => Ext W w
  | _, w => Only [gd] W w ∧ Blk w gd (durCells (Disk.put d x)) 90
theorem putJ_ext {W : World} {gd : Nat} {d : List (List UInt8)} {x : Nat × List UInt8} : ∀ vals w w', PutJ W gd d x vals w → Ext w w' → PutJ W gd d x vals w'
  | [], _, _, h, he => h.tr he
  | _ :: _, _, _, ⟨h1, h2⟩, he => ⟨only_then h1 he, h2.ext he⟩
/-- a disk's post -/
def DiskTo (F : List Nat) (w w' : World) (p : Nat) (D : Disk) : Prop := ∃ F', DiskAt w' p D F' ∧ Only F w w' ∧ ∀ k ∈ F', k ∈ F ∨ w.heap.size ≤ k

theorem DiskParts.same {w w' : World} {p : Nat} {D : Disk} {F : List Nat} {gd : Nat} {vp : Value} (h : DiskParts w p D F gd vp) (hs : ∀ k ∈ F, w'.heap[k]? = w.heap[k]?) : DiskParts w' p D F gd vp := by
  have hF := h.eqF
  refine ⟨h.ok, hF, h.nd, (hs p (by simp [hF])).trans h.blk, (hs gd (by simp [hF])).trans h.dur, h.pend.1, ?_⟩
  rcases h.pend.2 with h4 | ⟨g, cap, cur, e, hb, hg, h5⟩
  · exact .inl h4
  · exact .inr ⟨g, cap, cur, e, hb, (hs g (by simp [hF, e, Value.ownBlock])).trans hg, h5⟩
theorem DiskParts.ne {w : World} {p : Nat} {D : Disk} {F : List Nat} {gd : Nat} {vp : Value} (h : DiskParts w p D F gd vp) : p ≠ gd ∧ (∀ g, vp.ownBlock = some g → g ≠ p ∧ g ≠ gd) ∧ p ∈ F ∧ gd ∈ F ∧ ∀ g, vp.ownBlock = some g → g ∈ F := by
  have hnd := h.nd
  have hF := h.eqF
  subst hF
  simp only [List.nodup_cons, List.mem_cons, Option.mem_toList, not_or] at hnd
  exact ⟨hnd.1.1, fun g hg => ⟨fun e => hnd.1.2 (e ▸ hg), fun e => hnd.2.1 (e ▸ hg)⟩, by simp, by simp, fun g hg => by simp [hg]⟩
/-- a sector put: the disk's parts -/
theorem DiskParts.put {W w : World} {p : Nat} {D : Disk} {F : List Nat} {gd : Nat} {vp : Value} (h : DiskParts W p D F gd vp) {x : Nat × List UInt8} (hx : x.2.length = 64) (ho : Only [gd] W w) (hb : Blk w gd (durCells (Disk.put D.dur x)) 90) : DiskParts w p { D with dur := Disk.put D.dur x } F gd vp := by
  obtain ⟨n1, n2, _, _, _⟩ := h.ne
  have hl : (Disk.put D.dur x).length = D.dur.length := by simp [Disk.put]
  refine ⟨⟨?_, ?_, ?_, ?_, h.ok.left1, h.ok.left2⟩, h.eqF, h.nd, ?_, hb, ownsRow_only h.pend ho (fun g hg => by simpa using (n2 g hg).2)⟩
  · intro s hs
    rcases List.mem_or_eq_of_mem_set hs with h1 | h1
    · exact h.ok.dur s h1
    · rw [h1]; exact hx
  · simp only [hl]; exact h.ok.pos
  · simp only [hl]; exact h.ok.max
  · simp only [hl]; exact h.ok.pend
  · simp only [hl]; exact h.blk.only ho (by simpa using n1)
/-- pending writes forgotten -/
theorem clearPend {W : World} {p : Nat} {D : Disk} {F : List Nat} {gd : Nat} {vp : Value} (h : DiskParts W p D F gd vp) :
    (Instr.storeAt 85 (.pointer (some ⟨p, 0 + 1, none⟩)) (.slice none 0 0)).run Try.prog W = .ok () (setBlk W p [.slice (some ⟨gd, 0, none⟩) D.dur.length D.dur.length, .slice none 0 0, .int .i64 D.left]) ∧
    DiskParts (setBlk W p [.slice (some ⟨gd, 0, none⟩) D.dur.length D.dur.length, .slice none 0 0, .int .i64 D.left]) p { D with pend := [] } [p, gd] gd (.slice none 0 0) := by
  obtain ⟨n1, n2, _, _, _⟩ := h.ne
  refine ⟨?_, ⟨h.ok.dur, h.ok.pos, h.ok.max, fun q hq => by simp at hq, h.ok.left1, h.ok.left2⟩, rfl, by simpa using n1, h.blk.set _, h.dur.setOther (fun e => n1 e.symm) _, World.ownsRow_nil _ _ _ _⟩
  have hst := run_storeCells_at Try.prog p 1 87 [.slice none 0 0] 0 _ W h.blk (by simp) (by simp [Value.oneCell'])
  have hz : (sizeOf 85).run Try.prog W = .ok 1 W := by kernel_rfl
  simp only [Instr.storeAt, Instr.sureAddr, storeVar]
  simp [hz, Value.cells]
  simpa using hst
theorem _root_.Go.Pm.Only.putObj {F : List Nat} {a w : World} (h : Only F a w) {b : Nat} (hb : a.heap.size ≤ b) (o : Obj) : Only F a (w.putObj b o) :=
  ⟨h.os, h.tape, h.output, by simpa using h.size, fun k hk hn => (World.putObj_heap_other (by omega)).trans (h.block k hk hn)⟩
theorem numbered_snd (D : Disk) : (numbered D).map (·.2) = D.pend := by
  unfold numbered
  rw [List.map_map]
  exact List.zipIdx_map_fst 0 D.pend
/-- a write's cells, read -/
theorem loadW0 {w : World} {b : Nat} {x : Nat × List UInt8} (h : Blk w b (wrCells x) 92) : (Instr.loadAt 3 (.pointer (some ⟨b, 0, none⟩))).run Try.prog w = .ok (.int .i64 (x.1 : Int)) w :=
  run_load1 naI (h.cell 0)
theorem loadW1 {w : World} {b : Nat} {x : Nat × List UInt8} (hx : x.2.length = 64) (h : Blk w b (wrCells x) 92) : (Instr.loadAt 90 (.pointer (some ⟨b, 0 + 1, none⟩))).run Try.prog w = .ok (.agg (x.2.map B8).toArray) w :=
  run_load_mid (pre := [.int .i64 (x.1 : Int)]) (post := []) (mid := x.2.map B8) (by rw [List.length_map, hx]; exact wideS) (by simpa [wrCells] using h) rfl
theorem pendEl_len {D : Disk} (hok : D.Ok) (x : PendEl D) : x.1.2.1 < D.dur.length ∧ x.1.2.2.length = 64 := hok.pend _ (List.mem_of_getElem? x.2)

set_option maxRecDepth 100000 in
set_option maxHeartbeats 1000000 in
theorem diskSyncOff (w : World) (p : Nat) (D : Disk) (F : List Nat) (hD : DiskAt w p D F) (hl : D.left = 0) :
    Calls Try.prog 24 #[.pointer (some ⟨p, 0, none⟩)] w fun e w' => e = .returned (.int .i64 20) ∧ DiskTo F w w' p D := by
  have hD1 := Lib.hid (hD.ext ((Below.refl w.heap.size w).alloc (Nat.le_refl _) (.cells #[.pointer (some ⟨p, 0, none⟩)] 36)))
  have ht : Hid (D.tick = D) := by show D.tick = D; unfold Disk.tick; rw [if_neg (by omega)]
  have hb : Hid ((D.left != 0) = false) := by show (D.left != 0) = false; simp [hl]
  clear hD hl
  go_enter Try.func24, Try.ntmps24
  go_wp2_with fail
  refine (diskCall _ p D F hD1.out).mono ?_
  rintro e w1 ⟨rfl, hD2, ho1⟩
  rw [hb.out]
  rw [ht.out] at hD2
  have hD2 := Lib.hid hD2
  have ho1 := Lib.hid ho1
  go_wp2_with fail
  go_ret
  exact ⟨rfl, F, hD2.out, (Only.refl F w).alloc (.cells #[.pointer (some ⟨p, 0, none⟩)] 36) |>.trans ho1.out (fun i _ h => h), fun k hk => .inl hk⟩

set_option maxRecDepth 100000 in
set_option maxHeartbeats 1000000 in
theorem diskSyncOk (w : World) (p : Nat) (D : Disk) (F : List Nat) (hD : DiskAt w p D F) (hl : D.left ≠ 0) (hpl : D.pend.length ≤ 2000000000) :
    Calls Try.prog 24 #[.pointer (some ⟨p, 0, none⟩)] w fun e w' => e = .returned (.int .i64 0) ∧ DiskTo F w w' p D.sync := by
  refine (callsIn_wide (n := 5)).1 ?_
  refine callsIn_of_wp_marks Try.func24 rfl trivial ?_ rfl
  simp only [Try.ntmps24, List.size_toArray, List.length_cons, List.length_nil, Nat.reduceAdd, Nat.reduceSub, Array.replicate_succ, Array.replicate_zero, List.push_toArray, List.append_toArray, List.nil_append, List.cons_append]
  (repeat ((fail_if_success refine wpIn_region_lit ?_); (fail_if_success refine wpIn_cond (t := true) ?_ ?_); gi_step))
  refine wpIn_region_lit ?_
  refine wpi_ex (v := .pointer (some ⟨w.heap.size, 0, none⟩)) (w' := w.alloc (.cells #[.pointer (some ⟨p, 0, none⟩)] 36)) (fun _ => trivial) rfl rfl (ex_box (p := .pointer (some ⟨p, 0, none⟩)) rfl rfl (by kernel_rfl)) ?_
  refine wpi_ex (fun _ => trivial) rfl rfl (ex_assign (v := .int .i64 0) rfl rfl) ?_
  refine wpListIn_nil ?_
  simp only [Act.put, List.setIfInBounds_toArray, List.set_cons_succ, List.set_cons_zero]
  (repeat ((fail_if_success refine wpIn_region_lit ?_); (fail_if_success refine wpIn_cond (t := true) ?_ ?_); gi_step))
  have hbox : Blk (w.alloc (.cells #[.pointer (some ⟨p, 0, none⟩)] 36)) w.heap.size [.pointer (some ⟨p, 0, none⟩)] 36 := blk_new _ _ _
  have hD1 := hD.ext ((Below.refl w.heap.size w).alloc (Nat.le_refl _) (.cells #[.pointer (some ⟨p, 0, none⟩)] 36))
  have ho1 : Only F w (w.alloc (.cells #[.pointer (some ⟨p, 0, none⟩)] 36)) := (Only.refl F w).alloc _
  have hFl := hD.lt
  generalize w.alloc (.cells #[.pointer (some ⟨p, 0, none⟩)] 36) = w1 at *
  refine wpIn_region_lit ?_
  refine wpi_ex (v := .pointer (some ⟨p, 0, none⟩)) (fun _ => trivial) rfl rfl (ex_load rfl rfl (run_load1 naD (hbox.cell 0))) ?_
  refine wpi_call callCall (fun _ => trivial) wideC rfl rfl rfl (args := #[.pointer (some ⟨p, 0, none⟩)]) (by simp only [List.map_toArray, List.map_cons, List.map_nil]; rfl) ((diskCall w1 p D F hD1).mono ?_)
  rintro e w2 ⟨rfl, hD2, ho2⟩
  rw [show (D.left != 0) = true by simp [hl]]
  refine ⟨_, rfl, ?_⟩
  have hbox2 := hbox.only ho2 (fun hf => by have := hFl _ hf; omega)
  refine wpi_ex (fun _ => trivial) rfl rfl (ex_un (v := .bool false) rfl rfl (by simp [go_sem])) ?_
  refine wpListIn_nil ?_
  simp only [Act.put, List.setIfInBounds_toArray, List.set_cons_succ, List.set_cons_zero]
  (repeat ((fail_if_success refine wpIn_region_lit ?_); (fail_if_success refine wpIn_cond (t := true) ?_ ?_); gi_step))
  refine wpIn_cond_false rfl ?_
  (repeat ((fail_if_success refine wpIn_region_lit ?_); (fail_if_success refine wpIn_cond (t := true) ?_ ?_); gi_step))
  refine wpIn_region_lit ?_
  refine wpi_ex (v := .pointer (some ⟨p, 0, none⟩)) (fun _ => trivial) rfl rfl (ex_load rfl rfl (run_load1 naD (hbox2.cell 0))) ?_
  refine wpi_call callWrites (fun _ => trivial) wideC rfl rfl rfl (args := #[.pointer (some ⟨p, 0, none⟩)]) (by simp only [List.map_toArray, List.map_cons, List.map_nil]; rfl) ((diskWrites w2 (some ⟨p, 0, none⟩)).mono ?_)
  rintro e w3 ⟨rfl, hw3⟩
  refine ⟨_, rfl, ?_⟩
  refine wpListIn_nil ?_
  simp only [Act.put, List.setIfInBounds_toArray, List.set_cons_succ, List.set_cons_zero]
  (repeat ((fail_if_success refine wpIn_region_lit ?_); (fail_if_success refine wpIn_cond (t := true) ?_ ?_); gi_step))
  obtain ⟨gd, vp, hP2⟩ := hD2.parts
  have he3 : Ext w2 w3 := by rw [hw3]; exact (Below.refl _ _).alloc (Nat.le_refl _) _
  have hP3 : DiskParts w3 p D.tick F gd vp := hP2.same (fun k hk => he3.block k (hD2.lt k hk))
  have hbox3 := hbox2.ext he3
  have hoB : Only F w w3 := only_then (ho1.trans ho2 (fun i _ h => h)) he3
  have hcB : w3.cell? ⟨w2.heap.size, 0, none⟩ = some (.pointer (some ⟨p, 0, none⟩)) := by
    have : Blk w3 w2.heap.size [.pointer (some ⟨p, 0, none⟩)] 36 := by rw [hw3]; exact blk_new _ _ _
    rw [this.cell]; rfl
  have hlt3 : w2.heap.size < w3.heap.size := by rw [hw3]; simp
  have hF3 : ∀ k ∈ F, k < w3.heap.size := fun k hk => by have := hFl k hk; have := hoB.size; omega
  have hb3 : w.heap.size < w3.heap.size := hbox3.lt
  have hokT := hP3.ok
  clear hw3 hD1 hbox hbox2 hD2 hP2 ho1 ho2 he3
  refine wpIn_rangeFunc_ownH rfl (by omega) (gf := 57) (lb := #[.pointer (some ⟨w2.heap.size, 0, none⟩)]) rfl trivial (enters_of Try.func57 (by kernel_rfl) rfl)
    (diskIter w3 p D.tick F gd vp hP3 w2.heap.size _ hcB hlt3 hpl) (fun h k => pendKept.tr h k)
    (fun W b o o' hb _ _ _ => ⟨by simp, fun g hg => World.putObj_heap_other (by have := hF3 g (hP3.ne.2.2.2.2 g hg); omega)⟩) (Below.refl _ _) (fun _ => rfl)
    (fun pre W => DiskParts W p { D.tick with dur := (pre.map (·.1.2)).foldl Disk.put D.dur } F gd vp ∧ Blk W w.heap.size [.pointer (some ⟨p, 0, none⟩)] 36 ∧ Only F w W ∧ w3.heap.size ≤ W.heap.size)
    (fun _ _ _ => False)
    (ownFrom_stable (fun s W W' ⟨h1, h2, h3, h4⟩ _ hb => ⟨h1.same (fun k hk => hb.block k (hF3 k hk)), (hb.block _ hb3).trans h2, h3.below_then (by omega) hb, Nat.le_trans h4 hb.size⟩) (fun s W h => h.2.2.2))
    (fun _ _ _ _ _ h _ _ => h)
    ⟨hP3, hbox3, hoB, Nat.le_refl _⟩
    (fun x a' W => ∃ Bx, w3.heap.size ≤ Bx ∧ Blk W Bx (wrCells x.1.2) 92 ∧ a' = { tmps := #[.pointer (some ⟨p, 0, none⟩), .pointer (some ⟨w.heap.size, 0, none⟩), .int .i64 0, undef, .pointer (some ⟨Bx, 0, none⟩), .pointer (some ⟨p, 0, none⟩), .bool true, .bool false, .pointer (some ⟨p, 0, none⟩),
      .func (.func 57) #[] #[.pointer (some ⟨w2.heap.size, 0, none⟩)], .int .i64 (x.1.1 : Int), .agg (wrCells x.1.2).toArray, undef, undef, undef, undef, undef, undef, undef, undef, undef, undef, undef, undef], defers := [] })
    (fun x a' s W W' row ⟨Bx, h1, h2, h3⟩ hg hr => ⟨Bx, h1, ownFrom_blk () W W' row h2 hg hr, h3⟩) ?assign ?body ?done ?stop
  case assign =>
    rintro l pre x W K ⟨hI1, hI2, hI3, hI4⟩ hK
    have hx := pendEl_len hokT x
    simp only [pendEnc, List.zip_toArray, List.zip_cons_cons, List.zip_nil_left, List.zip_nil_right, List.foldl_toArray', List.foldl_cons, List.foldl_nil, List.setIfInBounds_toArray, List.set_cons_succ, List.set_cons_zero]
    refine wpIn_region_lit ?_
    refine wpi_ex (fun _ => trivial) rfl rfl (ex_alloc rfl (allocW _)) ?_
    refine wpi_exU (fun _ => trivial) rfl rfl (ex_store rfl rfl rfl (storeNewW W (wrCells x.1.2) (by simp [wrCells, hx.2]) (wrCells_one _))) ?_
    refine wpListIn_nil ?_
    simp only [Act.put, List.setIfInBounds_toArray, List.set_cons_succ, List.set_cons_zero]
    have hE : Ext W (W.alloc (.cells (wrCells x.1.2).toArray 92)) := (Below.refl _ _).alloc (Nat.le_refl _) _
    refine hK _ _ ((Only.of_ext (F := []) hE).keepsFrom (by simp)) ⟨hE.size, fun g hg => hE.block g (by have := hF3 g (hP3.ne.2.2.2.2 g hg); omega)⟩ ⟨hI1.same (fun k hk => hE.block k (by have := hF3 k hk; omega)), hI2.ext hE, only_then hI3 hE, Nat.le_trans hI4 hE.size⟩ ⟨W.heap.size, hI4, blk_new _ _ _, rfl⟩
  case body =>
    rintro l pre x a' W - - ⟨hI1, hI2, hI3, hI4⟩ ⟨Bx, hBx, hbx, rfl⟩ -
    have hx := pendEl_len hokT x
    have hxl : x.1.2.1 < ((pre.map (·.1.2)).foldl Disk.put D.dur).length := by rw [Disk.foldl_put_length]; exact hx.1
    (repeat ((fail_if_success refine wpIn_region_lit ?_); (fail_if_success refine wpIn_cond (t := true) ?_ ?_); gi_step))
    obtain ⟨d, hd⟩ : ∃ d, d = (pre.map (·.1.2)).foldl Disk.put D.dur := ⟨_, rfl⟩
    have hd2 : ((pre ++ [x]).map (·.1.2)).foldl Disk.put D.dur = Disk.put d x.1.2 := by rw [hd]; simp
    rw [← hd] at hI1 hxl
    have hc0 : ∀ w, Ext W w → w.cell? ⟨p, 0, none⟩ = some (.slice (some ⟨gd, 0, none⟩) d.length d.length) := fun w he => by rw [(hI1.blk.ext he).cell]; rfl
    obtain ⟨q, hq⟩ : ∃ q, q = x.1.2 := ⟨_, rfl⟩
    rw [← hq] at hx hxl hbx hd2
    refine wpIn_region_chain mixed (fun ⟨_, _, h⟩ => h) [SP.eq (.pointer (some ⟨p, 0, none⟩)), SP.eq (.pointer (some ⟨p, 0, none⟩)), SP.eq (.pointer (some ⟨p, 0, none⟩)), SP.eq (.slice (some ⟨gd, 0, none⟩) d.length d.length),
      SP.eq (.pointer (some ⟨Bx, 0, none⟩)), SP.eq (.int .i64 (q.1 : Int)), SP.eq (.pointer (some ⟨Bx, 0 + 1, none⟩)), SP.eq (.agg (q.2.map B8).toArray), SP.eq (.pointer (some ⟨gd, 0 + q.1 * 64, none⟩)), SP.any] [9] (PutJ W gd d q) 24 rfl (by kernel_rfl) (by kernel_rfl) (Ext.rfl' _) putJ_ext ⟨?_, ?_, ?_, ?_, ?_, ?_, ?_, ?_, ?_, ?_, trivial⟩ ?_
    · intro a w vals hJ hR
      obtain rfl : vals = [] := List.eq_nil_of_length_eq_zero (Nat.le_zero.1 (hR.hi 9 (by simp) rfl))
      exact add_step rfl (Ex.adds' (ex_load rfl (hR.keep 1 rfl) (run_load1 naD ((hI2.ext hJ).cell 0))) rfl rfl)
    · exact fun a w vals hJ hR => add_step rfl (Ex.adds' (ex_nil rfl (hR.pred 0 12 rfl rfl rfl rfl)) rfl rfl)
    · exact fun a w vals hJ hR => add_step rfl (Ex.adds' (ex_field rfl (hR.pred 1 13 rfl rfl rfl rfl) (faD0 _ _ _)) rfl rfl)
    · intro a w vals hJ hR
      obtain rfl : vals = [] := List.eq_nil_of_length_eq_zero (Nat.le_zero.1 (hR.hi 9 (by simp) rfl))
      exact add_step rfl (Ex.adds' (ex_load rfl (hR.pred 2 14 rfl rfl rfl rfl) (run_load1 naS (hc0 w hJ))) rfl rfl)
    · exact fun a w vals hJ hR => add_step rfl (Ex.adds' (ex_field rfl (hR.keep 4 rfl) (faW0 _ _ _)) rfl rfl)
    · intro a w vals hJ hR
      obtain rfl : vals = [] := List.eq_nil_of_length_eq_zero (Nat.le_zero.1 (hR.hi 9 (by simp) rfl))
      exact add_step rfl (Ex.adds' (ex_load rfl (hR.pred 4 16 rfl rfl rfl rfl) (loadW0 (hbx.ext hJ))) rfl rfl)
    · exact fun a w vals hJ hR => add_step rfl (Ex.adds' (ex_field rfl (hR.keep 4 rfl) (faW1 _ _ _)) rfl rfl)
    · intro a w vals hJ hR
      obtain rfl : vals = [] := List.eq_nil_of_length_eq_zero (Nat.le_zero.1 (hR.hi 9 (by simp) rfl))
      exact add_step rfl (Ex.adds' (ex_load rfl (hR.pred 6 18 rfl rfl rfl rfl) (loadW1 hx.2 (hbx.ext hJ))) rfl rfl)
    · exact fun a w vals hJ hR => add_step rfl (Ex.adds' (ex_index rfl (hR.pred 3 15 rfl rfl rfl rfl) (hR.pred 5 17 rfl rfl rfl rfl) (run_index (e := 90) Try.underlying84 (sizeS w) hxl)) rfl rfl)
    · refine fun a w vals hJ hR => mem_step rfl fun hvl => ?_
      obtain rfl : vals = [] := List.eq_nil_of_length_eq_zero hvl
      exact ExU.mem (ex_store rfl (hR.pred 8 20 rfl rfl rfl rfl) (hR.pred 7 19 rfl rfl rfl rfl) (storeSec (hI1.dur.ext hJ) hI1.ok.dur q.1 hxl q.2 hx.2)) rfl ⟨(Only.of_ext hJ).setBlk (.inl (by simp)) _, (hI1.dur.ext hJ).set _⟩
    · intro vs w4 vals hlen hvl hJ hF
      obtain ⟨ho4, hb4⟩ : Only [gd] W w4 ∧ Blk w4 gd (durCells (Disk.put d q)) 90 := by
        match vals, hvl with
        | [v1], _ => exact hJ
      refine ⟨ho4.keepsFrom (fun k hk => by simp at hk; subst hk; exact hF3 _ hP3.ne.2.2.2.1), ⟨ho4.size, fun g hg => ho4.block g (by have := hF3 g (hP3.ne.2.2.2.2 g hg); omega) (by simpa using (hP3.ne.2.1 g hg).2)⟩, ?_, hI2.only ho4 (by simp; intro e; have := hFl gd hP3.ne.2.2.2.1; omega), hI3.trans ho4 (fun i _ hi => by simp at hi; subst hi; exact hP3.ne.2.2.2.1), Nat.le_trans hI4 ho4.size⟩
      rw [hd2]
      exact hI1.put hx.2 ho4 hb4
  case done =>
    rintro E xs W hE hS ⟨hI1, hI2, hI3, hI4⟩ hK
    have hdur : (xs.map (·.1.2)).foldl Disk.put D.dur = D.pend.foldl Disk.put D.dur := by
      have : xs.map (·.1.2) = D.pend := by
        have h1 := congrArg (List.map (·.2)) hS
        rw [numbered_snd, List.map_map] at h1
        exact h1
      rw [this]
    rw [hdur] at hI1
    obtain ⟨hst, hPf⟩ := clearPend hI1
    (repeat ((fail_if_success refine wpIn_region_lit ?_); (fail_if_success refine wpIn_cond (t := true) ?_ ?_); gi_step))
    refine wpIn_region_lit ?_
    refine wpi_ex (v := .pointer (some ⟨p, 0, none⟩)) (fun _ => trivial) rfl rfl (ex_load rfl rfl (run_load1 naD (hI2.cell 0))) ?_
    refine wpi_ex (fun _ => trivial) rfl rfl (ex_nil rfl rfl) ?_
    refine wpi_ex (fun _ => trivial) rfl rfl (ex_field rfl rfl (faD1 _ _ _)) ?_
    refine wpi_exU (fun _ => trivial) rfl rfl (ex_store rfl rfl rfl hst) ?_
    refine wpListIn_nil ?_
    simp only [Act.put, List.setIfInBounds_toArray, List.set_cons_succ, List.set_cons_zero]
    (repeat ((fail_if_success refine wpIn_region_lit ?_); (fail_if_success refine wpIn_cond (t := true) ?_ ?_); gi_step))
    refine wpIn_region_lit ?_
    refine wpi_ex (fun _ => trivial) rfl rfl (ex_assign (v := .int .i64 0) rfl rfl) ?_
    refine wpListIn_nil ?_
    simp only [Act.put, List.setIfInBounds_toArray, List.set_cons_succ, List.set_cons_zero]
    (repeat ((fail_if_success refine wpIn_region_lit ?_); (fail_if_success refine wpIn_cond (t := true) ?_ ?_); gi_step))
    have hpF := hFl p hP3.ne.2.2.1
    have hgF := hFl gd hP3.ne.2.2.2.1
    have hK2 : (setBlk W p [.slice (some ⟨gd, 0, none⟩) (List.foldl Disk.put D.dur D.pend).length (List.foldl Disk.put D.dur D.pend).length, .slice none 0 0, .int .i64 D.tick.left]).heap[E]? = some (.deferred (some [])) := by
      unfold setBlk; rw [setRow_other _ _ _ _ (by omega)]; exact hK
    refine ⟨by simp, .inl ⟨_, _, rfl, run_takeDeferred hK2, ?_⟩⟩
    refine ⟨_, results_tmp rfl _ _ _, rfl, [p, gd], (hPf.same (fun k hk => World.putObj_heap_other (by simp at hk; omega))).at, (hI3.setBlk (.inl hP3.ne.2.2.1) _).putObj (by omega) _, fun k hk => by simp at hk; rcases hk with rfl | rfl; exact .inl hP3.ne.2.2.1; exact .inl hP3.ne.2.2.2.1⟩
  case stop =>
    rintro E c pre W _ _ h _
    exact h.elim
end Go.Proofs.Ytkannfkjnohdlaa
/- The disk as a resource. -/
namespace Go.Proofs.Ytkannfkjnohdlaa
open Go.RowKit Go.Pm

@[reducible] def diskR (p : Nat) (D : Disk) (F : List Nat) : Res := ⟨F, fun w => DiskAt w p D F, fun _ _ h hd => hd.same h⟩
theorem Inv.diskTo {B : Base} {p : Nat} {D D' : Disk} {F : List Nat} {H : List Res} {w w' : World} (hv : Inv B (diskR p D F :: H) w) (h : DiskTo F w w' p D') : ∃ F', Inv B (diskR p D' F' :: H) w' := by
  obtain ⟨F', h1, h2, h3⟩ := h
  refine ⟨F', Pm.Inv.upd hv (diskR p D' F') h2 h1 h3 h1.lt ?_⟩
  obtain ⟨_, gd, vp, rfl, hn, _⟩ := h1
  exact hn
/-- its three parts -/
theorem Inv.diskOpen {B : Base} {p : Nat} {D : Disk} {F : List Nat} {H : List Res} {w : World} (hv : Inv B (diskR p D F :: H) w) :
    ∃ gd vad vc, D.Ok ∧ Inv B (Res.cell p [.slice (some ⟨gd, 0, none⟩) D.dur.length D.dur.length, .slice vad D.pend.length vc, .int .i64 D.left] 87 :: Res.cell gd (durCells D.dur) 90 :: Res.row 92 65 (.slice vad D.pend.length vc) D.pend.length (pendCells D.pend) :: H) w := by
  obtain ⟨hok, gd, vp, rfl, hn, h1, h2, h3⟩ := (show DiskAt w p D F from hv.head)
  obtain ⟨vad, vc, rfl⟩ := pendSlice h3
  have a1 := hv.split (Res.cell p [.slice (some ⟨gd, 0, none⟩) D.dur.length D.dur.length, .slice vad D.pend.length vc, .int .i64 D.left] 87) ⟨gd :: (Value.ownBlock (.slice vad D.pend.length vc)).toList, fun w => Blk w gd (durCells D.dur) 90 ∧ w.ownsRow 0 92 65 (.slice vad D.pend.length vc) D.pend.length (pendCells D.pend), fun w w' h hh => ⟨(h gd (by simp)).trans hh.1, (Res.row 92 65 (.slice vad D.pend.length vc) D.pend.length (pendCells D.pend)).stab w w' (fun b hb => h b (by simp [hb])) hh.2⟩⟩ h1 ⟨h2, h3⟩ rfl
  have a2 := a1.front 1 rfl
  have a3 := Pm.Inv.split a2 (Res.cell gd (durCells D.dur) 90) (Res.row 92 65 (.slice vad D.pend.length vc) D.pend.length (pendCells D.pend)) h2 h3 rfl
  exact ⟨gd, vad, vc, hok, a3.front 2 rfl⟩
theorem Inv.diskClose {B : Base} {p gd : Nat} {D : Disk} {v : Value} {H : List Res} {w : World} (hok : D.Ok) (hv : Inv B (Res.cell p [.slice (some ⟨gd, 0, none⟩) D.dur.length D.dur.length, v, .int .i64 D.left] 87 :: Res.cell gd (durCells D.dur) 90 :: Res.row 92 65 v D.pend.length (pendCells D.pend) :: H) w) :
    ∃ F, Inv B (diskR p D F :: H) w := by
  have h1 : Blk w p [.slice (some ⟨gd, 0, none⟩) D.dur.length D.dur.length, v, .int .i64 D.left] 87 := hv.head
  have h2 : Blk w gd (durCells D.dur) 90 := hv.get 1 rfl
  have h3 : w.ownsRow 0 92 65 v D.pend.length (pendCells D.pend) := hv.get 2 rfl
  have hn : (p :: gd :: v.ownBlock.toList).Nodup := (hv.dis.sublist (by simp [List.flatMap_cons]))
  have a1 := hv.join ⟨[p, gd], fun w => Blk w p [.slice (some ⟨gd, 0, none⟩) D.dur.length D.dur.length, v, .int .i64 D.left] 87 ∧ Blk w gd (durCells D.dur) 90, fun w w' h hh => ⟨(h p (by simp)).trans hh.1, (h gd (by simp)).trans hh.2⟩⟩ ⟨h1, h2⟩ (List.Sublist.refl _)
  exact ⟨p :: gd :: v.ownBlock.toList, Pm.Inv.join a1 (diskR p D (p :: gd :: v.ownBlock.toList)) ⟨hok, gd, v, rfl, hn, h1, h2, h3⟩ (List.Sublist.refl _)⟩
theorem Inv.diskParts {B : Base} {p gd : Nat} {D : Disk} {v : Value} {H : List Res} {w : World} (hok : D.Ok) (hv : Inv B (Res.cell p [.slice (some ⟨gd, 0, none⟩) D.dur.length D.dur.length, v, .int .i64 D.left] 87 :: Res.cell gd (durCells D.dur) 90 :: Res.row 92 65 v D.pend.length (pendCells D.pend) :: H) w) :
    DiskParts w p D (p :: gd :: v.ownBlock.toList) gd v :=
  ⟨hok, rfl, hv.dis.sublist (by simp [List.flatMap_cons]), hv.head, hv.get 1 rfl, hv.get 2 rfl⟩
theorem _root_.Go.Pm.Inv.tail {B : Base} {H : List Res} {w : World} (hv : Inv B H w) (k : Nat) : Inv B (H.drop k) w := hv.sub (List.drop_sublist _ _)
/-- all but the first ones laid by for a while -/
theorem _root_.Go.Pm.Inv.layRest {B : Base} {K H : List Res} {w : World} (hv : Inv B (K ++ H) w) :
    ∃ C : Base, B.Le C ∧ Inv C K w ∧ (∀ b, b ∈ H.flatMap (·.fp) → ∃ o, C.I b = some o) ∧ ∀ K' w', Inv C K' w' → Inv B (K' ++ H) w' := by
  have hK : Inv B K w := hv.sub (List.sublist_append_left _ _)
  have hd := hv.dis
  rw [List.flatMap_append, List.nodup_append] at hd
  have hin : ∀ b, b ∈ H.flatMap (·.fp) → (B.snap K w).I b = w.heap[b]? := fun b hb => by
    show (if b ∈ K.flatMap (·.fp) then none else w.heap[b]?) = _
    rw [if_neg (fun hm => hd.2.2 b hm b hb rfl)]
  have hsome : ∀ b, b ∈ H.flatMap (·.fp) → ∃ o, w.heap[b]? = some o := fun b hb => by
    obtain ⟨r, hr, hb⟩ := List.mem_flatMap.1 hb
    exact ⟨_, Array.getElem?_eq_getElem (hv.right.lt r hr b hb)⟩
  refine ⟨B.snap K w, hK.snapLe, hK.snap, fun b hb => ?_, fun K' w' hi => ?_⟩
  · obtain ⟨o, ho⟩ := hsome b hb
    exact ⟨o, (hin b hb).trans ho⟩
  · have hi' := hi.weak hK.snapLe
    have hsame : ∀ b, b ∈ H.flatMap (·.fp) → w'.heap[b]? = w.heap[b]? := fun b hb => by
      obtain ⟨o, ho⟩ := hsome b hb
      rw [ho]
      exact hi.base.blk b o ((hin b hb).trans ho)
    refine Pm.Inv.perm (Pm.Inv.join2 hi' (K := H) (fun r hr => r.stab w w' (fun b hb => hsame b (List.mem_flatMap.2 ⟨r, hr, hb⟩)) (hv.right.own r hr)) (fun r hr b hb => ?_) hv.right.dis hv.right.out (fun b hb hm => ?_)) List.perm_append_comm
    · have := hsame b (List.mem_flatMap.2 ⟨r, hr, hb⟩)
      obtain ⟨o, ho⟩ := hsome b (List.mem_flatMap.2 ⟨r, hr, hb⟩)
      rw [ho] at this
      exact (Array.getElem?_eq_some_iff.1 this).1
    · obtain ⟨r, hr, hb'⟩ := List.mem_flatMap.1 hm
      have := hi.out r hr b hb'
      rw [hin b hb] at this
      obtain ⟨o, ho⟩ := hsome b hb
      rw [ho] at this
      cases this
/-- a range over a disk's pending writes -/
theorem sl_writes {n : Nat} {g : Operand} {ps : Array Tmp} {assign body : Code} {Q : Exit → Act → World → Prop} {a : Act} {w : World} (h1 : 1 ≤ n) {bw p gd : Nat} {D : Disk} {vp : Value} {F : List Nat} (hg : a.eval g = .func (.func 57) #[] #[.pointer (some ⟨bw, 0, none⟩)])
    (hP : DiskParts w p D F gd vp) (hcB : w.cell? ⟨bw, 0, none⟩ = some (.pointer (some ⟨p, 0, none⟩))) (hpl : D.pend.length ≤ 2000000000) (hps : 2 = ps.size)
    {B : Base} {K H : List Res} (hv : Inv B (K ++ H) w) (hrow : ∀ g, vp.ownBlock = some g → g ∈ H.flatMap (·.fp)) (Hs : List (PendEl D) → List Res) (hs0 : Hs [] = K) (fr : PendEl D → Nat → Act)
    (hcel : ∀ pre r, r ∈ Hs pre → r.Celled) (hfp : ∀ pre r, r ∈ Hs pre → ∀ b ∈ r.fp, b < w.heap.size)
    (hassign : ∀ (l : Nat) (pre : List (PendEl D)) (x : PendEl D) (w : World) (B' : Base), B.Le B' → Inv B' (Hs pre) w → assign.wpIn (Fence.wide.inRound l) (n - 1 - 1) Try.prog (fun e a' W' => e = .normal ∧ ∃ b, a' = fr x b ∧ Inv B' (Res.cell b (wrCells x.1.2) 92 :: Hs pre) W') { tmps := (ps.zip (pendEnc x)).foldl (fun t (p, v) => t.setIfInBounds p v) a.tmps, defers := [] } w)
    (hbody : ∀ (l : Nat) (pre : List (PendEl D)) (x : PendEl D) (b : Nat) (w : World) (B' : Base), B.Le B' → Inv B' (Res.cell b (wrCells x.1.2) 92 :: Hs pre) w → pre.length < D.pend.length → body.wpIn (Fence.wide.inRound l) (n - 1 - 1) Try.prog (fun e _ W' => e = .normal ∧ Inv B' (Hs (pre ++ [x])) W') (fr x b) w)
    (hdone : ∀ (d : Nat) (xs : List (PendEl D)) (w : World), xs.map (·.1) = numbered D → Inv B (Res.defd d :: (Hs xs ++ H)) w → Q .normal { a with defers := { target := .collected d, args := #[] } :: a.defers } w) :
    (Code.rangeFunc g ps assign body).wpIn Fence.wide n Try.prog Q a w := by
  subst hs0
  obtain ⟨C, hBC, hvC, hin, hback⟩ := hv.layRest
  have hlt : bw < w.heap.size := World.block_lt_of_cell? w _ hcB
  have hpin : ∀ g, vp.ownBlock = some g → ∃ o, C.I g = some o := fun g hg => hin g (hrow g hg)
  refine sl_range h1 hg (enters_of Try.func57 (by kernel_rfl) rfl) (diskIter w p D F gd vp hP bw _ hcB hlt hpl) (fun h k => pendKept.tr h k) (fun _ => hps)
    (B := C) Hs (fun x b => [Res.cell b (wrCells x.1.2) 92]) fr hcel (fun x b r hr => by simp at hr; subst hr; exact celled_cell _ _ _) (.inr hfp) (fun K' W W' hi hle hs => ⟨hle, fun g hg => ?_⟩) (fun W l o' hl => ⟨by simp, fun g hg => World.putObj_heap_other (fun e => ?_)⟩) hvC
    (fun l pre x W B' hB hi => hassign l pre x W B' (hBC.trans hB) hi) (fun l pre x b W B' hB hi hN => hbody l pre x b W B' (hBC.trans hB) hi hN) (fun d xs W hS hi => hdone d xs W hS (hback _ _ hi))
  · obtain ⟨o, ho⟩ := hpin g hg
    refine hs g (hi.base.lt ho) (fun hm => ?_)
    obtain ⟨r, hr, hb⟩ := List.mem_flatMap.1 hm
    rw [hi.out r hr g hb] at ho
    cases ho
  · obtain ⟨o, ho⟩ := hpin g hg
    have := hvC.base.lt ho
    omega
theorem diskWritesSl (B : Base) (H : List Res) (w : World) (ad : Option Addr) (hv : Inv B H w) :
    Calls Try.prog 46 #[.pointer ad] w fun e w' => ∃ b, e = .returned (.func (.func 57) #[] #[.pointer (some ⟨b, 0, none⟩)]) ∧ Inv B (Res.cell b [.pointer ad] 36 :: H) w' :=
  (diskWrites w ad).mono fun e w' ⟨h1, h2⟩ => ⟨_, h1, by rw [h2]; exact hv.alloc [.pointer ad] _⟩
theorem diskHasSl (w : World) (p : Nat) (D : Disk) (F : List Nat) (at_ n : Int) {b : Bool} (hb : D.has at_ n = b) (hD : DiskAt w p D F) (ha : -9223372036854775808 ≤ at_ ∧ at_ ≤ 9223372036854775807) :
    Calls Try.prog 44 #[.pointer (some ⟨p, 0, none⟩), .int .i64 at_, .int .i64 n] w fun e w' => e = .returned (.bool b) ∧ w = w' := by subst hb; exact diskHas w p D F at_ n hD ha
theorem diskCallSl (B : Base) (H : List Res) (w : World) (p : Nat) (D : Disk) (F : List Nat) (k : Nat) (hv : Inv B H w) (hk : H[k]? = some (diskR p D F)) {b : Bool} (hb : (D.left != 0) = b) :
    Calls Try.prog 45 #[.pointer (some ⟨p, 0, none⟩)] w fun e w' => e = .returned (.bool b) ∧ Inv B (H.set k (diskR p D.tick F)) w' := by
  subst hb
  have hD : DiskAt w p D F := hv.get k hk
  refine (diskCall w p D F hD).mono fun e w' ⟨h1, h2, h3⟩ => ⟨h1, hv.updAt k hk (diskR p D.tick F) h3 h2 (fun b hb => .inl hb) h2.lt ?_⟩
  obtain ⟨_, gd, vp, rfl, hn, _⟩ := hD
  exact hn
end Go.Proofs.Ytkannfkjnohdlaa
