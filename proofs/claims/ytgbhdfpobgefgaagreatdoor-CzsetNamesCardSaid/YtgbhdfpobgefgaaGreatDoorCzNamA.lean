/- Go data in memory, read as plain data: a small universe of types, and what it means that cells read as a datum. -/
import Derived.WalkKit
import Derived.ProofKit
import Derived.OpenShut
import Derived.Laws.BytesArg
import Derived.Orders
import Derived.RangeFuncNested
import Derived.RangeFuncBound
import Derived.RangeFuncCalls
import Derived.RangeFuncLeaves
import Derived.Shelf.Abstract
import Derived.Shelf.RegionOpen
import Derived.OwnWalkIn
import Derived.TacticsInMore
import Derived.LoopNIn
import Derived.LoopIn
import Derived.IntWalk
set_option maxRecDepth 100000
set_option maxHeartbeats 16000000
set_option synthInstance.maxSize 65536
set_option synthInstance.maxHeartbeats 4000000
namespace Go.Pm
open Go.RowKit Go.WideShapes Go.ChangeShapes
inductive Ty where
 | int (k : IntKind)
 | bool
 | str
 | slice (t : Ty)
 | arr (n : Nat) (t : Ty)
 | unit
 | pair (t : Ty) (ts : Ty)
@[reducible] def IntTy : IntKind → Type
 | .u8 => UInt8
 | _ => Int
def encInt : (k : IntKind) → IntTy k → Int
 | .u8, c => ((c : UInt8).toNat : Int)
 | .i8, n | .i16, n | .i32, n | .i64, n | .u16, n | .u32, n | .u64, n => n
@[reducible] def Ty.den : Ty → Type
 | .int k => IntTy k
 | .bool => Bool
 | .str => List UInt8
 | .slice t => List t.den
 | .arr _ t => List t.den
 | .unit => Unit
 | .pair t ts => t.den × ts.den
@[reducible] def Ty.size : Ty → Nat
 | .int _ | .bool | .str | .slice _ => 1
 | .arr n t => n * t.size
 | .unit => 0
 | .pair t ts => t.size + ts.size
structure SliceOk (a : Option Addr) (n cap : Nat) : Prop where
 le : n ≤ cap
 max : cap ≤ maxLen
 nil : a = none → cap = 0
def Rep (w : World) (S : Nat → Prop) : (t : Ty) → List Value → t.den → Prop
 | .int k, cs, d => cs = [.int k (encInt k d)] ∧ (Lit.int k (encInt k d)).wf = true
 | .bool, cs, d => cs = [.bool d]
 | .str, cs, d => cs = [.string ⟨d.toArray⟩] ∧ d.length ≤ maxLen
 | .slice t, cs, d => ∃ a cap, cs = [.slice a d.length cap] ∧ SliceOk a d.length cap ∧
   ∀ i (h : i < d.length), ∃ b off xs, a = some ⟨b, off, none⟩ ∧ S b ∧ xs.length = t.size ∧
    (∀ j (h : j < xs.length), w.cell? ⟨b, off + i * t.size + j, none⟩ = some xs[j]) ∧ Rep w S t xs d[i]
 | .arr n t, cs, d => d.length = n ∧ cs.length = n * t.size ∧ ∀ i (h : i < d.length), Rep w S t ((cs.drop (i * t.size)).take t.size) d[i]
 | .unit, cs, _ => cs = []
 | .pair t ts, cs, d => Rep w S t (cs.take t.size) d.1 ∧ Rep w S ts (cs.drop t.size) d.2
def FieldsFit (P : Program) (fit : TypeId → Ty → Prop) : List Field → Nat → Ty → Prop
 | [], _, .unit => True
 | f :: fs, off, .pair t ts => f.offset = off ∧ P.cellsOf f.type = t.size ∧ fit f.type t ∧ FieldsFit P fit fs (off + t.size) ts
 | _, _, _ => False
def Fits (P : Program) : Nat → TypeId → Ty → Prop
 | 0, _, _ => False
 | _ + 1, id, .int k => P.underlying id = some (.int k)
 | _ + 1, id, .bool => P.underlying id = some .bool
 | _ + 1, id, .str => P.underlying id = some .string
 | n + 1, id, .slice t => ∃ e, P.underlying id = some (.slice e) ∧ P.cellsOf e = t.size ∧ 0 < t.size ∧ Fits P n e t
 | n + 1, id, .arr m t => ∃ e, P.underlying id = some (.array m e) ∧ P.cellsOf e = t.size ∧ P.cellsOf id = m * t.size ∧ Fits P n e t
 | _ + 1, id, .unit => ∃ fs, P.underlying id = some (.struct fs) ∧ P.cellsOf id = 0 ∧ fs = #[]
 | n + 1, id, .pair t ts => ∃ fs, P.underlying id = some (.struct fs) ∧ P.cellsOf id = t.size + ts.size ∧ FieldsFit P (Fits P n) fs.toList 0 (.pair t ts)
section
variable {H : Type} {enc : TypeId × Value → H} {P : Program} {w : World}
theorem cells_at {b off n : Nat} {sp : Option Nat} {cs : List Value} {i : Nat} (h : w.cells? 0 ((⟨b, off, sp⟩ : Addr).add i) n = some cs) (hn : 0 < n) :
  (sp = none ∨ 0 < i) ∧ cs.length = n ∧ ∀ j (hj : j < cs.length), w.cell? ⟨b, off + i + j, none⟩ = some cs[j] := by
 obtain ⟨_, hl, hc⟩ := World.cells?_some h;have key : ∀ j, j < n → ((⟨b, off, sp⟩ : Addr).add i).add j = ⟨b, off + i + j, none⟩ ∨ (i = 0 ∧ j = 0) := by
  intro j _;unfold Addr.add;by_cases hi : i = 0 <;> by_cases hj : j = 0 <;> simp [hi, hj]
 have h0 : sp = none ∨ 0 < i := by
  by_cases hi : i = 0
  ·left
   subst hi;have := hc 0 hn;have h1 : ((⟨b, off, sp⟩ : Addr).add 0).add 0 = ⟨b, off, sp⟩ := by simp [Addr.add]
   rw [h1] at this;cases sp with
   | none => rfl
   | some q =>
    have hz : w.cell? ⟨b, off, some q⟩ = none := by simp [World.cell?]; split <;> rfl
    rw [hz] at this;have : cs[0]? = some cs[0] := List.getElem?_eq_getElem (by omega)
    simp_all
  right; omega
 refine ⟨h0, hl, fun j hj => ?_⟩;rw [← List.getElem?_eq_getElem hj, ← hc j (by omega)];rcases key j (by omega) with e | ⟨e1, e2⟩
 ·rw [e]
 subst e1; subst e2;rcases h0 with h0 | h0
 ·subst h0; simp [Addr.add]
 omega
theorem encInt_surj (k : IntKind) (n : Int) (h : (Lit.int k n).wf = true) : ∃ d : IntTy k, encInt k d = n := by
 cases k with
 | u8 =>
  have hx : 0 ≤ n ∧ n ≤ 255 := by simpa [Lit.wf, IntKind.min, IntKind.max, IntKind.signed, IntKind.bits] using h
  refine ⟨UInt8.ofNat n.toNat, ?_⟩;show ((UInt8.ofNat n.toNat).toNat : Int) = n;have : (UInt8.ofNat n.toNat).toNat = n.toNat := by simp [UInt8.toNat_ofNat']; omega
  rw [this]; omega
 | i8 => exact ⟨n, rfl⟩
 | i16 => exact ⟨n, rfl⟩
 | i32 => exact ⟨n, rfl⟩
 | i64 => exact ⟨n, rfl⟩
 | u16 => exact ⟨n, rfl⟩
 | u32 => exact ⟨n, rfl⟩
 | u64 => exact ⟨n, rfl⟩
theorem exists_list {α : Type} {R : Nat → α → Prop} (n : Nat) (h : ∀ i, i < n → ∃ d, R i d) : ∃ l : List α, l.length = n ∧ ∀ i (hi : i < l.length), R i l[i] := by
 induction n with
 | zero => exact ⟨[], rfl, fun i hi => by simp at hi⟩
 | succ n ih =>
  obtain ⟨l, hl, hR⟩ := ih (fun i hi => h i (by omega));obtain ⟨d, hd⟩ := h n (by omega);refine ⟨l ++ [d], by simp [hl], fun i hi => ?_⟩;by_cases hin : i < l.length
  ·rw [List.getElem_append_left hin]; exact hR i hin
  have : i = l.length := by simp at hi; omega
  subst this;rw [List.getElem_append_right (by omega)]
  simpa [hl] using hd
theorem rep_of_trod : ∀ (n : Nat) (id : TypeId) (t : Ty), Fits P n id t → ∀ (fuel : Nat) (cs : List Value) (x : DataW H × List MemPlace),
  DataW.trod enc P w 0 (fun _ => true) true fuel id cs = some x → ∃ d : t.den, Rep w (· < w.heap.size) t cs d := by
 intro n
 induction n with
 | zero => intro id t hf; exact hf.elim
 | succ n ih =>
  intro id t hf fuel cs x hx;cases t with
  | int k =>
   obtain ⟨m, rfl, _, hw⟩ := DataW.trod_int hf hx;obtain ⟨d, hd⟩ := encInt_surj k m hw;exact ⟨d, by rw [← hd]; exact ⟨rfl, by rw [hd]; exact hw⟩⟩
  | bool =>
   obtain ⟨b, rfl, _⟩ := DataW.trod_bool hf hx;exact ⟨b, rfl⟩
  | str =>
   obtain ⟨s, rfl, _, hs⟩ := DataW.trod_string hf hx;exact ⟨s.data.toList, by simp, by simpa using hs⟩
  | slice t =>
   obtain ⟨e, hu, hsz, hpos, hfe⟩ := hf;rcases DataW.trod_slice hu hx with ⟨rfl, _⟩ | ⟨a, len, cap, elems, rest, m, _, rfl, _, _, hlc, hcm, hel, hat, _, _⟩
   ·exact ⟨[], none, 0, rfl, ⟨by simp, by simp, fun _ => rfl⟩, fun i hi => by simp at hi⟩
   obtain ⟨b, off, sp⟩ := a;have key : ∀ i, i < len → ∃ d : t.den, ∃ xs, xs.length = t.size ∧ sp = none ∧ (∀ j (h : j < xs.length), w.cell? ⟨b, off + i * t.size + j, none⟩ = some xs[j]) ∧ Rep w (· < w.heap.size) t xs d := by
    intro i hi;have hsp : sp = none := by
     have h0 := hat 0 (by omega);rw [List.getElem?_eq_getElem (by omega), Option.bind_eq_some_iff] at h0;obtain ⟨xs, hxs, _⟩ := h0;rw [hsz] at hxs;have := (cells_at hxs hpos).1;rcases this with h | h
     ·exact h
     omega
    have hi' := hat i hi;rw [List.getElem?_eq_getElem (by omega), Option.bind_eq_some_iff] at hi';obtain ⟨xs, hxs, hr⟩ := hi';rw [hsz] at hxs;obtain ⟨_, hl, hc⟩ := cells_at hxs hpos;obtain ⟨d, hd⟩ := ih e t hfe _ _ _ hr;exact ⟨d, xs, hl, hsp, hc, hd⟩
   obtain ⟨l, hl, hR⟩ := exists_list len key;refine ⟨l, some ⟨b, off, sp⟩, cap, by rw [hl], ⟨by omega, hcm, fun h => by cases h⟩, fun i hi => ?_⟩;obtain ⟨xs, h1, h2, h3, h4⟩ := hR i hi;refine ⟨b, off, xs, by rw [h2], ?_, h1, h3, h4⟩;have := h3 0 (by omega);exact World.block_lt_of_cell? w _ this
  | arr m t =>
   obtain ⟨e, hu, hsz, hsz2, hfe⟩ := hf;obtain ⟨xs, k, _, _, hlen, hxl, hat⟩ := DataW.trod_array hu hx;have key : ∀ i, i < m → ∃ d : t.den, Rep w (· < w.heap.size) t ((cs.drop (i * t.size)).take t.size) d := by
    intro i hi;have h0 := hat i hi;rw [List.getElem?_eq_getElem (by omega), hsz] at h0;exact ih e t hfe _ _ _ h0
   obtain ⟨l, hl, hR⟩ := exists_list m key;exact ⟨l, hl, by omega, hR⟩
  | unit =>
   obtain ⟨fs, hu, hsz, rfl⟩ := hf;obtain ⟨xs, k, _, _, hlen, _, _⟩ := DataW.trod_struct hu hx;exact ⟨(), List.eq_nil_of_length_eq_zero (by omega)⟩
  | pair t ts =>
   obtain ⟨fs, hu, hsz, hff⟩ := hf;obtain ⟨xs, k, _, _, hlen, hxl, hat⟩ := DataW.trod_struct hu hx;have go : ∀ (fl : List Field) (i off : Nat) (u : Ty), FieldsFit P (Fits P n) fl off u → (∀ j, fs[i + j]? = fl[j]?) → (off + u.size = cs.length) →
     ∃ d : u.den, Rep w (· < w.heap.size) u (cs.drop off) d := by
    intro fl
    induction fl with
    | nil =>
     intro i off u hu' _ hoff;cases u <;> simp only [FieldsFit] at hu'
     refine ⟨(), ?_⟩;show cs.drop off = [];exact List.drop_eq_nil_of_le (by simp [Ty.size] at hoff; omega)
    | cons f fl ihf =>
     intro i off u hu' hfs hoff;cases u <;> simp only [FieldsFit] at hu'
     rename_i u us
     obtain ⟨rfl, hc, hfit, hrest⟩ := hu';have h0 := hat i f (by simpa using hfs 0);have hix : i < xs.length := by
      have := hfs 0
      simp at this
      have := (Array.getElem?_eq_some_iff.1 this).1;omega
     rw [List.getElem?_eq_getElem hix, hc] at h0;obtain ⟨d, hd⟩ := ih _ _ hfit _ _ _ h0;obtain ⟨ds, hds⟩ := ihf (i + 1) (f.offset + u.size) us hrest (fun j => by have := hfs (j + 1); simpa [Nat.add_assoc, Nat.add_comm 1 j] using this) (by simp [Ty.size] at hoff; omega);exact ⟨(d, ds), hd, by rw [List.drop_drop]; exact hds⟩
   have := go fs.toList 0 0 (.pair t ts) hff (fun j => by simp) (by simp [Ty.size]; omega)
   simpa using this
def Ty.flat : Ty → Bool
 | .arr .. | .unit | .pair .. => true
 | _ => false
def Ty.val (t : Ty) (cs : List Value) : Value := if t.flat then .agg cs.toArray else cs.headD undef
theorem arg_val {n : Nat} {id : TypeId} {t : Ty} (hf : Fits P n id t) {base : Nat} {v : Value} (hv : Value.okWide P w .any base id v) : v = t.val v.cells.toList := by
 cases n with
 | zero => exact hf.elim
 | succ n =>
  cases t with
  | int k => obtain ⟨m, rfl⟩ := okWide_int hf hv; rfl
  | bool => obtain ⟨m, rfl⟩ := okWide_bool hf hv; rfl
  | str => obtain ⟨m, rfl⟩ := okWide_string hf hv; rfl
  | slice t => obtain ⟨e, hu, _⟩ := hf; obtain ⟨a, l, c, rfl⟩ := okWide_slice hu hv; rfl
  | arr m t =>
   obtain ⟨e, hu, _⟩ := hf;unfold Value.okWide at hv;rw [hu] at hv;obtain ⟨cs, rfl, _⟩ := hv
   simp [Ty.val, Ty.flat, Value.cells]
  | unit => obtain ⟨fs, hu, _⟩ := hf; obtain ⟨cs, rfl, _⟩ := okWide_struct hu hv; simp [Ty.val, Ty.flat, Value.cells]
  | pair t ts => obtain ⟨fs, hu, _⟩ := hf; obtain ⟨cs, rfl, _⟩ := okWide_struct hu hv; simp [Ty.val, Ty.flat, Value.cells]
theorem arg_rep {n : Nat} {id : TypeId} {t : Ty} (hf : Fits P n id t) {base : Nat} {v : Value} (hv : Value.okWide P w .any base id v) {d : DataW H} {p : List MemPlace}
  (h : DataW.Trod enc P w 0 (fun _ => true) true id v d p) : ∃ (cs : List Value) (x : t.den), v = t.val cs ∧ Rep w (· < w.heap.size) t cs x := by
 obtain ⟨fuel, h⟩ := h;obtain ⟨x, hx⟩ := rep_of_trod n id t hf fuel _ _ h;exact ⟨_, x, arg_val hf hv, hx⟩
end
def Bytes (w : World) (S : Nat → Prop) (a : Option Addr) (l : List UInt8) : Prop :=
 ∀ i (h : i < l.length), ∃ b off, a = some ⟨b, off, none⟩ ∧ S b ∧ w.cell? ⟨b, off + i, none⟩ = some (.int .u8 (l[i].toNat : Int))
def Src (w : World) (a : Option Addr) (xs : List Value) : Prop := ∀ i (h : i < xs.length), ∃ b off, a = some ⟨b, off, none⟩ ∧ w.cell? ⟨b, off + i, none⟩ = some xs[i]
structure Elem (P : Program) (t e : TypeId) (z : Value) (size bytes : Nat) : Prop where
 ht : P.underlying t = some (.slice e)
 hi : ∃ i, P.info? e = some i ∧ i.zero = some z ∧ i.size = size ∧ i.bytes = bytes
 hz : z.cells.size = size
 pos : 0 < size
theorem run_append_src {P : Program} {w : World} {t ty e : TypeId} {z : Value} {size bytes : Nat} (E : Elem P t e z size bytes) (base : Nat)
  {v : Value} {n : Nat} {xs : List Value} (hown : w.ownsRow base e size v n xs) {ad : Option Addr} {m c : Nat} {news : List Value} (hok : SliceOk ad m c) (hl : news.length = m * size)
  (hsrc : Src w ad news) (h1 : ∀ u ∈ news, u.oneCell' = true) (h63 : n + m ≤ maxLen) (hbytes : (n + m) * bytes ≤ 140737488355328) (hbase : base ≤ w.heap.size) :
  ∃ v' w', (Builtin.append_ #[t, t] ty #[v, .slice ad m c]).run P w = .ok v' w' ∧ w'.ownsRow base e size v' (n + m) (xs ++ news) ∧ w.grownBy w' v.ownBlock := by
 obtain ⟨ht, ⟨i, hi, hz, hs, hby⟩, hzs, hpos⟩ := E;cases ad with
 | none =>
  have hc := hok.nil rfl;have hm : m = 0 := by have := hok.le; omega
  subst hc; subst hm;obtain rfl : news = [] := List.eq_nil_of_length_eq_zero (by simpa using hl);exact ⟨v, w, run_append_owned_none (P := P) w base t ty e i size ht hi v n xs hown, by simpa using hown, World.grownBy.refl _ _⟩
 | some a =>
  have hnews : ∀ j u, news[j]? = some u → w.cell? (a.add j) = some u := by
   intro j u hu;obtain ⟨hj, rfl⟩ := List.getElem?_eq_some_iff.1 hu;obtain ⟨b, off, ha, hc⟩ := hsrc j hj;simp only [Option.some.injEq] at ha;subst ha;have : (⟨b, off, none⟩ : Addr).add j = ⟨b, off + j, none⟩ := by unfold Addr.add; split <;> simp_all
   rw [this]; exact hc
  obtain ⟨v', w', hr, h2, h3, _⟩ := run_append_own (P := P) w base t ty e i z size bytes ht hi hz hs hby hzs hpos v n xs hown a m c news hl hnews h1 h63 hbytes hbase;exact ⟨v', w', hr, h2, h3⟩
open Go.ChangeAt
section
variable {H : Type} {enc : TypeId × Value → H} {P : Program}
theorem trodAll_below (hl : laidOutB P = true) {W W' : World} (hb : Below W.heap.size W W') : ∀ (ts : List TypeId) (vs : List Value) (ds : List (DataW H)) (ps : List MemPlace),
  (∀ t ∈ ts, P.readableRec t = true ∧ t < P.types.size) → (∀ x ∈ ps, x.block < W.heap.size) → DataW.TrodAll enc P W 0 (fun _ => true) true ts vs ds ps →
  DataW.TrodAll enc P W' 0 (fun b => decide (b < W.heap.size)) true ts vs ds ps := by
 intro ts
 induction ts with
 | nil =>
  intro vs ds ps _ _ h;cases vs <;> cases ds <;> simp only [DataW.TrodAll] at h ⊢ <;> first | exact h | exact h.elim
 | cons t ts ih =>
  intro vs ds ps ht hp h;cases vs with
  | nil => simp only [DataW.TrodAll] at h
  | cons v vs =>
   cases ds with
   | nil => simp only [DataW.TrodAll] at h
   | cons d ds =>
    simp only [DataW.TrodAll] at h ⊢;obtain ⟨p, q, h1, h2, rfl⟩ := h;refine ⟨p, q, ?_, ?_, rfl⟩
    ·exact Below.trod hl (ht t (by simp)).1 (ht t (by simp)).2 h1 hb (fun x hx => hp x (by simp [hx]))
    exact ih vs ds q (fun t' ht' => ht t' (by simp [ht'])) (fun x hx => hp x (by simp [hx])) h2
theorem law_post {f : FuncId} {fn : Func} {s : ChangeSpec} (hl : laidOutB P = true) (hpar : ∀ t ∈ fn.params.toList, P.readableRec t = true ∧ t < P.types.size)
  (tb : TypeId) (hres : fn.resultTypes = #[tb]) (htb : P.underlying tb = some .bool) (hsv : s.vars = [])
  {W : World} {args : Array Value} {ds gs : List (DataW H)} {before : List MemPlace}
  (hs : s.fn H ds = { results := [.lit (.bool true)], args := ds })
  (hW : DataW.Whole enc P fn.params.toList s.vars false W args.toList ds gs before)
  (hc : Calls P f args W fun e W' => e = .returned (.bool true) ∧ Below W.heap.size W W') :
  Calls P f args W fun e W' => ∃ v, e = .returned v ∧ s.post enc P fn false true false false W args v W' := by
 refine hc.mono fun e W' ⟨he, hb⟩ => ⟨_, he, ?_⟩
 have hlt := hW.lt;have hW' := hW;obtain ⟨p, q, hA, hV, rfl, hfz, _⟩ := hW;rw [hsv] at hV;obtain ⟨rfl, rfl⟩ := trodVars_none hV;have hlt' : ∀ x ∈ p, x.block < W.heap.size := fun x hx => hlt x (by simp [hx])
 refine ⟨ds, [], p ++ [], [], p, [], hW', ?_, ?_, ?_, hb.frame _, fun h => by cases h⟩
 ·rw [List.append_nil, hs, hres];exact trodAll_mk1 (shut_bool htb true)
 ·rw [List.append_nil, hs];exact trodAll_below hl hb _ _ _ _ hpar hlt' hA
 rw [List.append_nil, hs, hsv]
 rfl
end
@[reducible] def Ext (w w' : World) : Prop := Below w.heap.size w w'
theorem Ext.rfl' (w : World) : Ext w w := Below.refl _ _
theorem Ext.drew' (w : World) : Ext w w.drew := (Below.refl _ _).drew
structure SP where
 p : World → Value → Prop
 st : ∀ w w' v, Ext w w' → p w v → p w' v
def binder (o : Oper) (j : Nat) : Bool := o.after.toList.any (fun e => Region.binds .any e && e.on == j)
def waits (ops : Array Oper) (i t : Nat) : Bool := ops.toList.zipIdx.all (fun x => x.1.dst != some t || binder x.1 i || x.2 == i)
def backward (ops : Array Oper) : Bool := ops.toList.zipIdx.all (fun x => x.1.after.toList.all (fun e => !Region.binds .any e || decide (e.on < x.2)))
def onceDst (ops : Array Oper) : Bool := decide (ops.toList.filterMap (·.dst)).Nodup
theorem put_getD (a : Act) (x : Option Tmp) (v : Value) (t : Nat) (h : x ≠ some t) : (a.put x v).tmps.getD t undef = a.tmps.getD t undef := by
 cases x with
 | none => rfl
 | some d =>
  have : d ≠ t := fun e => h (by rw [e])
  simp only [Act.put, Array.getD_eq_getD_getElem?, Array.getElem?_setIfInBounds_ne this]
theorem put_getD_same (a : Act) (d : Tmp) (v : Value) (h : d < a.tmps.size) : (a.put (some d) v).tmps.getD d undef = v := by
 simp [Act.put, Array.getD_eq_getD_getElem?, h]
theorem put_size (a : Act) (x : Option Tmp) (v : Value) : (a.put x v).tmps.size = a.tmps.size := by
 cases x <;> simp [Act.put]
theorem put_defers (a : Act) (x : Option Tmp) (v : Value) : (a.put x v).defers = a.defers := by
 cases x <;> simp [Act.put]
theorem getD_false_set {listed : Array Bool} {i j : Nat} (h : (listed.setIfInBounds i true).getD j false = true) : j = i ∨ listed.getD j false = true := by
 by_cases e : j = i
 ·exact .inl e
 right
 simp only [Array.getD_eq_getD_getElem?] at h ⊢
 rwa [Array.getElem?_setIfInBounds_ne (by omega)] at h
theorem mem_ready {ops : Array Oper} {listed : Array Bool} {i : Nat} (h : i ∈ Region.ready .any ops listed) :
  ∃ o, ops[i]? = some o ∧ i < ops.size ∧ listed.getD i true = false ∧ ∀ k, binder o k = true → listed.getD k false = true := by
 unfold Region.ready at h;rw [List.mem_filter] at h;obtain ⟨h1, h2⟩ := h;have hi : i < ops.size := by simpa using h1
 rw [Bool.and_eq_true] at h2;refine ⟨ops[i], by simp [hi], hi, by simpa using h2.1, fun k hk => ?_⟩;have h3 := h2.2;rw [Array.getElem?_eq_getElem hi] at h3;simp only [Option.map_some, Option.getD_some] at h3;unfold binder at hk;obtain ⟨e, he, hb⟩ := List.any_eq_true.1 hk;rw [Bool.and_eq_true] at hb;have h4 := (Array.all_eq_true_iff_forall_mem.1 h3) e (by simpa using he);have : e.on = k := by simpa using hb.2
 subst this
 simpa [hb.1] using h4
theorem all_listed {ops : Array Oper} {listed : Array Bool} (hbk : backward ops = true) (hs : listed.size = ops.size) (h : Region.ready .any ops listed = []) :
  ∀ i, i < ops.size → listed.getD i false = true := by
 intro i
 induction i using Nat.strongRecOn with
 | _ i ih =>
  intro hi;cases hl : listed.getD i false with
  | true => rfl
  | false =>
   exfalso;have hl' : listed.getD i true = false := by
    simp only [Array.getD_eq_getD_getElem?] at hl ⊢;rw [Array.getElem?_eq_getElem (by omega)] at hl ⊢
    simpa using hl
   have : i ∈ Region.ready .any ops listed := by
    unfold Region.ready;rw [List.mem_filter];refine ⟨by simpa using hi, ?_⟩;rw [hl', Array.getElem?_eq_getElem hi];simp only [Bool.not_false, Bool.true_and, Option.map_some, Option.getD_some];rw [Array.all_eq_true_iff_forall_mem];intro e he;have hb := List.all_eq_true.1 hbk (ops[i], i) (by
     rw [List.mem_iff_getElem?];exact ⟨i, by simp [hi]⟩)
    have hb2 := List.all_eq_true.1 hb e (by simpa using he);cases hbd : Region.binds .any e with
    | false => rfl
    | true =>
     rw [hbd] at hb2;simp only [Bool.not_true, Bool.false_or, decide_eq_true_eq] at hb2;simp only [Bool.not_true, Bool.false_or];exact ih e.on hb2 (by omega)
   rw [h] at this;cases this
def toCome (ops : Array Oper) (listed : Array Bool) : Nat := (List.range ops.size).countP (fun i => !listed.getD i true)
theorem countP_lt {p q : Nat → Bool} (l : List Nat) (h : ∀ x, q x = true → p x = true) (i : Nat) (hi : i ∈ l) (hp : p i = true) (hq : q i = false) : l.countP q < l.countP p := by
 induction l with
 | nil => cases hi
 | cons x xs ih =>
  have hle : xs.countP q ≤ xs.countP p := List.countP_mono_left (fun x _ => h x);rw [List.countP_cons, List.countP_cons];cases List.mem_cons.1 hi with
  | inl e => subst e; rw [hp, hq]; simp; omega
  | inr e =>
   have := ih e;cases hqx : q x with
   | false => simp; omega
   | true => rw [h x hqx]; simp; omega
theorem toCome_set {ops : Array Oper} {listed : Array Bool} {i : Nat} (hi : i < ops.size) (h : listed.getD i true = false) : toCome ops (listed.setIfInBounds i true) < toCome ops listed := by
 unfold toCome;refine countP_lt _ (fun x hx => ?_) i (by simpa using hi) (by simp [h]) ?_
 ·by_cases e : i = x
  ·subst e; rw [h]; rfl
  rw [getD_set_ne _ e] at hx; exact hx
 simp only [Array.getD_eq_getD_getElem?, Bool.not_eq_false'];by_cases hs : i < listed.size
 ·simp [hs]
 simp [hs]
theorem nodup_dst {l : List Oper} (h : (l.filterMap (·.dst)).Nodup) : ∀ (i j : Nat) (oi oj : Oper) (d : Tmp), l[i]? = some oi → l[j]? = some oj → oi.dst = some d → oj.dst = some d → i = j := by
 induction l with
 | nil => intro i j oi oj d hi; simp at hi
 | cons x xs ih =>
  intro i j oi oj d hi hj hdi hdj;have hxs : (xs.filterMap (·.dst)).Nodup := by
   rw [List.filterMap_cons] at h
   split at h
   ·exact h
   exact (List.nodup_cons.1 h).2
  have hno : ∀ (k : Nat) (o : Oper), xs[k]? = some o → o.dst = some d → x.dst ≠ some d := by
   intro k o hk hd hx;rw [List.filterMap_cons, hx] at h;exact (List.nodup_cons.1 h).1 (List.mem_filterMap.2 ⟨o, List.mem_of_getElem? hk, hd⟩)
  cases i with
  | zero =>
   cases j with
   | zero => rfl
   | succ j => simp at hi hj; subst hi; exact (hno j oj hj hdj hdi).elim
  | succ i =>
   cases j with
   | zero => simp at hi hj; subst hj; exact (hno i oi hi hdi hdj).elim
   | succ j => simp at hi hj; rw [ih hxs i j oi oj d hi hj hdi hdj]
section
variable {P : Program} {ops : Array Oper} {Q : Exit → Act → World → Prop} {a0 : Act} {w0 : World}
def fitsDst (ops : Array Oper) (n : Nat) : Bool := ops.toList.all (fun o => match o.dst with | some d => decide (d < n) | none => true)
theorem act_ext {a b : Act} (h1 : a.tmps.size = b.tmps.size) (h2 : a.defers = b.defers) (h3 : ∀ t, a.tmps.getD t undef = b.tmps.getD t undef) : a = b := by
 obtain ⟨x, xd⟩ := a;obtain ⟨y, yd⟩ := b;simp only at h1 h2 h3;subst h2
 congr 1
 apply Array.ext h1;intro i hi hi2;have := h3 i;simp only [Array.getD_eq_getD_getElem?, Array.getElem?_eq_getElem hi, Array.getElem?_eq_getElem hi2, Option.getD_some] at this;exact this
variable {A : List SP} {i : Nat} {o : Oper} {a : Act} {w w' : World} {v : Value}
theorem yielded_of {j d : Nat} {b : Bool} (hd : (ops[j]?).bind (·.dst) = some d) (h : a.tmps.getD d undef = .bool b) : yielded ops a.tmps j = some b := by
 unfold yielded;rw [hd];simp only [Option.bind_some];rw [Array.getD_eq_getD_getElem?] at h;cases h2 : a.tmps[d]? with
 | none => rw [h2] at h; simp [undef] at h
 | some x => rw [h2] at h; simp only [Option.getD_some] at h; rw [h]
end
theorem run_buildSlice1 {P : Program} {t e : TypeId} {z : Value} {bytes : Nat} (E : Elem P t e z 1 bytes) (w : World) (v : Value) (h1 : v.cells = #[v]) :
  (Instr.buildSlice t 1 #[(0, v)]).run P w = .ok (.slice (some ⟨w.heap.size, 0, none⟩) 1 1) (w.alloc (.cells #[v] e)) := by
 obtain ⟨ht, ⟨i, hi, hz, hs, _⟩, _, _⟩ := E;have hf : ∀ c : Array Value, c.size = 1 → Instr.fill (fun i => some (i, 1)) c [(0, v)] = some #[v] := by
  intro c hc;have : c = #[c[0]] := by
   apply Array.ext (by simpa using hc);intro i h1 h2;obtain rfl : i = 0 := by simp at h2; omega
   simp
  rw [this]
  simp [Instr.fill, h1]
 simp [Instr.buildSlice, run_underlying ht, sizeOf, typeInfo, hi, hs, zeroValue, hz, newRow]
 rw [hf _ (by simp)]
 simp
section
variable {P : Program} {ops : Array Oper} {Q : Exit → Act → World → Prop} {a0 : Act} {w0 : World} {A : List SP} {i : Nat} {o : Oper} {a : Act} {w w' : World} {v : Value}
def Callable (P : Program) (f : FuncId) : Prop := ∃ fn, P.funcs[f]? = some fn ∧ (fn.name == "runtime.NumGoroutine") = false ∧ fn.body.isSome = true
theorem wanted_of {j d : Nat} {b : Bool} (hgd : o.guard = some (j, b)) (hd : (ops[j]?).bind (·.dst) = some d) (h : a.tmps.getD d undef = .bool b) : Region.wanted o (yielded ops a.tmps) = true := by
 unfold Region.wanted;rw [hgd]
 simp [yielded_of hd h]
end
theorem getD_left {α : Type} (l r : List α) (d : α) (n : Nat) (h : n < l.length) : (l ++ r).getD n d = l.getD n d := by
 rw [List.getD_eq_getElem?_getD, List.getD_eq_getElem?_getD, List.getElem?_append_left h]
def maskOf (acc : List Nat) (o : Oper) : Nat := o.after.toList.foldl (fun s e => if Region.binds .any e then s ||| 2 ^ e.on ||| acc.getD e.on 0 else s) 0
def masksFrom (acc : List Nat) : List Oper → List Nat
 | [] => acc
 | o :: os => masksFrom (acc ++ [maskOf acc o]) os
def masks (ops : Array Oper) : List Nat := masksFrom [] ops.toList
def ahead (ops : Array Oper) (i p : Nat) : Bool := ((masks ops).getD p 0).testBit i
inductive Reach (ops : Array Oper) : Nat → Nat → Prop
 | one {i p : Nat} {o : Oper} (h : ops[p]? = some o) (hb : binder o i = true) : Reach ops i p
 | step {i k p : Nat} {o : Oper} (h : ops[p]? = some o) (hb : binder o k = true) (hr : Reach ops i k) : Reach ops i p
theorem maskOf_bit {acc : List Nat} {o : Oper} {i : Nat} (h : (maskOf acc o).testBit i = true) : binder o i = true ∨ ∃ k, binder o k = true ∧ (acc.getD k 0).testBit i = true := by
 unfold maskOf at h;have key : ∀ (l : List Edge) (s : Nat), (l.foldl (fun s e => if Region.binds .any e then s ||| 2 ^ e.on ||| acc.getD e.on 0 else s) s).testBit i = true →
   s.testBit i = true ∨ ∃ e ∈ l, Region.binds .any e = true ∧ (e.on = i ∨ (acc.getD e.on 0).testBit i = true) := by
  intro l
  induction l with
  | nil => intro s h; exact .inl h
  | cons e l ih =>
   intro s h;rw [List.foldl_cons] at h;rcases ih _ h with h1 | ⟨e', he', hb⟩
   ·split at h1
    ·rename_i hbd
     simp only [Nat.testBit_or, Bool.or_eq_true, Nat.testBit_two_pow, decide_eq_true_eq] at h1;rcases h1 with (h1 | h1) | h1
     ·exact .inl h1
     ·exact .inr ⟨e, by simp, hbd, .inl h1⟩
     exact .inr ⟨e, by simp, hbd, .inr h1⟩
    exact .inl h1
   exact .inr ⟨e', by simp [he'], hb⟩
 rcases key _ _ h with h1 | ⟨e, he, hbd, h2⟩
 ·simp at h1
 have hbi : binder o e.on = true := by
  unfold binder;exact List.any_eq_true.2 ⟨e, he, by simp [hbd]⟩
 rcases h2 with h2 | h2
 ·subst h2; exact .inl hbi
 exact .inr ⟨e.on, hbi, h2⟩
theorem masks_reach {ops : Array Oper} : ∀ (os : List Oper) (acc : List Nat), (∀ j, os[j]? = ops[acc.length + j]?) →
  (∀ p i, (acc.getD p 0).testBit i = true → Reach ops i p) → ∀ p i, ((masksFrom acc os).getD p 0).testBit i = true → Reach ops i p := by
 intro os
 induction os with
 | nil => intro acc _ h; exact h
 | cons o os ih =>
  intro acc ho h;refine ih (acc ++ [maskOf acc o]) (fun j => ?_) ?_
  ·have := ho (j + 1)
   simpa [Nat.add_assoc, Nat.add_comm 1 j] using this
  intro p i hb;by_cases hp : p < acc.length
  ·rw [getD_left _ _ _ _ hp] at hb;exact h p i hb
  by_cases hp2 : p = acc.length
  ·subst hp2;rw [List.getD_eq_getElem?_getD, List.getElem?_append_right (by omega)] at hb;simp only [Nat.sub_self, List.getElem?_cons_zero, Option.getD_some] at hb;have h0 : ops[acc.length]? = some o := by simpa using (ho 0).symm
   rcases maskOf_bit hb with hb | ⟨k, hk, hb⟩
   ·exact .one h0 hb
   exact .step h0 hk (h k i hb)
  rw [List.getD_eq_getElem?_getD, List.getElem?_eq_none (by simp; omega)] at hb
  simp at hb
theorem ahead_reach {ops : Array Oper} {i p : Nat} (h : ahead ops i p = true) : Reach ops i p :=
 masks_reach ops.toList [] (fun j => by simp) (fun p i hb => by simp at hb) p i h
def place (mem : List Nat) (i : Nat) : Nat := mem.idxOf i
def fresh (ops : Array Oper) (mem : List Nat) (j i : Nat) : Bool := mem.all (fun q => q == i || ahead ops q j || ahead ops i q)
def StepMem (P : Program) (ops : Array Oper) (J : List Value → World → Prop) (Q : Exit → Act → World → Prop) (o : Oper) (a : Act) (w : World) (vals : List Value) : Prop :=
 if Region.wanted o (yielded ops a.tmps) then o.wp P a w (fun a' w' => ∃ v, a' = a.put o.dst v ∧ J (vals ++ [v]) w') Q else J (vals ++ [undef]) w
theorem Reach.listed {ops : Array Oper} {listed : Array Bool} (hc : ∀ (j : Nat) (o : Oper), ops[j]? = some o → listed.getD j false = true → ∀ k, binder o k = true → listed.getD k false = true)
  {i p : Nat} (h : Reach ops i p) (hp : listed.getD p false = true) : listed.getD i false = true := by
 induction h with
 | one h hb => exact hc _ _ h hp _ hb
 | step h hb _ ih => exact ih (hc _ _ h hp _ hb)
section
variable {P : Program} {ops : Array Oper} {Q : Exit → Act → World → Prop} {a0 : Act} {w0 : World}
theorem stepMem_of {J : List Value → World → Prop} {o : Oper} {a : Act} {w w' : World} {v : Value} {vals : List Value} (hg : Region.wanted o (yielded ops a.tmps) = true) (hrun : (execOp a.eval o).run P w = .ok (.value v) w') (hA : J (vals ++ [v]) w') : StepMem P ops J Q o a w vals := by
 unfold StepMem;rw [if_pos hg];unfold Oper.wp;rw [hrun];exact ⟨v, rfl, hA⟩
theorem stepMem_skip {J : List Value → World → Prop} {o : Oper} {a : Act} {w w' : World} {vals : List Value} (hg : Region.wanted o (yielded ops a.tmps) = true) (hrun : (execOp a.eval o).run P w = .ok .skip w') (hA : J (vals ++ [undef]) w') : StepMem P ops J Q o a w vals := by
 unfold StepMem;rw [if_pos hg];unfold Oper.wp;rw [hrun];exact ⟨undef, rfl, hA⟩
theorem stepMem_calls {J : List Value → World → Prop} {o : Oper} {a : Act} {w : World} {vals : List Value} {f : FuncId} {xs : Array Operand} {ts : Array TypeId} {args : Array Value} (hf : Callable P f) (hg : Region.wanted o (yielded ops a.tmps) = true)
  (ho : o.op = .call { callee := .value (.func f), args := xs, argTypes := ts }) (hx : xs.map a.eval = args) (hc : Calls P f args w fun e w' => ∃ v, e = .returned v ∧ J (vals ++ [v]) w') : StepMem P ops J Q o a w vals := by
 unfold StepMem;rw [if_pos hg];unfold Oper.wp;obtain ⟨fn, h1, h2, h3⟩ := hf;have : execOp a.eval o = callFunc f (#[] ++ xs.map a.eval ++ #[]) := by
  obtain ⟨d, op, ty, pos, af, gd⟩ := o;simp only at ho;subst ho
  rfl
 have hb : ¬ fn.body = none := by intro h; rw [h] at h3; cases h3
 have hn : ¬ fn.name = "runtime.NumGoroutine" := by simpa using h2
 have hr : (execOp a.eval o).run P w = .ok (.enter f args) w := by rw [this, hx]; simp [callFunc, h1, hn, hb]
 rw [hr];exact hc.mono fun e w' ⟨v, he, h1⟩ => by subst he; exact ⟨v, rfl, h1⟩
end
@[reducible] def Blk (w : World) (b : Nat) (L : List Value) (t : TypeId) : Prop := w.heap[b]? = some (.cells L.toArray t (0, 0))
@[reducible] def setBlk (w : World) (b : Nat) (L : List Value) : World := w.setRow b L.toArray
theorem Blk.cell {w : World} {b : Nat} {L : List Value} {t : TypeId} (h : Blk w b L t) (i : Nat) : w.cell? ⟨b, i, none⟩ = L[i]? := by
 rw [cell_of_row w b i _ t (0, 0) h]; simp
theorem Blk.set {w : World} {b : Nat} {L : List Value} {t : TypeId} (h : Blk w b L t) (L' : List Value) : Blk (setBlk w b L') b L' t := setRow_heap w b _ _ t _ h
theorem blk_new (w : World) (L : List Value) (t : TypeId) : Blk (w.alloc (.cells L.toArray t)) w.heap.size L t := heap_alloc_new w _
structure Only (F : List Nat) (w w' : World) : Prop where
 os : w'.os = w.os
 tape : w'.tape = w.tape
 output : w'.output = w.output
 size : w.heap.size ≤ w'.heap.size
 block : ∀ k, k < w.heap.size → k ∉ F → w'.heap[k]? = w.heap[k]?
theorem Only.refl (F : List Nat) (w : World) : Only F w w := ⟨rfl, rfl, rfl, Nat.le_refl _, fun _ _ _ => rfl⟩
theorem Only.mono {F G : List Nat} {w w' : World} (h : Only F w w') (hs : ∀ k, k < w.heap.size → k ∈ F → k ∈ G) : Only G w w' :=
 ⟨h.os, h.tape, h.output, h.size, fun k hk hn => h.block k hk (fun hf => hn (hs k hk hf))⟩
theorem Only.of_ext {F : List Nat} {w w' : World} (h : Ext w w') : Only F w w' := ⟨h.os, h.tape, h.output, h.size, fun k hk _ => h.block k hk⟩
theorem Only.setBlk {F : List Nat} {a w : World} (h : Only F a w) {b : Nat} (hb : b ∈ F ∨ a.heap.size ≤ b) (L : List Value) : Only F a (setBlk w b L) :=
 ⟨h.os, h.tape, h.output, by simp [Go.Pm.setBlk]; exact h.size, fun k hk hn => by
  unfold Go.Pm.setBlk;rw [setRow_other _ _ _ _ (fun e => by subst e; rcases hb with hb | hb; exact hn hb; omega)];exact h.block k hk hn⟩
theorem Only.grown {F : List Nat} {a w w' : World} {row : Option Nat} (h : Only F a w) (hg : w.grownBy w' row) (hr : ∀ k, row = some k → k ∈ F ∨ a.heap.size ≤ k) : Only F a w' :=
 ⟨hg.os.trans h.os, hg.tape.trans h.tape, hg.output.trans h.output, Nat.le_trans h.size hg.size, fun k hk hn =>
  (hg.block k (Nat.lt_of_lt_of_le hk h.size) (fun e => by rcases hr k e.symm with h1 | h1; exact hn h1; omega)).trans (h.block k hk hn)⟩
section
variable {P : Program}
structure Wide (P : Program) (t : TypeId) (n : Nat) : Prop where
 agg : ∀ w, (isAgg t).run P w = .ok true w
 size : (P.info? t).map (·.size) = some n
theorem run_sizeOf {t : TypeId} {n : Nat} (h : (P.info? t).map (·.size) = some n) (w : World) : (sizeOf t).run P w = .ok n w := by
 obtain ⟨i, hi, hs⟩ := Option.map_eq_some_iff.1 h
 simp [sizeOf, typeInfo, hi, hs]
theorem mid_get {α : Type} (pre mid post : List α) (j : Nat) (hj : j < mid.length) : (pre ++ mid ++ post)[pre.length + j]? = some mid[j] := by
 rw [List.append_assoc, List.getElem?_append_right (by omega), Nat.add_sub_cancel_left, List.getElem?_append_left hj, List.getElem?_eq_getElem hj]
theorem run_load_mid {t e : TypeId} {w : World} {b off : Nat} {pre mid post : List Value} (hw : Wide P t mid.length) (hb : Blk w b (pre ++ mid ++ post) e) (ho : pre.length = off) :
  (Instr.loadAt t (.pointer (some ⟨b, off, none⟩))).run P w = .ok (.agg mid.toArray) w := by
 subst ho;have hl := run_loadCells_list (P := P) w ⟨b, pre.length, none⟩ mid (fun j v hv => by
  obtain ⟨hj, rfl⟩ := List.getElem?_eq_some_iff.1 hv;have : (⟨b, pre.length, none⟩ : Addr).add j = ⟨b, pre.length + j, none⟩ := by unfold Addr.add; split <;> simp_all
  rw [this, hb.cell, mid_get pre mid post j hj])
 simp [Instr.loadAt, Instr.sureAddr, loadVar, hw.agg, run_sizeOf hw.size, hl]
theorem run_store_mid {t e : TypeId} {w : World} {b off : Nat} {pre mid post : List Value} {new : List Value} (hsz : (P.info? t).map (·.size) = some new.length) (hb : Blk w b (pre ++ mid ++ post) e) (ho : pre.length = off)
  (hn : new.length = mid.length) (h1 : ∀ v ∈ new, v.oneCell' = true) :
  (Instr.storeAt t (.pointer (some ⟨b, off, none⟩)) (.agg new.toArray)).run P w = .ok () (setBlk w b (pre ++ new ++ post)) := by
 subst ho;have hst := run_storeCells_at P b pre.length e new 0 (pre ++ mid ++ post).toArray w hb (by simp; omega) h1;have e1 : (((pre ++ mid ++ post).toArray.toList.take (pre.length + 0)) ++ new ++ ((pre ++ mid ++ post).toArray.toList.drop (pre.length + 0 + new.length))) = pre ++ new ++ post := by
  rw [hn, List.append_assoc pre mid post]
  simp
 rw [e1] at hst
 simp [Instr.storeAt, Instr.sureAddr, storeVar, Value.cells, run_sizeOf hsz, hst]
variable {ops : Array Oper} {Q : Exit → Act → World → Prop} {a : Act} {w w' : World} {rest : List Oper} {o : Oper} {v : Value}
end
def Ex (P : Program) (a : Act) (o : Oper) (w : World) (v : Value) (w' : World) : Prop := (execOp a.eval o).run P w = .ok (.value v) w'
def ExU (P : Program) (a : Act) (o : Oper) (w w' : World) : Prop := (execOp a.eval o).run P w = .ok .skip w'
section
variable {P : Program} {ops : Array Oper} {Q : Exit → Act → World → Prop} {a : Act} {w w' : World} {rest : List Oper} {o : Oper} {v : Value} {A : List SP} {i : Nat} {J : List Value → World → Prop} {vals : List Value}
theorem Ex.mem (hr : Ex P a o w v w') (hg : Region.wanted o (yielded ops a.tmps) = true) (hA : J (vals ++ [v]) w') : StepMem P ops J Q o a w vals := stepMem_of hg hr hA
theorem ExU.mem (hr : ExU P a o w w') (hg : Region.wanted o (yielded ops a.tmps) = true) (hA : J (vals ++ [undef]) w') : StepMem P ops J Q o a w vals := stepMem_skip hg hr hA
variable {x y z : Operand} {t u : TypeId} {p q : Value}
theorem ex_move (ho : o.op = .move x) (hx : a.eval x = v) : Ex P a o w v w := by unfold Ex; simp [execOp, ho, hx]
theorem ex_assign (ho : o.op = .assign x) (hx : a.eval x = v) : Ex P a o w v w := by unfold Ex; simp [execOp, ho, hx]
theorem ex_nil {ad : Addr} (ho : o.op = .nilCheck x) (hx : a.eval x = .pointer (some ad)) : Ex P a o w (.pointer (some ad)) w := by unfold Ex; simp [execOp, ho, hx]
theorem ex_field {f : Nat} (ho : o.op = .fieldAddr t x f) (hx : a.eval x = p) (hr : (Instr.fieldAt t p f).run P w = .ok v w) : Ex P a o w v w := by unfold Ex; simp [execOp, ho, hx, hr]
theorem ex_index (ho : o.op = .indexAddr t x y) (hx : a.eval x = p) (hy : a.eval y = q) (hr : (Instr.indexAt t p q).run P w = .ok v w) : Ex P a o w v w := by unfold Ex; simp [execOp, ho, hx, hy, hr]
theorem ex_load (ho : o.op = .load t x) (hx : a.eval x = p) (hr : (Instr.loadAt t p).run P w = .ok v w) : Ex P a o w v w := by unfold Ex; simp [execOp, ho, hx, hr]
theorem ex_store (ho : o.op = .store t x y) (hx : a.eval x = p) (hy : a.eval y = q) (hr : (Instr.storeAt t p q).run P w = .ok () w') : ExU P a o w w' := by unfold ExU; simp [execOp, ho, hx, hy, hr]
theorem ex_alloc (ho : o.op = .alloc t) (hr : (Instr.alloc t true (.tuple #[])).run P w = .ok v w') : Ex P a o w v w' := by unfold Ex; simp [execOp, ho, hr]
theorem ex_box (ho : o.op = .box t x) (hx : a.eval x = p) (hr : (Instr.box t p).run P w = .ok v w') : Ex P a o w v w' := by unfold Ex; simp [execOp, ho, hx, hr]
theorem ex_row1 (ho : o.op = .buildSlice t 1 #[(0, x)]) (hx : a.eval x = p) (hr : (Instr.buildSlice t 1 #[(0, p)]).run P w = .ok v w') : Ex P a o w v w' := by unfold Ex; simp [execOp, ho, hx, hr]
theorem ex_slice {lo hi mx : Option Operand} {lo' hi' mx' : Option Value} (ho : o.op = .slice t x lo hi mx) (hx : a.eval x = p) (h1 : lo.map a.eval = lo') (h2 : hi.map a.eval = hi') (h3 : mx.map a.eval = mx') (hr : (Instr.sliceAt t p lo' hi' mx').run P w = .ok v w) : Ex P a o w v w := by
 unfold Ex; simp only [execOp, ho, hx, h1, h2, h3]; simp [hr]
theorem ex_un {op : UnOp} (ho : o.op = .unOp op t x) (hx : a.eval x = p) (hr : (Op.unary op p).run P w = .ok v w) : Ex P a o w v w := by unfold Ex; simp [execOp, ho, hx, hr]
theorem run_load1 {b off : Nat} (hna : ∀ w, (isAgg t).run P w = .ok false w) (hc : w.cell? ⟨b, off, none⟩ = some v) : (Instr.loadAt t (.pointer (some ⟨b, off, none⟩))).run P w = .ok v w := by
 simp [Instr.loadAt, Instr.sureAddr, loadVar, hna, hc]
theorem run_row1 {e : TypeId} {zv : Value} {n bytes : Nat} (E : Elem P t e zv n bytes) (L : List Value) (hL : L.length = n) (hn : n * 1 ≤ 16777216) : (Instr.buildSlice t 1 #[(0, .agg L.toArray)]).run P w = .ok (.slice (some ⟨w.heap.size, 0, none⟩) 1 1) (w.alloc (.cells L.toArray e)) := by
 obtain ⟨ht, ⟨i, hi, hz, hs, _⟩, hzs, hpos⟩ := E;have hf : ∀ c : Array Value, c.size = n → Instr.fill (fun i => some (i * n, n)) c [(0, .agg L.toArray)] = some L.toArray := by
  intro c hc;have key : ∀ (l : List Value) (k : Nat) (d : Array Value), d.size = k + l.length → (∀ j, j < k → d[j]? = L[j]?) → (∀ j, l[j]? = L[k + j]?) →
    (l.zipIdx k).foldl (fun cs (x : Value × Nat) => cs.setIfInBounds (0 * n + x.2) x.1) d = L.toArray := by
   intro l
   induction l with
   | nil =>
    intro k d hd h1 h2;simp only [List.zipIdx_nil, List.foldl_nil];apply Array.ext';apply List.ext_getElem?;intro j;by_cases hj : j < k
    ·have := h1 j hj
     simpa using this
    have e1 : d.toList[j]? = none := List.getElem?_eq_none (by simp at hd ⊢; omega);have e2 := h2 (j - k);rw [show k + (j - k) = j by omega] at e2;rw [e1]
    simpa using e2
   | cons x l ih =>
    intro k d hd h1 h2;rw [List.zipIdx_cons, List.foldl_cons];refine ih (k + 1) _ (by simp at hd ⊢; omega) (fun j hj => ?_) (fun j => by have := h2 (j + 1); simpa [Nat.add_assoc, Nat.add_comm 1 j] using this);by_cases hjk : j = k
    ·subst hjk;have hlt : 0 * n + j < d.size := by simp at hd ⊢; omega
     have := h2 0;simp only [Nat.zero_mul, Nat.zero_add] at hlt ⊢;rw [Array.getElem?_setIfInBounds_self_of_lt hlt]
     simpa using this
    simp only [Nat.zero_mul, Nat.zero_add];rw [Array.getElem?_setIfInBounds_ne (by omega)];exact h1 j (by omega)
  have h0 := key L 0 c (by simp; omega) (fun j hj => by omega) (fun j => by simp)
  simp [Instr.fill, Value.cells, hL, hc]
  simpa using h0
 simp [Instr.buildSlice, run_underlying ht, sizeOf, typeInfo, hi, hs, zeroValue, hz, newRow, show ¬ 16777216 < n by omega, show ¬ n = 0 by omega]
 rw [hf _ (by simp)]
 simp
end
theorem run_append_src2 {P : Program} {w : World} {t ty e : TypeId} {z : Value} {size bytes : Nat} (E : Elem P t e z size bytes)
  {v : Value} {n : Nat} {xs : List Value} (hown : w.ownsRow 0 e size v n xs) {ad : Option Addr} {m c : Nat} {news : List Value} (hok : SliceOk ad m c) (hl : news.length = m * size)
  (hsrc : Src w ad news) (h1 : ∀ u ∈ news, u.oneCell' = true) (h63 : n + m ≤ maxLen) (hbytes : (n + m) * bytes ≤ 140737488355328) :
  ∃ v' w', (Builtin.append_ #[t, t] ty #[v, .slice ad m c]).run P w = .ok v' w' ∧ w'.ownsRow 0 e size v' (n + m) (xs ++ news) ∧ w.grownBy w' v.ownBlock ∧ (v'.ownBlock = v.ownBlock ∨ ∃ b, v'.ownBlock = some b ∧ w.heap.size ≤ b) := by
 obtain ⟨v', w', hr, h2, h3⟩ := run_append_src (ty := ty) E 0 hown hok hl hsrc h1 h63 hbytes (Nat.zero_le _);refine ⟨v', w', hr, h2, h3, ?_⟩;cases hv : v'.ownBlock with
 | none =>
  rcases hown.2 with ⟨rfl, hn⟩ | ⟨g, cap, cur, rfl, _, hg, hnc, hcm, hcs, htake⟩
  ·left; rfl
  exfalso;rcases h2.2 with ⟨rfl, h0⟩ | ⟨g', cap', cur', rfl, _⟩
  ·-- nothing was appended to nothing: the value is the old one
   obtain ⟨rfl, rfl⟩ : n = 0 ∧ m = 0 := by omega
   obtain ⟨ht, ⟨i, hi, hz, hs, hby⟩, hzs, hpos⟩ := E;cases ad with
   | none =>
    have hc := hok.nil rfl;subst hc;rw [run_append_owned_none (P := P) w 0 t ty e i size ht hi _ 0 xs hown] at hr
    simp at hr
   | some a =>
    obtain rfl : news = [] := List.eq_nil_of_length_eq_zero (by simpa using hl);have := run_append_room (P := P) w t ty e i ht hi g 0 cap cur hg a 0 c [] (by simp) (by simp) (by simp) (by omega) (by simp);rw [this] at hr
    simp at hr
  simp [Value.ownBlock] at hv
 | some b =>
  rcases hown.2 with ⟨rfl, hn⟩ | ⟨g, cap, cur, rfl, _, hg, hnc, hcm, hcs, htake⟩
  ·right
   refine ⟨b, rfl, ?_⟩;have hx : xs = [] := List.eq_nil_of_length_eq_zero (by have := hown.1; rw [hn] at this; simpa using this);subst hx; subst hn;obtain ⟨v2, w2, hr2, h22, _⟩ := run_append_src (ty := ty) E w.heap.size (World.ownsRow_nil w w.heap.size e size) hok hl hsrc h1 h63 hbytes (Nat.le_refl _);rw [hr] at hr2;simp only [Result.ok.injEq] at hr2;obtain ⟨rfl, rfl⟩ := hr2;exact (h22.lt b hv).1
  obtain ⟨ht, ⟨i, hi, hz, hs, hby⟩, hzs, hpos⟩ := E;subst hs;cases ad with
  | none =>
   have hc := hok.nil rfl;have hm0 : m = 0 := by have := hok.le; omega
   subst hc; subst hm0;rw [run_append_owned_none (P := P) w 0 t ty e i i.size ht hi _ n xs hown] at hr;simp only [Result.ok.injEq] at hr
   left
   rw [← hv, hr.1]
  | some a =>
   have hnews : ∀ j u, news[j]? = some u → w.cell? (a.add j) = some u := by
    intro j u hu;obtain ⟨hj, rfl⟩ := List.getElem?_eq_some_iff.1 hu;obtain ⟨b, off, ha, hc⟩ := hsrc j hj;simp only [Option.some.injEq] at ha;subst ha;have : (⟨b, off, none⟩ : Addr).add j = ⟨b, off + j, none⟩ := by unfold Addr.add; split <;> simp_all
    rw [this]; exact hc
   by_cases hroom : n + m ≤ cap
   ·have hfit : n * i.size + news.length ≤ cur.size := by rw [hl, hcs, ← Nat.add_mul]; exact Nat.mul_le_mul_right _ hroom
    rw [run_append_room (P := P) w t ty e i ht hi g n cap cur hg a m c news hl hnews h1 hroom hfit] at hr;simp only [Result.ok.injEq] at hr
    left
    rw [← hv, ← hr.1]
    rfl
   right
   have hsmall : n + m ≤ 9223372036854775807 := by simp only [maxLen] at h63; omega
   have holds : ∀ j u, xs[j]? = some u → w.cell? ((⟨g, 0, none⟩ : Addr).add j) = some u := hown.cells (g := g) rfl;rw [run_append_grow (P := P) w t ty e i z ht hi hz ⟨g, 0, none⟩ n cap xs hown.1 holds a m c news hl hnews (by omega) (by omega) (growslice_fits (by omega) (by rw [hby]; exact hbytes))] at hr;simp only [Result.ok.injEq] at hr;refine ⟨b, rfl, ?_⟩;rw [← hr.1] at hv
   simp [Value.ownBlock] at hv
   omega
def isDefer (o : Oper) : Bool := match o.op with | .defer _ => true | _ => false
theorem not_defer {o : Oper} (h : isDefer o = false) : ∀ c, o.op ≠ .defer c := by
 intro c e;unfold isDefer at h;rw [e] at h;cases h
section
variable {l n : Nat} {P : Program} {ops : Array Oper} {Q : Exit → Act → World → Prop}
variable {a0 : Act} {w0 : World}
end
section
variable {F : Fence} {n : Nat} {P : Program} {ops : Array Oper} {Q : Exit → Act → World → Prop} {a : Act} {w w' : World} {rest : List Oper} {o : Oper} {v : Value}
theorem wpi_exG (hF : ∀ f, F.fn f) (hg : Region.wanted o (yielded ops a.tmps) = true) (hd : isDefer o = false) (hr : Ex P a o w v w') (h : wpListIn F n P ops Q rest (a.put o.dst v) w') : wpListIn F n P ops Q (o :: rest) a w := by
 refine wpListIn_step fun K hK => ?_
 rw [if_pos hg];exact ⟨fun f _ => hF f, by rw [Oper.semAt_eq _ _ _ (not_defer hd), show (execOp a.eval o).run P w = _ from hr]; exact hK _ _ h⟩
theorem wpi_not (hF : ∀ f, F.fn f) (hg : Region.wanted o (yielded ops a.tmps) = false) (h : wpListIn F n P ops Q rest (a.put o.dst undef) w) : wpListIn F n P ops Q (o :: rest) a w := by
 refine wpListIn_step fun K hK => ?_
 rw [if_neg (by rw [hg]; decide)];exact ⟨fun f _ => hF f, hK _ _ h⟩
end
theorem wideC {n : Nat} {P : Program} (f : FuncId) (args : Array Value) (w : World) (R : Ending → World → Prop) (h : Calls P f args w R) : CallsIn Fence.wide n P f args w R := callsIn_wide.2 h
structure Base where
 I : Nat → Option Obj
 lo : Nat
 os : Os
 tape : Nat → Question → Nat
 output : Array (Nat × ByteArray)
structure Base.In (B : Base) (w : World) : Prop where
 blk : ∀ b o, B.I b = some o → w.heap[b]? = some o
 lo : B.lo ≤ w.heap.size
 os : w.os = B.os
 tape : w.tape = B.tape
 output : w.output = B.output
structure Base.Le (B C : Base) : Prop where
 blk : ∀ b o, B.I b = some o → C.I b = some o
 lo : B.lo ≤ C.lo
 os : C.os = B.os
 tape : C.tape = B.tape
 output : C.output = B.output
theorem Base.Le.refl (B : Base) : B.Le B := ⟨fun _ _ h => h, Nat.le_refl _, rfl, rfl, rfl⟩
theorem Base.Le.trans {B C D : Base} (h : B.Le C) (k : C.Le D) : B.Le D := ⟨fun b o e => k.blk b o (h.blk b o e), Nat.le_trans h.lo k.lo, k.os.trans h.os, k.tape.trans h.tape, k.output.trans h.output⟩
theorem Base.In.lt {B : Base} {w : World} (h : B.In w) {b : Nat} {o : Obj} (e : B.I b = some o) : b < w.heap.size := (Array.getElem?_eq_some_iff.1 (h.blk b o e)).1
theorem Base.In.fresh {B : Base} {w : World} (h : B.In w) {b : Nat} (hb : w.heap.size ≤ b) : B.I b = none := by
 cases e : B.I b with
 | none => rfl
 | some o => have := h.lt e; omega
def Base.add (B : Base) (b : Nat) (o : Obj) : Base := { B with I := fun k => if k = b then some o else B.I k }
theorem Base.add_le {B : Base} {b : Nat} {o : Obj} (h : B.I b = .none) : B.Le (B.add b o) :=
 ⟨fun k o' e => by
  show (if k = b then some o else B.I k) = some o';rw [if_neg (fun e2 => by subst e2; rw [h] at e; cases e)]; exact e, Nat.le_refl _, rfl, rfl, rfl⟩
theorem Base.add_self {B : Base} {b : Nat} {o : Obj} : (B.add b o).I b = some o := by show (if b = b then _ else _) = _; rw [if_pos rfl]
structure Res where
 fp : List Nat
 holds : World → Prop
 stab : ∀ w w' : World, (∀ b ∈ fp, w'.heap[b]? = w.heap[b]?) → holds w → holds w'
@[reducible] def Res.cell (b : Nat) (L : List Value) (t : TypeId) : Res := ⟨[b], fun w => Blk w b L t, fun _ _ h hb => (h b (by simp)).trans hb⟩
structure Inv (B : Base) (H : List Res) (w : World) : Prop where
 base : B.In w
 own : ∀ r ∈ H, r.holds w
 lt : ∀ r ∈ H, ∀ b ∈ r.fp, b < w.heap.size
 dis : (H.flatMap (·.fp)).Nodup
 out : ∀ r ∈ H, ∀ b ∈ r.fp, B.I b = none
theorem Base.In.only {B : Base} {F : List Nat} {w w' : World} (h : B.In w) (ho : Only F w w') (hF : ∀ b ∈ F, B.I b = none) : B.In w' :=
 ⟨fun b o e => (ho.block b (h.lt e) (fun hf => by rw [hF b hf] at e; cases e)).trans (h.blk b o e), Nat.le_trans h.lo ho.size, ho.os.trans h.os, ho.tape.trans h.tape, ho.output.trans h.output⟩
theorem Inv.ext {B : Base} {H : List Res} {w w' : World} (h : Inv B H w) (he : Ext w w') : Inv B H w' :=
 ⟨h.base.only (Only.of_ext he) (F := []) (by simp), fun r hr => r.stab w w' (fun b hb => he.block b (h.lt r hr b hb)) (h.own r hr), fun r hr b hb => Nat.lt_of_lt_of_le (h.lt r hr b hb) he.size, h.dis, h.out⟩
theorem Inv.new {B : Base} {H : List Res} {w w' : World} (h : Inv B H w) (he : Ext w w') (r : Res) (hr : r.holds w') (hf : ∀ b ∈ r.fp, w.heap.size ≤ b ∧ b < w'.heap.size) (hn : r.fp.Nodup) : Inv B (r :: H) w' := by
 have h' := h.ext he;refine ⟨h'.base, fun q hq => ?_, fun q hq b hb => ?_, ?_, fun q hq b hb => ?_⟩
 ·rcases List.mem_cons.1 hq with rfl | hq
  ·exact hr
  exact h'.own q hq
 ·rcases List.mem_cons.1 hq with rfl | hq
  ·exact (hf b hb).2
  exact h'.lt q hq b hb
 ·rw [List.flatMap_cons, List.nodup_append];refine ⟨hn, h.dis, fun a ha b hb e => ?_⟩;obtain ⟨q, hq, hb⟩ := List.mem_flatMap.1 hb;have := h.lt q hq b hb;have := (hf a ha).1;omega
 rcases List.mem_cons.1 hq with rfl | hq
 ·exact h.base.fresh (hf b hb).1
 exact h'.out q hq b hb
theorem Inv.alloc {B : Base} {H : List Res} {w : World} (h : Inv B H w) (L : List Value) (t : TypeId) : Inv B (Res.cell w.heap.size L t :: H) (w.alloc (.cells L.toArray t)) :=
 h.new ((Below.refl _ _).alloc (Nat.le_refl _) _) _ (blk_new w L t) (by simp) (by simp)
theorem Inv.upd {B : Base} {r : Res} {H : List Res} {w w' : World} (h : Inv B (r :: H) w) (r' : Res) (ho : Only r.fp w w') (hr : r'.holds w') (hf : ∀ b ∈ r'.fp, b ∈ r.fp ∨ w.heap.size ≤ b) (hl : ∀ b ∈ r'.fp, b < w'.heap.size) (hn : r'.fp.Nodup) : Inv B (r' :: H) w' := by
 have hd := h.dis;rw [List.flatMap_cons, List.nodup_append] at hd;refine ⟨h.base.only ho (h.out r (by simp)), fun q hq => ?_, fun q hq b hb => ?_, ?_, fun q hq b hb => ?_⟩
 ·rcases List.mem_cons.1 hq with rfl | hq
  ·exact hr
  refine q.stab w w' (fun b hb => ho.block b (h.lt q (by simp [hq]) b hb) (fun hb' => ?_)) (h.own q (by simp [hq]));exact hd.2.2 b hb' b (List.mem_flatMap.2 ⟨q, hq, hb⟩) rfl
 ·rcases List.mem_cons.1 hq with rfl | hq
  ·exact hl b hb
  exact Nat.lt_of_lt_of_le (h.lt q (by simp [hq]) b hb) ho.size
 ·rw [List.flatMap_cons, List.nodup_append];refine ⟨hn, hd.2.1, fun a ha b hb e => ?_⟩;subst e;rcases hf a ha with h1 | h1
  ·exact hd.2.2 a h1 a hb rfl
  obtain ⟨q, hq, hb⟩ := List.mem_flatMap.1 hb;have := h.lt q (by simp [hq]) a hb;omega
 rcases List.mem_cons.1 hq with rfl | hq
 ·rcases hf b hb with h1 | h1
  ·exact h.out r (by simp) b h1
  exact h.base.fresh h1
 exact h.out q (by simp [hq]) b hb
theorem Inv.perm {B : Base} {H K : List Res} {w : World} (h : Inv B H w) (hp : H.Perm K) : Inv B K w :=
 ⟨h.base, fun r hr => h.own r (hp.mem_iff.2 hr), fun r hr => h.lt r (hp.mem_iff.2 hr), ((hp.flatMap_right _).nodup_iff).1 h.dis, fun r hr => h.out r (hp.mem_iff.2 hr)⟩
theorem perm_front {α : Type} : ∀ (k : Nat) (l : List α) (x : α), l[k]? = some x → l.Perm (x :: l.eraseIdx k)
 | 0, y :: l, x, h => by simp at h; subst h; exact List.Perm.refl _
 | k + 1, y :: l, x, h => by
  have := perm_front k l x (by simpa using h);exact (List.Perm.cons y this).trans (List.Perm.swap _ _ _)
 | _, [], x, h => by simp at h
theorem Inv.front {B : Base} {H : List Res} {w : World} (h : Inv B H w) (k : Nat) {r : Res} (hk : H[k]? = some r) : Inv B (r :: H.eraseIdx k) w := h.perm (perm_front k H r hk)
theorem Inv.drop {B : Base} {r : Res} {H : List Res} {w : World} (h : Inv B (r :: H) w) : Inv B H w :=
 ⟨h.base, fun q hq => h.own q (by simp [hq]), fun q hq => h.lt q (by simp [hq]), by have := h.dis; rw [List.flatMap_cons, List.nodup_append] at this; exact this.2.1, fun q hq => h.out q (by simp [hq])⟩
theorem flatMap_sub {K H : List Res} (hs : K.Sublist H) : (K.flatMap (·.fp)).Sublist (H.flatMap (·.fp)) := by
 induction hs with
 | slnil => exact List.Sublist.refl _
 | cons a _ ih => rw [List.flatMap_cons]; exact ih.trans (List.sublist_append_right _ _)
 | cons_cons a _ ih => rw [List.flatMap_cons, List.flatMap_cons]; exact (List.Sublist.refl _).append ih
theorem Inv.head {B : Base} {r : Res} {H : List Res} {w : World} (h : Inv B (r :: H) w) : r.holds w := h.own r (by simp)
theorem Inv.headLt {B : Base} {r : Res} {H : List Res} {w : World} (h : Inv B (r :: H) w) : ∀ b ∈ r.fp, b < w.heap.size := h.lt r (by simp)
theorem Inv.sub {B : Base} {H K : List Res} {w : World} (h : Inv B H w) (hs : K.Sublist H) : Inv B K w :=
 ⟨h.base, fun q hq => h.own q (hs.subset hq), fun q hq => h.lt q (hs.subset hq), h.dis.sublist (flatMap_sub hs), fun q hq => h.out q (hs.subset hq)⟩
theorem Inv.get {B : Base} {H : List Res} {w : World} (h : Inv B H w) (k : Nat) {r : Res} (hk : H[k]? = some r) : r.holds w := h.own r (List.mem_of_getElem? hk)
theorem Inv.as {B : Base} {r : Res} {H : List Res} {w : World} (h : Inv B (r :: H) w) (r' : Res) (hr : r'.holds w) (hf : r'.fp.Sublist r.fp) : Inv B (r' :: H) w := by
 have hd := h.dis;rw [List.flatMap_cons, List.nodup_append] at hd;refine h.upd r' (Only.refl _ _) hr (fun b hb => .inl (hf.subset hb)) (fun b hb => h.lt r (by simp) b (hf.subset hb)) (hd.1.sublist hf)
theorem Inv.put {B : Base} {b : Nat} {L : List Value} {t : TypeId} {H : List Res} {w : World} (h : Inv B (Res.cell b L t :: H) w) (L' : List Value) : Inv B (Res.cell b L' t :: H) (setBlk w b L') :=
 h.upd (Res.cell b L' t) ((Only.refl _ _).setBlk (.inl (by simp)) _) ((show Blk w b L t from h.head).set L') (fun b' hb => .inl hb) (fun b' hb => by simp at hb; subst hb; simp [setBlk]; exact h.headLt b' (by simp)) (by simp)
theorem Inv.freeze {B : Base} {b : Nat} {L : List Value} {t : TypeId} {H : List Res} {w : World} (h : Inv B (Res.cell b L t :: H) w) : Inv (B.add b (.cells L.toArray t)) H w := by
 have hd := h.dis;rw [List.flatMap_cons, List.nodup_append] at hd;refine ⟨⟨fun k o e => ?_, h.base.lo, h.base.os, h.base.tape, h.base.output⟩, h.drop.own, h.drop.lt, h.drop.dis, fun r hr k hk => ?_⟩
 ·replace e : (if k = b then some (Obj.cells L.toArray t) else B.I k) = some o := e
  split at e
  ·rename_i hkb
   subst hkb;rw [← e];exact h.head
  exact h.base.blk k o e
 show (if k = b then _ else B.I k) = none;rw [if_neg (fun e => by subst e; exact hd.2.2 k (by simp) k (List.mem_flatMap.2 ⟨r, hr, hk⟩) rfl)];exact h.drop.out r hr k hk
def Base.of (W : World) : Base := ⟨fun b => W.heap[b]?, W.heap.size, W.os, W.tape, W.output⟩
theorem Inv.start (W : World) : Inv (Base.of W) [] W := ⟨⟨fun _ _ h => h, Nat.le_refl _, rfl, rfl, rfl⟩, by simp, by simp, by simp, by simp⟩
theorem Inv.below {W : World} {B : Base} {H : List Res} {w : World} (hB : (Base.of W).Le B) (h : Inv B H w) : Below W.heap.size W w := by
 refine ⟨h.base.os.trans hB.os, h.base.tape.trans hB.tape, h.base.output.trans hB.output, Nat.le_trans hB.lo h.base.lo, fun k hk => ?_⟩;have e : W.heap[k]? = some W.heap[k] := Array.getElem?_eq_getElem hk;rw [e];exact h.base.blk k _ (hB.blk k _ e)
theorem Inv.weak {B C : Base} {H : List Res} {w : World} (hB : B.Le C) (h : Inv C H w) : Inv B H w := by
 refine ⟨⟨fun b o e => h.base.blk b o (hB.blk b o e), Nat.le_trans hB.lo h.base.lo, h.base.os.trans hB.os, h.base.tape.trans hB.tape, h.base.output.trans hB.output⟩, h.own, h.lt, h.dis, fun r hr b hb => ?_⟩;have := h.out r hr b hb;cases e : B.I b with
 | none => rfl
 | some o => rw [hB.blk b o e] at this; cases this
theorem then_normal {X : Act → World → Prop} {Q : Exit → Act → World → Prop} {a : Act} {w : World} (h : X a w) : Exit.then X Q .normal a w := h
theorem then_exit {X : Act → World → Prop} {Q : Exit → Act → World → Prop} {a : Act} {w : World} {id : Nat} (h : Q (.exit id) a w) : Exit.then X Q (.exit id) a w := h
theorem then_ret {X : Act → World → Prop} {Q : Exit → Act → World → Prop} {a : Act} {w : World} (h : Q .ret a w) : Exit.then X Q .ret a w := h
theorem blk_normal {id : Nat} {Q : Exit → Act → World → Prop} {a : Act} {w : World} (h : Q .normal a w) : Exit.inBlock id Q .normal a w := h
theorem blk_hit {id : Nat} {Q : Exit → Act → World → Prop} {a : Act} {w : World} (h : Q .normal a w) : Exit.inBlock id Q (.exit id) a w := by simp only [Exit.inBlock, if_true]; exact h
theorem blk_miss {id j : Nat} {Q : Exit → Act → World → Prop} {a : Act} {w : World} (hn : (j == id) = false) (h : Q (.exit j) a w) : Exit.inBlock id Q (.exit j) a w := by
 have : j ≠ id := by simpa using hn
 simp only [Exit.inBlock, this, if_false]; exact h
theorem blk_ret {id : Nat} {Q : Exit → Act → World → Prop} {a : Act} {w : World} (h : Q .ret a w) : Exit.inBlock id Q .ret a w := h
theorem i64_in {n : Int} (h : -9223372036854775808 ≤ n ∧ n ≤ 9223372036854775807) : IntKind.i64.wrap n = n := IntWalk.i64_in n h
theorem u8_in {n : Int} (h : 0 ≤ n ∧ n ≤ 255) : IntKind.u8.wrap n = n := by
 have : IntKind.wrap .u8 n = n % 256 := by simp [IntKind.wrap, IntKind.signed, IntKind.bits]
 rw [this]; omega
theorem u64_in {n : Int} (h : 0 ≤ n ∧ n ≤ 18446744073709551615) : IntKind.u64.wrap n = n := by
 have : IntKind.wrap .u64 n = n % 18446744073709551616 := by simp [IntKind.wrap, IntKind.signed, IntKind.bits]
 rw [this]; omega
section
variable {P : Program} {a : Act} {w w' : World} {o : Oper} {v : Value} {x y z : Operand} {t u : TypeId} {p q r : Value} {k : IntKind} {m n : Int} {b : Bool}
theorem ex_lss (ho : o.op = .binOp .lss t x y u) (hx : a.eval x = .int k m) (hy : a.eval y = .int k n) (hb : decide (m < n) = b) : Ex P a o w (.bool b) w := by
 subst hb; unfold Ex; simp [execOp, ho, hx, hy, eqGuard, binOp, Op.intCmp]
theorem ex_leq (ho : o.op = .binOp .leq t x y u) (hx : a.eval x = .int k m) (hy : a.eval y = .int k n) (hb : decide (m ≤ n) = b) : Ex P a o w (.bool b) w := by
 subst hb; unfold Ex; simp [execOp, ho, hx, hy, eqGuard, binOp, Op.intCmp]
theorem ex_gtr (ho : o.op = .binOp .gtr t x y u) (hx : a.eval x = .int k m) (hy : a.eval y = .int k n) (hb : decide (m > n) = b) : Ex P a o w (.bool b) w := by
 subst hb; unfold Ex; simp [execOp, ho, hx, hy, eqGuard, binOp, Op.intCmp]
theorem ex_geq (ho : o.op = .binOp .geq t x y u) (hx : a.eval x = .int k m) (hy : a.eval y = .int k n) (hb : decide (m ≥ n) = b) : Ex P a o w (.bool b) w := by
 subst hb; unfold Ex; simp [execOp, ho, hx, hy, eqGuard, binOp, Op.intCmp]
theorem ex_eql (ho : o.op = .binOp .eql t x y u) (hx : a.eval x = .int k m) (hy : a.eval y = .int k n) (hb : decide (m = n) = b) : Ex P a o w (.bool b) w := by
 subst hb; unfold Ex; simp [execOp, ho, hx, hy, eqGuard, binOp, Op.intCmp]; rfl
theorem ex_neq (ho : o.op = .binOp .neq t x y u) (hx : a.eval x = .int k m) (hy : a.eval y = .int k n) (hb : decide (m ≠ n) = b) : Ex P a o w (.bool b) w := by
 subst hb; unfold Ex; simp [execOp, ho, hx, hy, eqGuard, binOp, Op.intCmp]; rfl
theorem ex_add (ho : o.op = .binOp .add t x y u) (hx : a.eval x = .int k m) (hy : a.eval y = .int k n) {s : Int} (hs : k.wrap (m + n) = s) : Ex P a o w (.int k s) w := by
 subst hs; unfold Ex; simp [execOp, ho, hx, hy, eqGuard, binOp, Op.intArith]
theorem ex_sub (ho : o.op = .binOp .sub t x y u) (hx : a.eval x = .int k m) (hy : a.eval y = .int k n) {s : Int} (hs : k.wrap (m - n) = s) : Ex P a o w (.int k s) w := by
 subst hs; unfold Ex; simp [execOp, ho, hx, hy, eqGuard, binOp, Op.intArith]
theorem ex_mul (ho : o.op = .binOp .mul t x y u) (hx : a.eval x = .int k m) (hy : a.eval y = .int k n) {s : Int} (hs : k.wrap (m * n) = s) : Ex P a o w (.int k s) w := by
 subst hs; unfold Ex; simp [execOp, ho, hx, hy, eqGuard, binOp, Op.intArith]
theorem ex_quo (ho : o.op = .binOp .quo t x y u) (hx : a.eval x = .int k m) (hy : a.eval y = .int k n) (h0 : n ≠ 0) {s : Int} (hs : k.wrap (m.tdiv n) = s) : Ex P a o w (.int k s) w := by
 subst hs; unfold Ex; simp [execOp, ho, hx, hy, eqGuard, binOp, Op.intDiv, h0]
theorem ex_rem (ho : o.op = .binOp .rem t x y u) (hx : a.eval x = .int k m) (hy : a.eval y = .int k n) (h0 : n ≠ 0) {s : Int} (hs : m.tmod n = s) : Ex P a o w (.int k s) w := by
 subst hs; unfold Ex; simp [execOp, ho, hx, hy, eqGuard, binOp, Op.intDiv, h0]
theorem ex_bits {op : BinOp} (ho : o.op = .binOp op t x y u) (hx : a.eval x = .int k m) (hy : a.eval y = .int k n) (hop : (op == .and || op == .or || op == .xor) = true) {s : Int} (hs : (Op.intBits op k m n).run P w = .ok (.int k s) w) : Ex P a o w (.int k s) w := by
 unfold Ex;cases op <;> simp at hop <;> simp [execOp, ho, hx, hy, eqGuard, binOp, hs]
theorem ex_shl {k2 : IntKind} (ho : o.op = .binOp .shl t x y u) (hx : a.eval x = .int k m) (hy : a.eval y = .int k2 n) (h0 : 0 ≤ n) {s : Int} (hs : k.wrap (m * 2 ^ (min n.toNat k.bits)) = s) : Ex P a o w (.int k s) w := by
 subst hs; unfold Ex; simp [execOp, ho, hx, hy, eqGuard, binOp, Op.shift, show ¬ n < 0 by omega]
theorem ex_shr {k2 : IntKind} (ho : o.op = .binOp .shr t x y u) (hx : a.eval x = .int k m) (hy : a.eval y = .int k2 n) (h0 : 0 ≤ n) {s : Int} (hs : m.fdiv (2 ^ (min n.toNat k.bits)) = s) : Ex P a o w (.int k s) w := by
 subst hs; unfold Ex; simp [execOp, ho, hx, hy, eqGuard, binOp, Op.shift, show ¬ n < 0 by omega]
theorem ex_not (ho : o.op = .unOp .not t x) (hx : a.eval x = .bool b) {c : Bool} (hc : (!b) = c) : Ex P a o w (.bool c) w := by
 subst hc; unfold Ex; simp [execOp, ho, hx, Op.unary]
theorem ex_neg (ho : o.op = .unOp .neg t x) (hx : a.eval x = .int k m) {s : Int} (hs : k.wrap (0 - m) = s) : Ex P a o w (.int k s) w := by
 subst hs; unfold Ex; simp [execOp, ho, hx, Op.unary, Op.intArith]
theorem ex_int {k2 : IntKind} {d : TypeDesc} (h1 : P.underlying t = some d) (h2 : P.underlying u = some (.int k2)) (ho : o.op = .convert t u x) (hx : a.eval x = .int k m) {s : Int} (hs : k2.wrap m = s) : Ex P a o w (.int k2 s) w := by
 subst hs; unfold Ex; simp [execOp, ho, hx, convert, run_underlying h1, run_underlying h2, Conv.intToInt]
theorem ex_extract {vs : Array Value} {i : Nat} (ho : o.op = .extract x i) (hx : a.eval x = .tuple vs) (hv : vs[i]? = some v) : Ex P a o w v w := by
 unfold Ex; simp [execOp, ho, hx, Instr.extract, hv]
theorem ex_make (ho : o.op = .makeSlice t x y) (hx : a.eval x = p) (hy : a.eval y = q) (hr : (Instr.makeSlice t p q).run P w = .ok v w') : Ex P a o w v w' := by unfold Ex; simp [execOp, ho, hx, hy, hr]
theorem ex_pick (ho : o.op = .pick x y z) (hx : a.eval x = .bool b) (hy : a.eval (if b then y else z) = v) : Ex P a o w v w := by
 unfold Ex; cases b <;> simp [execOp, ho, hx, asBool] at hy ⊢ <;> simp [hy]
theorem ex_pisnil {c : Bool} (ht : P.underlying t = some (.pointer (P.pointee t))) {ad : Option Addr} (ho : o.op = .binOp .eql t x y u) (hx : a.eval x = .pointer ad) (hy : a.eval y = .pointer none) (hc : ad.isNone = c) : Ex P a o w (.bool c) w := by
 have hg : (eqGuard .eql t x y (.pointer ad) (.pointer none)).run P w = .ok () w := by simp [eqGuard]
 have hr : (binOp .eql t (.pointer ad) (.pointer none)).run P w = .ok (.bool c) w := by simp [binOp, run_equal_pointer_nil w t ad ht, hc]
 unfold Ex; simp [execOp, ho, hx, hy, hg, hr]
theorem ex_len0 {pa : Option Addr} {l c : Nat} {e : TypeId} (ht : P.underlying t = some (.slice e)) (ho : o.op = .call { callee := .builtin .len, args := #[x], argTypes := #[t] }) (hx : a.eval x = .slice pa l c) : Ex P a o w (.int .i64 l) w := by
 unfold Ex; simp [execOp, ho, hx, resolve, invoke, builtin, Builtin.len_, run_underlying ht, goInt]
theorem ex_lenStr {l : List UInt8} (ht : P.underlying t = some .string) (ho : o.op = .call { callee := .builtin .len, args := #[x], argTypes := #[t] }) (hx : a.eval x = .string ⟨l.toArray⟩) : Ex P a o w (.int .i64 l.length) w := by
 have hs : (ByteArray.mk l.toArray).size = l.length := rfl;unfold Ex; simp [execOp, ho, hx, resolve, invoke, builtin, Builtin.len_, run_underlying ht, goInt, hs]
theorem ex_min2 (ho : o.op = .call { callee := .builtin .min, args := #[x, y], argTypes := #[t, u] }) (hx : a.eval x = .int k m) (hy : a.eval y = .int k n) {s : Int} (hs : (if n < m then n else m) = s) : Ex P a o w (.int k s) w := by
 subst hs; unfold Ex; simp [execOp, ho, hx, hy, resolve, invoke, builtin, Builtin.min_, Builtin.min2]
theorem ex_max2 (ho : o.op = .call { callee := .builtin .max, args := #[x, y], argTypes := #[t, u] }) (hx : a.eval x = .int k m) (hy : a.eval y = .int k n) {s : Int} (hs : (if n > m then n else m) = s) : Ex P a o w (.int k s) w := by
 subst hs; unfold Ex; simp [execOp, ho, hx, hy, resolve, invoke, builtin, Builtin.max_, Builtin.max2]
theorem ex_seql {s s' : List UInt8} (ho : o.op = .binOp .eql t x y u) (hx : a.eval x = .string ⟨s.toArray⟩) (hy : a.eval y = .string ⟨s'.toArray⟩) (hb : decide (s = s') = b) : Ex P a o w (.bool b) w := by
 subst hb; unfold Ex; simp [execOp, ho, hx, hy, eqGuard, binOp, Op.stringOp]; try (rw [Bool.eq_iff_iff]; simp)
theorem ex_sneq {s s' : List UInt8} (ho : o.op = .binOp .neq t x y u) (hx : a.eval x = .string ⟨s.toArray⟩) (hy : a.eval y = .string ⟨s'.toArray⟩) (hb : decide (s ≠ s') = b) : Ex P a o w (.bool b) w := by
 subst hb; unfold Ex; simp [execOp, ho, hx, hy, eqGuard, binOp, Op.stringOp]; try (rw [Bool.eq_iff_iff]; simp)
end
@[reducible] def Res.row (e : TypeId) (size : Nat) (v : Value) (n : Nat) (xs : List Value) : Res :=
 ⟨v.ownBlock.toList, fun w => w.ownsRow 0 e size v n xs, fun w w' h hr => ⟨hr.1, by
  rcases hr.2 with h4 | ⟨g, cap, cur, rfl, hb, hg, h5⟩
  ·exact .inl h4
  exact .inr ⟨g, cap, cur, rfl, hb, (h g (by simp [Value.ownBlock])).trans hg, h5⟩⟩⟩
theorem wn {ops : Array Oper} {a : Act} {o : Oper} (hg : o.guard = none) : Region.wanted o (yielded ops a.tmps) = true := by simp [Region.wanted, hg]
section
variable {F : Fence} {n : Nat} {P : Program} {ops : Array Oper} {Q : Exit → Act → World → Prop} {a : Act} {w w' : World} {rest : List Oper} {o : Oper} {v : Value}
theorem wpi_exUG (hF : ∀ f, F.fn f) (hg : Region.wanted o (yielded ops a.tmps) = true) (hd : isDefer o = false) (hr : ExU P a o w w') (h : wpListIn F n P ops Q rest (a.put o.dst undef) w') : wpListIn F n P ops Q (o :: rest) a w := by
 refine wpListIn_step fun K hK => ?_
 rw [if_pos hg];exact ⟨fun f _ => hF f, by rw [Oper.semAt_eq _ _ _ (not_defer hd), show (execOp a.eval o).run P w = _ from hr]; exact hK _ _ h⟩
theorem wpi_callG {f : FuncId} {xs : Array Operand} {ts : Array TypeId} {args : Array Value} (hf : Callable P f) (hF : ∀ f, F.fn f) (hC : ∀ (f : FuncId) (args : Array Value) (w : World) (R : Ending → World → Prop), Calls P f args w R → CallsIn F (n - 1) P f args w R) (hdp : F.depth = none) (hg : Region.wanted o (yielded ops a.tmps) = true)
  (ho : o.op = .call { callee := .value (.func f), args := xs, argTypes := ts }) (hx : xs.map a.eval = args) (hc : Calls P f args w fun e w' => ∃ v, e = .returned v ∧ wpListIn F n P ops Q rest (a.put o.dst v) w') : wpListIn F n P ops Q (o :: rest) a w := by
 refine wpListIn_step fun K hK => ?_
 rw [if_pos hg];refine ⟨fun f _ => hF f, ?_⟩;have hd : isDefer o = false := by unfold isDefer; rw [ho]
 obtain ⟨fn, h1, h2, h3⟩ := hf;have : execOp a.eval o = callFunc f (#[] ++ xs.map a.eval ++ #[]) := by
  obtain ⟨d, op, ty, pos, af, gd⟩ := o;simp only at ho;subst ho
  rfl
 have hb : ¬ fn.body = none := by intro h; rw [h] at h3; cases h3
 have hn : ¬ fn.name = "runtime.NumGoroutine" := by simpa using h2
 have hr : (execOp a.eval o).run P w = .ok (.enter f args) w := by rw [this, hx]; simp [callFunc, h1, hn, hb]
 rw [Oper.semAt_eq _ _ _ (not_defer hd), hr, Oper.uponIn_enter];refine ⟨fun e => by simp [hdp] at e, hC _ _ _ _ (hc.mono ?_)⟩;rintro e w' ⟨v, rfl, hh⟩;exact hK _ _ hh
end
theorem Inv.load {B : Base} {H : List Res} {w : World} (hv : Inv B H w) (k off : Nat) {b : Nat} {L : List Value} {t : TypeId} (hk : H[k]? = some (Res.cell b L t)) {v : Value} (hc : L[off]? = some v) : w.cell? ⟨b, off, none⟩ = some v :=
 (Blk.cell (hv.get k hk : Blk w b L t) off).trans hc
section mem
variable {F : Fence} {n : Nat} {P : Program} {ops : Array Oper} {Q : Exit → Act → World → Prop} {a : Act} {w w' : World} {rest : List Oper} {o : Oper} {v : Value} {B : Base} {H : List Res} {t e : TypeId} {x y : Operand} {p q : Value} {L : List Value}
theorem sl_alloc (hF : ∀ f, F.fn f) (hg : Region.wanted o (yielded ops a.tmps) = true) (ho : o.op = .alloc t) (hv : Inv B H w) (hz : ∀ w, (Instr.alloc t true (.tuple #[])).run P w = .ok (.pointer (some ⟨w.heap.size, 0, none⟩)) (w.alloc (.cells L.toArray t)))
  (h : ∀ b w', Inv B (Res.cell b L t :: H) w' → wpListIn F n P ops Q rest (a.put o.dst (.pointer (some ⟨b, 0, none⟩))) w') : wpListIn F n P ops Q (o :: rest) a w :=
 wpi_exG hF hg (by unfold isDefer; rw [ho]) (ex_alloc ho (hz w)) (h _ _ (hv.alloc L t))
theorem sl_box (hF : ∀ f, F.fn f) (hg : Region.wanted o (yielded ops a.tmps) = true) (ho : o.op = .box t x) (hx : a.eval x = p) (hv : Inv B H w) (hz : ∀ w, (Instr.box t p).run P w = .ok (.pointer (some ⟨w.heap.size, 0, none⟩)) (w.alloc (.cells L.toArray t)))
  (h : ∀ b w', Inv B (Res.cell b L t :: H) w' → wpListIn F n P ops Q rest (a.put o.dst (.pointer (some ⟨b, 0, none⟩))) w') : wpListIn F n P ops Q (o :: rest) a w :=
 wpi_exG hF hg (by unfold isDefer; rw [ho]) (ex_box ho hx (hz w)) (h _ _ (hv.alloc L t))
theorem run_store1 {b off : Nat} {e : TypeId} (hz : (P.info? t).map (·.size) = some 1) (hb : Blk w b L e) (ho : off < L.length) (hc : v.cells = #[v]) (h1 : v.oneCell' = true) :
  (Instr.storeAt t (.pointer (some ⟨b, off, none⟩)) v).run P w = .ok () (setBlk w b (L.set off v)) := by
 have hst := run_storeCells_at P b off e [v] 0 _ _ hb (by simp; omega) (by simpa using h1);have hl : L.set off v = L.take off ++ v :: L.drop (off + 1) := by rw [List.set_eq_take_append_cons_drop, if_pos ho]
 simp only [Instr.storeAt, Instr.sureAddr, storeVar]
 simp [hc, Go.Pm.run_sizeOf hz]
 rw [hl]
 simpa using hst
theorem perm_set {α : Type} : ∀ (k : Nat) (l : List α) (x y : α), l[k]? = some x → (y :: l.eraseIdx k).Perm (l.set k y)
 | 0, z :: l, x, y, h => List.Perm.refl _
 | k + 1, z :: l, x, y, h => by
  have := perm_set k l x y (by simpa using h);exact (List.Perm.swap _ _ _).trans (List.Perm.cons z this)
 | _, [], x, y, h => by simp at h
theorem Inv.putAt (hv : Inv B H w) (k : Nat) {b : Nat} (hk : H[k]? = some (Res.cell b L t)) (L' : List Value) : Inv B (H.set k (Res.cell b L' t)) (setBlk w b L') :=
 ((hv.front k hk).put L').perm (perm_set k H _ _ hk)
theorem sl_storeAt (k : Nat) {b off : Nat} {L' : List Value} (hF : ∀ f, F.fn f) (hg : Region.wanted o (yielded ops a.tmps) = true) (ho : o.op = .store t x y) (hx : a.eval x = .pointer (some ⟨b, off, none⟩)) (hy : a.eval y = v) (hv : Inv B H w) (hk : H[k]? = some (Res.cell b L e)) (hz : (P.info? t).map (·.size) = some 1)
  (hoff : off < L.length) (hc : v.cells = #[v]) (h1 : v.oneCell' = true) (hL : L.set off v = L') (h : ∀ w', Inv B (H.set k (Res.cell b L' e)) w' → wpListIn F n P ops Q rest (a.put o.dst undef) w') : wpListIn F n P ops Q (o :: rest) a w := by
 subst hL;exact wpi_exUG hF hg (by unfold isDefer; rw [ho]) (ex_store ho hx hy (run_store1 hz (hv.get k hk : Blk w b L e) hoff hc h1)) (h _ (hv.putAt k hk _))
theorem sl_storeNAt (k : Nat) {b off : Nat} {new L' pre mid post : List Value} (hF : ∀ f, F.fn f) (hg : Region.wanted o (yielded ops a.tmps) = true) (ho : o.op = .store t x y) (hx : a.eval x = .pointer (some ⟨b, off, none⟩)) (hy : a.eval y = .agg new.toArray) (hv : Inv B H w) (hk : H[k]? = some (Res.cell b L e))
  (hz : (P.info? t).map (·.size) = some new.length) (hL : L = pre ++ mid ++ post) (hoff : pre.length = off) (hn : new.length = mid.length) (h1 : ∀ v ∈ new, v.oneCell' = true) (hL' : pre ++ new ++ post = L')
  (h : ∀ w', Inv B (H.set k (Res.cell b L' e)) w' → wpListIn F n P ops Q rest (a.put o.dst undef) w') : wpListIn F n P ops Q (o :: rest) a w := by
 subst hL'; subst hL;exact wpi_exUG hF hg (by unfold isDefer; rw [ho]) (ex_store ho hx hy (run_store_mid hz (hv.get k hk : Blk w b _ e) hoff hn h1)) (h _ (hv.putAt k hk _))
theorem sl_storeN {b off : Nat} {new L' pre mid post : List Value} (hF : ∀ f, F.fn f) (hg : Region.wanted o (yielded ops a.tmps) = true) (ho : o.op = .store t x y) (hx : a.eval x = .pointer (some ⟨b, off, none⟩)) (hy : a.eval y = .agg new.toArray) (hv : Inv B (Res.cell b L e :: H) w)
  (hz : (P.info? t).map (·.size) = some new.length) (hL : L = pre ++ mid ++ post) (hoff : pre.length = off) (hn : new.length = mid.length) (h1 : ∀ v ∈ new, v.oneCell' = true) (hL' : pre ++ new ++ post = L')
  (h : ∀ w', Inv B (Res.cell b L' e :: H) w' → wpListIn F n P ops Q rest (a.put o.dst undef) w') : wpListIn F n P ops Q (o :: rest) a w := by
 subst hL'; subst hL;exact wpi_exUG hF hg (by unfold isDefer; rw [ho]) (ex_store ho hx hy (run_store_mid hz hv.head hoff hn h1)) (h _ (hv.put _))
theorem sl_make {len cap : Nat} {i : TypeInfo} {z : Value} (hF : ∀ f, F.fn f) (hg : Region.wanted o (yielded ops a.tmps) = true) (ho : o.op = .makeSlice t x y) (hx : a.eval x = .int .i64 len) (hy : a.eval y = .int .i64 cap) (ht : P.underlying t = some (.slice e)) (hi : P.info? e = some i) (hz : i.zero = some z) (hlc : len ≤ cap) (hcm : cap ≤ maxLen) (hby : cap * i.bytes ≤ 140737488355328) (hv : Inv B H w)
  (h : ∀ b w', Inv B (Res.cell b (madeCells z.cells (cap * i.size)).toList e :: H) w' → wpListIn F n P ops Q rest (a.put o.dst (.slice (some ⟨b, 0, none⟩) len cap)) w') : wpListIn F n P ops Q (o :: rest) a w := by
 unfold maxLen at hcm;have hr := run_make (P := P) w t e i z ht hi hz .i64 .i64 len cap (by omega) (by omega) (by rw [Int.mul_comm, ← Int.natCast_mul]; omega) (by omega);refine wpi_exG hF hg (by unfold isDefer; rw [ho]) (ex_make ho hx hy hr) ?_;have := h _ _ (hv.alloc (madeCells z.cells (cap * i.size)).toList e)
 simpa using this
theorem run_idx {g off l c k size : Nat} (ht : P.underlying t = some (.slice (P.elem t))) (hs : ∀ w, (sizeOf (P.elem t)).run P w = .ok size w) (hk : k < l) :
  (Instr.indexAt t (.slice (some ⟨g, off, none⟩) l c) (.int .i64 (k : Int))).run P w = .ok (.pointer (some ⟨g, off + k * size, none⟩)) w := by
 rw [run_indexAt_slice (h := ht), if_pos (by omega), hs];have : (⟨g, off, none⟩ : Addr).add (k * size) = ⟨g, off + k * size, none⟩ := by unfold Addr.add; split <;> simp_all
 simp [Result.andThen, this]
theorem run_idx1 {g off l c k : Nat} (ht : P.underlying t = some (.slice (P.elem t))) (hs : ∀ w, (sizeOf (P.elem t)).run P w = .ok 1 w) (hk : k < l) :
  (Instr.indexAt t (.slice (some ⟨g, off, none⟩) l c) (.int .i64 (k : Int))).run P w = .ok (.pointer (some ⟨g, off + k, none⟩)) w := by
 have := run_idx (w := w) (g := g) (off := off) (l := l) (c := c) ht hs hk
 rwa [Nat.mul_one] at this
theorem sl_append {ad : Option Addr} {m c k size bytes : Nat} {zv : Value} {xs news : List Value} (hF : ∀ f, F.fn f) (hg : Region.wanted o (yielded ops a.tmps) = true) (ho : o.op = .call { callee := .builtin .append, args := #[x, y], argTypes := #[t, t] }) (hx : a.eval x = v) (hy : a.eval y = .slice ad m c) (E : Elem P t e zv size bytes)
  (hv : Inv B (Res.row e size v k xs :: H) w) (hok : SliceOk ad m c) (hl : news.length = m * size) (hsrc : Src w ad news) (h1 : ∀ u ∈ news, u.oneCell' = true) (h63 : k + m ≤ maxLen) (hbytes : (k + m) * bytes ≤ 140737488355328)
  (h : ∀ v' w', Inv B (Res.row e size v' (k + m) (xs ++ news) :: H) w' → wpListIn F n P ops Q rest (a.put o.dst v') w') : wpListIn F n P ops Q (o :: rest) a w := by
 obtain ⟨v', w', hr, h2, h3, h4⟩ := run_append_src2 (ty := o.type) E hv.head hok hl hsrc h1 h63 hbytes;have hex : Ex P a o w v' w' := by
  unfold Ex; simp [execOp, ho, resolve, invoke, builtin, hx, hy, hr]
 refine wpi_exG hF hg (by unfold isDefer; rw [ho]) hex (h v' w' (hv.upd _ ((Only.refl _ _).grown h3 (fun k hk => .inl (by simp [hk]))) h2 (fun b hb => ?_) (fun b hb => ?_) ?_))
 ·simp only [Option.mem_toList] at hb;rcases h4 with h4 | ⟨b', h4, h5⟩
  ·left; simp only [Option.mem_toList]; rw [← h4]; exact hb
  right; rw [h4] at hb; simp at hb; omega
 ·simp only [Option.mem_toList] at hb;exact (h2.lt b hb).2
 show v'.ownBlock.toList.Nodup;cases v'.ownBlock with
 | none => exact List.nodup_nil
 | some g => exact List.nodup_cons.2 ⟨by simp, List.nodup_nil⟩
end mem
theorem Inv.join2 {B : Base} {H K : List Res} {w : World} (h : Inv B H w) (hk : ∀ r ∈ K, r.holds w) (hl : ∀ r ∈ K, ∀ b ∈ r.fp, b < w.heap.size) (hn : (K.flatMap (·.fp)).Nodup) (ho : ∀ r ∈ K, ∀ b ∈ r.fp, B.I b = none)
  (hd : ∀ b, b ∈ K.flatMap (·.fp) → b ∉ H.flatMap (·.fp)) : Inv B (K ++ H) w := by
 refine ⟨h.base, fun r hr => ?_, fun r hr => ?_, ?_, fun r hr => ?_⟩
 ·rcases List.mem_append.1 hr with hr | hr
  ·exact hk r hr
  exact h.own r hr
 ·rcases List.mem_append.1 hr with hr | hr
  ·exact hl r hr
  exact h.lt r hr
 ·rw [List.flatMap_append, List.nodup_append];exact ⟨hn, h.dis, fun a ha b hb e => hd a ha (e ▸ hb)⟩
 rcases List.mem_append.1 hr with hr | hr
 ·exact ho r hr
 exact h.out r hr
section
variable {n : Nat} {P : Program} {ops : Array Oper} {Q : Exit → Act → World → Prop} {a0 : Act} {w0 : World}
end
section
variable {n : Nat} {P : Program} {ops : Array Oper} {Q : Exit → Act → World → Prop} {a0 : Act} {w0 : World}
end
section
variable {P : Program} {a : Act} {w w' : World} {o : Oper} {v : Value} {x y z : Operand} {t u e : TypeId} {p q r : Value}
theorem addr_add (g off k : Nat) : (⟨g, off, none⟩ : Addr).add k = ⟨g, off + k, none⟩ := by unfold Addr.add; split <;> simp_all
theorem run_from {g off n c l size : Nat} (ht : P.underlying t = some (.slice (P.elem t))) (hs : ∀ w, (sizeOf (P.elem t)).run P w = .ok size w) (h1 : l ≤ n) (h2 : l < c) :
  (Instr.sliceAt t (.slice (some ⟨g, off, none⟩) n c) (some (.int .i64 (l : Int))) none none).run P w = .ok (.slice (some ⟨g, off + l * size, none⟩) (n - l) (c - l)) w := by
 rw [run_sliceAt_slice w t _ _ _ _ ht, run_slice_l w t _ n c ht .i64 l (by omega) (by omega), hs];simp only [Result.andThen, sliced, Int.toNat_natCast, Option.map_some, addr_add, show ¬ c = l by omega, if_false]
theorem run_from1 {g off n c l : Nat} (ht : P.underlying t = some (.slice (P.elem t))) (hs : ∀ w, (sizeOf (P.elem t)).run P w = .ok 1 w) (h1 : l ≤ n) (h2 : l < c) :
  (Instr.sliceAt t (.slice (some ⟨g, off, none⟩) n c) (some (.int .i64 (l : Int))) none none).run P w = .ok (.slice (some ⟨g, off + l, none⟩) (n - l) (c - l)) w := by
 have := run_from (w := w) (g := g) (off := off) ht hs h1 h2
 rwa [Nat.mul_one] at this
theorem src_mid {b off : Nat} {pre mid post : List Value} (hb : Blk w b (pre ++ mid ++ post) t) (ho : pre.length = off) : Src w (some ⟨b, off, none⟩) mid := by
 intro i hi;refine ⟨b, off, rfl, ?_⟩;rw [hb.cell, ← ho, mid_get pre mid post i hi]
end
section
variable {P : Program} {ops : Array Oper} {Q : Exit → Act → World → Prop} {a0 : Act} {w0 : World}
end
section
variable {P : Program} {ops : Array Oper} {Q : Exit → Act → World → Prop} {A : List SP} {i : Nat} {o : Oper} {a : Act} {w : World} {t e : TypeId} {x y : Operand}
end
def RdV (B : Base) (H : List Res) (a : Option Addr) (xs : List Value) : Prop :=
 ∀ i (h : i < xs.length), ∃ b off, a = some ⟨b, off, none⟩ ∧ ((∃ arr t z, B.I b = some (.cells arr t z) ∧ arr[off + i]? = some xs[i]) ∨ ∃ L t, Res.cell b L t ∈ H ∧ L[off + i]? = some xs[i])
section
variable {B C : Base} {H K : List Res} {a : Option Addr} {xs : List Value} {w : World}
theorem RdV.cellAt (hr : RdV B H a xs) (hv : Inv B H w) (i : Nat) (h : i < xs.length) : ∃ b off, a = some ⟨b, off, none⟩ ∧ w.cell? ⟨b, off + i, none⟩ = some xs[i] := by
 obtain ⟨b, off, h1, h2⟩ := hr i h;refine ⟨b, off, h1, ?_⟩;rcases h2 with ⟨arr, t, z, h3, h4⟩ | ⟨L, t, h3, h4⟩
 ·rw [cell_of_row w b (off + i) arr t z (hv.base.blk b _ h3)];exact h4
 rw [Blk.cell (hv.own _ h3 : Blk w b L t)];exact h4
theorem RdV.src (hr : RdV B H a xs) (hv : Inv B H w) : Src w a xs := fun i h => hr.cellAt hv i h
theorem RdV.more (hr : RdV B H a xs) (hB : B.Le C) (hH : ∀ r ∈ H, r ∈ K) : RdV C K a xs := by
 intro i h;obtain ⟨b, off, h1, h2⟩ := hr i h;refine ⟨b, off, h1, ?_⟩;rcases h2 with ⟨arr, t, z, h3, h4⟩ | ⟨L, t, h3, h4⟩
 ·exact .inl ⟨arr, t, z, hB.blk _ _ h3, h4⟩
 exact .inr ⟨L, t, hH _ h3, h4⟩
theorem rdV_nil : RdV B H a [] := fun i h => by simp at h
theorem rdV_of (W : World) (h : Src W a xs) : RdV (Base.of W) H a xs := by
 intro i hi;obtain ⟨b, off, h1, h2⟩ := h i hi;refine ⟨b, off, h1, .inl ?_⟩;unfold World.cell? at h2
 split at h2
 ·rename_i c e z hb
  simp at h2
  exact ⟨c, e, z, hb, h2⟩
 cases h2
end
theorem ext_of {W w : World} {H : List Res} (h : Inv (Base.of W) H w) : Ext W w := Inv.below (Base.Le.refl _) h
section
variable {P : Program} {a : Act} {w : World} {o : Oper} {x y : Operand} {t u e : TypeId}
end
section
variable {P : Program} {w : World} {t e : TypeId}
theorem run_idxA {b off k n size : Nat} (ht : P.underlying t = some (.array n e)) (hs : ∀ w, (sizeOf e).run P w = .ok size w) (hk : k < n) :
  (Instr.indexAt t (.pointer (some ⟨b, off, none⟩)) (.int .i64 (k : Int))).run P w = .ok (.pointer (some ⟨b, off + k * size, none⟩)) w := by
 simp [Instr.indexAt, run_underlying ht, Instr.sureAddr, asIntOf, hs, hk, addr_add]
theorem run_idxA1 {b off k n : Nat} (ht : P.underlying t = some (.array n e)) (hs : ∀ w, (sizeOf e).run P w = .ok 1 w) (hk : k < n) :
  (Instr.indexAt t (.pointer (some ⟨b, off, none⟩)) (.int .i64 (k : Int))).run P w = .ok (.pointer (some ⟨b, off + k, none⟩)) w := by
 have := run_idxA (w := w) (b := b) (off := off) ht hs hk
 rwa [Nat.mul_one] at this
end
section
variable {n : Nat} {P : Program} {ops : Array Oper} {Q : Exit → Act → World → Prop} {a0 : Act} {w0 : World}
end
section
variable {P : Program} {ops : Array Oper} {Q : Exit → Act → World → Prop} {J : List Value → World → Prop} {a : Act} {w : World} {vals : List Value} {o : Oper} {v : Value} {B : Base} {H : List Res} {t e : TypeId} {x y : Operand} {L : List Value}
theorem mem_alloc (hg : Region.wanted o (yielded ops a.tmps) = true) (ho : o.op = .alloc t) (hv : Inv B H w) (hz : ∀ w, (Instr.alloc t true (.tuple #[])).run P w = .ok (.pointer (some ⟨w.heap.size, 0, none⟩)) (w.alloc (.cells L.toArray t)))
  (h : ∀ b w', Inv B (Res.cell b L t :: H) w' → J (vals ++ [.pointer (some ⟨b, 0, none⟩)]) w') : StepMem P ops J Q o a w vals :=
 Ex.mem (ex_alloc ho (hz w)) hg (h _ _ (hv.alloc L t))
theorem mem_storeAt (k : Nat) {b off : Nat} {L' : List Value} (hg : Region.wanted o (yielded ops a.tmps) = true) (ho : o.op = .store t x y) (hx : a.eval x = .pointer (some ⟨b, off, none⟩)) (hy : a.eval y = v) (hv : Inv B H w) (hk : H[k]? = some (Res.cell b L e)) (hz : (P.info? t).map (·.size) = some 1)
  (hoff : off < L.length) (hc : v.cells = #[v]) (h1 : v.oneCell' = true) (hL : L.set off v = L') (h : ∀ w', Inv B (H.set k (Res.cell b L' e)) w' → J (vals ++ [undef]) w') : StepMem P ops J Q o a w vals := by
 subst hL;exact ExU.mem (ex_store ho hx hy (run_store1 hz (hv.get k hk : Blk w b L e) hoff hc h1)) hg (h _ (hv.putAt k hk _))
end
section
variable {F : Fence} {n : Nat} {P : Program} {ops : Array Oper} {Q : Exit → Act → World → Prop} {a : Act} {w : World} {rest : List Oper} {o : Oper} {v zv : Value} {B : Base} {H : List Res} {t e : TypeId} {x : Operand} {bytes : Nat}
theorem sl_rowOne (hF : ∀ f, F.fn f) (hg : Region.wanted o (yielded ops a.tmps) = true) (ho : o.op = .buildSlice t 1 #[(0, x)]) (hx : a.eval x = v) (hv : Inv B H w) (E : Elem P t e zv 1 bytes) (h1 : v.cells = #[v])
  (h : ∀ b w', Inv B (Res.cell b [v] e :: H) w' → wpListIn F n P ops Q rest (a.put o.dst (.slice (some ⟨b, 0, none⟩) 1 1)) w') : wpListIn F n P ops Q (o :: rest) a w :=
 wpi_exG hF hg (by unfold isDefer; rw [ho]) (ex_row1 ho hx (run_buildSlice1 E w v h1)) (h _ _ (hv.alloc [v] e))
end
theorem elem_of {P : Program} {t e : TypeId} {z : Value} {size bytes : Nat} (ht : P.underlying t = some (.slice e)) (hi : (P.info? e).map (fun i => (i.zero, i.size, i.bytes)) = some (some z, size, bytes)) (hz : z.cells.size = size) (hp : 0 < size) : Elem P t e z size bytes := by
 refine ⟨ht, ?_, hz, hp⟩;obtain ⟨i, hi, h⟩ := Option.map_eq_some_iff.1 hi;simp only [Prod.mk.injEq] at h;exact ⟨i, hi, h⟩
theorem snocInd {α : Type} {p : List α → Prop} (h0 : p []) (h1 : ∀ l c, p l → p (l ++ [c])) (l : List α) : p l := by
 have key : ∀ n (l : List α), l.length = n → p l := by
  intro n
  induction n with
  | zero => intro l hl; rw [List.eq_nil_of_length_eq_zero hl]; exact h0
  | succ n ih =>
   intro l hl;have hne : l ≠ [] := fun e => by subst e; simp at hl
   rw [← List.dropLast_concat_getLast hne];exact h1 _ _ (ih _ (by simp [hl]))
 exact key _ l rfl
section
variable {P : Program} {a : Act} {w w' : World} {o : Oper} {v : Value} {x y : Operand} {t e : TypeId}
theorem ex_buildN {parts : Array (Nat × Operand)} {vs : Array (Nat × Value)} (ho : o.op = .build t parts) (hp : parts.map (fun (p : Nat × Operand) => (p.1, a.eval p.2)) = vs) (hr : (Instr.build t vs).run P w = .ok v w) : Ex P a o w v w := by
 unfold Ex;have : (parts.map fun (i, x) => (i, a.eval x)) = vs := hp
 simp [execOp, ho, this, hr]
theorem one_nil : ∀ v ∈ ([] : List Value), v.oneCell' = true := fun _ h => by cases h
theorem one_cons {v : Value} {l : List Value} (h : v.oneCell' = true) (k : ∀ v ∈ l, v.oneCell' = true) : ∀ u ∈ v :: l, u.oneCell' = true := List.forall_mem_cons.2 ⟨h, k⟩
theorem wide_of {n : Nat} (h1 : ∀ w, (isAgg t).run P w = .ok true w) (h2 : (P.info? t).map (·.size) = some n) : Wide P t n := ⟨h1, h2⟩
theorem res_cell1 {fn : Func} {r : Nat} (h : fn.results = #[.cell r t]) {tmps : Array Value} {ad : Addr} (hr : tmps.getD r undef = .pointer (some ad)) (hl : (Instr.loadAt t (.pointer (some ad))).run P w = .ok v w) : (results fn tmps).run P w = .ok v w := by
 have hl' : (loadVar t ad).run P w = .ok v w := by simpa [Instr.loadAt, Instr.sureAddr] using hl
 have hr' : tmps[r]?.getD undef = .pointer (some ad) := by rw [← hr, Array.getD_eq_getD_getElem?]
 simp [results, h, hr', asAddr, hl']
theorem res_cell3 {fn : Func} {r i j : Nat} (h : fn.results = #[.cell r t, .tmp i, .tmp j]) {tmps : Array Value} {ad : Addr} (hr : tmps.getD r undef = .pointer (some ad)) (hl : (Instr.loadAt t (.pointer (some ad))).run P w = .ok v w) : (results fn tmps).run P w = .ok (.tuple #[v, tmps.getD i undef, tmps.getD j undef]) w := by
 have hl' : (loadVar t ad).run P w = .ok v w := by simpa [Instr.loadAt, Instr.sureAddr] using hl
 have hr' : tmps[r]?.getD undef = .pointer (some ad) := by rw [← hr, Array.getD_eq_getD_getElem?]
 simp [results, h, hr', asAddr, hl']
theorem res_cell2 {fn : Func} {r i : Nat} (h : fn.results = #[.cell r t, .tmp i]) {tmps : Array Value} {ad : Addr} (hr : tmps.getD r undef = .pointer (some ad)) (hl : (Instr.loadAt t (.pointer (some ad))).run P w = .ok v w) : (results fn tmps).run P w = .ok (.tuple #[v, tmps.getD i undef]) w := by
 have hl' : (loadVar t ad).run P w = .ok v w := by simpa [Instr.loadAt, Instr.sureAddr] using hl
 have hr' : tmps[r]?.getD undef = .pointer (some ad) := by rw [← hr, Array.getD_eq_getD_getElem?]
 simp [results, h, hr', asAddr, hl']
end
section
variable {F : Fence} {n : Nat} {P : Program} {ops : Array Oper} {Q : Exit → Act → World → Prop} {a : Act} {w : World} {rest : List Oper} {o : Oper} {v : Value} {B : Base} {H : List Res} {t e : TypeId} {x y : Operand}
end
section
variable {P : Program} {ops : Array Oper} {Q : Exit → Act → World → Prop} {J : List Value → World → Prop} {a : Act} {w : World} {vals : List Value} {o : Oper} {B : Base} {H : List Res} {t e : TypeId} {x y : Operand} {L : List Value}
theorem mem_storeNAt (k : Nat) {b off : Nat} {new L' pre mid post : List Value} (hg : Region.wanted o (yielded ops a.tmps) = true) (ho : o.op = .store t x y) (hx : a.eval x = .pointer (some ⟨b, off, none⟩)) (hy : a.eval y = .agg new.toArray) (hv : Inv B H w) (hk : H[k]? = some (Res.cell b L e))
  (hz : (P.info? t).map (·.size) = some new.length) (hL : L = pre ++ mid ++ post) (hoff : pre.length = off) (hn : new.length = mid.length) (h1 : ∀ v ∈ new, v.oneCell' = true) (hL' : pre ++ new ++ post = L')
  (h : ∀ w', Inv B (H.set k (Res.cell b L' e)) w' → J (vals ++ [undef]) w') : StepMem P ops J Q o a w vals := by
 subst hL'; subst hL;exact ExU.mem (ex_store ho hx hy (run_store_mid hz (hv.get k hk : Blk w b _ e) hoff hn h1)) hg (h _ (hv.putAt k hk _))
end
theorem row_slice {w : World} {e : TypeId} {size : Nat} {v : Value} {n : Nat} {xs : List Value} (h : w.ownsRow 0 e size v n xs) : ∃ ad c, v = .slice ad n c := by
 rcases h.2 with ⟨rfl, rfl⟩ | ⟨g, cap, cur, rfl, _⟩
 ·exact ⟨_, _, rfl⟩
 exact ⟨_, _, rfl⟩
section
variable {F : Fence} {n : Nat} {P : Program} {ops : Array Oper} {Q : Exit → Act → World → Prop} {a : Act} {w : World} {rest : List Oper} {o : Oper} {B : Base} {H : List Res} {t e u : TypeId} {x : Operand}
end
section
variable {F : Fence} {n : Nat} {P : Program} {ops : Array Oper} {Q : Exit → Act → World → Prop} {a : Act} {w : World} {rest : List Oper} {o : Oper} {zv : Value} {B : Base} {H : List Res} {t e : TypeId} {x : Operand} {bytes k : Nat} {L : List Value}
theorem sl_rowAgg (hF : ∀ f, F.fn f) (hg : Region.wanted o (yielded ops a.tmps) = true) (ho : o.op = .buildSlice t 1 #[(0, x)]) (hx : a.eval x = .agg L.toArray) (hv : Inv B H w) (E : Elem P t e zv k bytes) (hL : L.length = k) (hk : k * 1 ≤ 16777216)
  (h : ∀ b w', Inv B (Res.cell b L e :: H) w' → wpListIn F n P ops Q rest (a.put o.dst (.slice (some ⟨b, 0, none⟩) 1 1)) w') : wpListIn F n P ops Q (o :: rest) a w :=
 wpi_exG hF hg (by unfold isDefer; rw [ho]) (ex_row1 ho hx (run_row1 E L hL hk)) (h _ _ (hv.alloc L e))
end
section
variable {P : Program} {ops : Array Oper} {Q : Exit → Act → World → Prop} {J : List Value → World → Prop} {a : Act} {w : World} {o : Oper} {v : Value} {vals : List Value} {B : Base} {H : List Res} {t e : TypeId} {x y : Operand}
theorem mem_append {ad : Option Addr} {m c k size bytes : Nat} {zv : Value} {xs news : List Value} (hg : Region.wanted o (yielded ops a.tmps) = true) (ho : o.op = .call { callee := .builtin .append, args := #[x, y], argTypes := #[t, t] }) (hx : a.eval x = v) (hy : a.eval y = .slice ad m c) (E : Elem P t e zv size bytes)
  (hv : Inv B (Res.row e size v k xs :: H) w) (hok : SliceOk ad m c) (hl : news.length = m * size) (hsrc : Src w ad news) (h1 : ∀ u ∈ news, u.oneCell' = true) (h63 : k + m ≤ maxLen) (hbytes : (k + m) * bytes ≤ 140737488355328)
  (h : ∀ v' w', Inv B (Res.row e size v' (k + m) (xs ++ news) :: H) w' → J (vals ++ [v']) w') : StepMem P ops J Q o a w vals := by
 obtain ⟨v', w', hr, h2, h3, h4⟩ := run_append_src2 (ty := o.type) E hv.head hok hl hsrc h1 h63 hbytes;have hex : Ex P a o w v' w' := by
  unfold Ex; simp [execOp, ho, resolve, invoke, builtin, hx, hy, hr]
 refine Ex.mem hex hg (h v' w' (hv.upd _ ((Only.refl _ _).grown h3 (fun k hk => .inl (by simp [hk]))) h2 (fun b hb => ?_) (fun b hb => ?_) ?_))
 ·simp only [Option.mem_toList] at hb;rcases h4 with h4 | ⟨b', h4, h5⟩
  ·left; simp only [Option.mem_toList]; rw [← h4]; exact hb
  right; rw [h4] at hb; simp at hb; omega
 ·simp only [Option.mem_toList] at hb;exact (h2.lt b hb).2
 show v'.ownBlock.toList.Nodup;cases v'.ownBlock with
 | none => exact List.nodup_nil
 | some g => exact List.nodup_cons.2 ⟨by simp, List.nodup_nil⟩
end
def slLen : Value → Nat
 | .slice _ n _ => n
 | _ => 0
structure Val where
 kind : Int
 text : List UInt8
 pairs : List (List UInt8 × List UInt8)
 texts : List (List UInt8)
 zset : List (Int × List UInt8)
structure Ver where
 stamp : Int
 gone : Bool
 expire : Int
 val : Val
abbrev strV (s : List UInt8) : Value := .string ⟨s.toArray⟩
def pairCells (l : List (List UInt8 × List UInt8)) : List Value := l.flatMap fun p => [strV p.1, strV p.2]
def textCells (l : List (List UInt8)) : List Value := l.map strV
def memCells (l : List (Int × List UInt8)) : List Value := l.flatMap fun m => [.int .i64 m.1, strV m.2]
theorem pairCells_len (l : List (List UInt8 × List UInt8)) : (pairCells l).length = l.length * 2 := by
 induction l with
 | nil => rfl
 | cons a l ih => rw [pairCells, List.flatMap_cons, List.length_append]; show 2 + (pairCells l).length = _; rw [ih, List.length_cons]; omega
theorem memCells_len (l : List (Int × List UInt8)) : (memCells l).length = l.length * 2 := by
 induction l with
 | nil => rfl
 | cons a l ih => rw [memCells, List.flatMap_cons, List.length_append]; show 2 + (memCells l).length = _; rw [ih, List.length_cons]; omega
theorem textCells_len (l : List (List UInt8)) : (textCells l).length = l.length * 1 := by simp [textCells]
theorem pairCells_one (l : List (List UInt8 × List UInt8)) : ∀ u ∈ pairCells l, u.oneCell' = true := by
 intro u hu;obtain ⟨p, -, h⟩ := List.mem_flatMap.1 hu;simp only [List.mem_cons, List.not_mem_nil, or_false] at h;rcases h with rfl | rfl <;> rfl
theorem memCells_one (l : List (Int × List UInt8)) : ∀ u ∈ memCells l, u.oneCell' = true := by
 intro u hu;obtain ⟨p, -, h⟩ := List.mem_flatMap.1 hu;simp only [List.mem_cons, List.not_mem_nil, or_false] at h;rcases h with rfl | rfl <;> rfl
theorem textCells_one (l : List (List UInt8)) : ∀ u ∈ textCells l, u.oneCell' = true := by
 intro u hu;obtain ⟨p, -, rfl⟩ := List.mem_map.1 hu
 rfl
def RowB (B : Base) (v : Value) (n : Nat) (xs : List Value) : Prop := ∃ ad c, v = .slice ad n c ∧ SliceOk ad n c ∧ RdV B [] ad xs
theorem RowB.more {B C : Base} {v : Value} {n : Nat} {xs : List Value} (h : RowB B v n xs) (hB : B.Le C) : RowB C v n xs := by
 obtain ⟨ad, c, h1, h2, h3⟩ := h;exact ⟨ad, c, h1, h2, h3.more hB (fun _ h => h)⟩
def ZFit (n : Int) : Prop := -9223372036854775808 ≤ n ∧ n ≤ 9223372036854775807
structure ValAt (B : Base) (v : Val) (p t z : Value) : Prop where
 p : RowB B p v.pairs.length (pairCells v.pairs)
 t : RowB B t v.texts.length (textCells v.texts)
 z : RowB B z v.zset.length (memCells v.zset)
 pm : v.pairs.length ≤ 1000000
 tm : v.texts.length ≤ 1000000
 zm : v.zset.length ≤ 1000000
 zf : ∀ m ∈ v.zset, ZFit m.1
theorem ValAt.more {B C : Base} {v : Val} {p t z : Value} (h : ValAt B v p t z) (hB : B.Le C) : ValAt C v p t z := ⟨h.p.more hB, h.t.more hB, h.z.more hB, h.pm, h.tm, h.zm, h.zf⟩
abbrev valCells (v : Val) (p t z : Value) : List Value := [.int .i64 v.kind, strV v.text, p, t, z]
abbrev verCells (v : Ver) (p t z : Value) : List Value := [.int .i64 v.stamp, .bool v.gone, .int .i64 v.expire, .int .i64 v.val.kind, strV v.val.text, p, t, z]
theorem RowB.one {B : Base} {v : Value} {n : Nat} {xs : List Value} (h : RowB B v n xs) : v.oneCell' = true := by
 obtain ⟨ad, c, rfl, -, -⟩ := h
 rfl
theorem RowB.cells {B : Base} {v : Value} {n : Nat} {xs : List Value} (h : RowB B v n xs) : v.cells = #[v] := by
 obtain ⟨ad, c, rfl, -, -⟩ := h
 rfl
def Reads (B : Base) (R : List Res) (b off : Nat) (cs : List Value) : Prop := ∀ C K w, B.Le C → (∀ r ∈ R, r ∈ K) → Inv C K w → ∀ j v, cs[j]? = some v → w.cell? ⟨b, off + j, none⟩ = some v
theorem no_res {K : List Res} : ∀ r ∈ ([] : List Res), r ∈ K := fun _ h => by cases h
theorem Reads.mid {B : Base} {R : List Res} {b off k : Nat} {pre mid post : List Value} (h : Reads B R b off (pre ++ mid ++ post)) (C : Base) (K : List Res) (w : World) (hB : B.Le C) (hR : ∀ r ∈ R, r ∈ K) (hv : Inv C K w) (hk : pre.length = k := by rfl) : ∀ j v, mid[j]? = some v → w.cell? ⟨b, off + k + j, none⟩ = some v := fun j v hj => by
 subst hk;obtain ⟨hj1, rfl⟩ := List.getElem?_eq_some_iff.1 hj;rw [Nat.add_assoc];exact h C K w hB hR hv (pre.length + j) _ (mid_get pre mid post j hj1)
def RdW (B : Base) (R : List Res) (ad : Option Addr) (xs : List Value) : Prop := ∀ i (h : i < xs.length), ∃ b off, ad = some ⟨b, off, none⟩ ∧ ∀ C K w, B.Le C → (∀ r ∈ R, r ∈ K) → Inv C K w → w.cell? ⟨b, off + i, none⟩ = some xs[i]
theorem RdV.rdW {B : Base} {ad : Option Addr} {xs : List Value} (h : RdV B [] ad xs) (R : List Res) : RdW B R ad xs := fun i hi => by
 obtain ⟨b, off, h1, -⟩ := h i hi;refine ⟨b, off, h1, fun C K w hB _ hv => ?_⟩;obtain ⟨b', off', h2, h3⟩ := (h.more hB (K := K) (fun _ h => by cases h)).cellAt hv i hi;rw [h1] at h2;cases h2;exact h3
theorem rdW_reads {B : Base} {R : List Res} {ad : Option Addr} {xs cs : List Value} {k m : Nat} (hr : RdW B R ad xs) (hk : k + m ≤ xs.length) (hm : 0 < m) (hcs : cs.length = m) (hx : ∀ j, j < m → cs[j]? = xs[k + j]?) : ∃ b off, ad = some ⟨b, off, none⟩ ∧ Reads B R b (off + k) cs := by
 obtain ⟨b, off, h1, -⟩ := hr k (by omega);refine ⟨b, off, h1, fun C K w hB hR hv j v hj => ?_⟩;have hjm : j < m := by have := (List.getElem?_eq_some_iff.1 hj).1; omega
 obtain ⟨b', off', h2, h3⟩ := hr (k + j) (by omega);rw [h1] at h2;cases h2;rw [Nat.add_assoc, h3 C K w hB hR hv];rw [hx j hjm, List.getElem?_eq_getElem (by omega)] at hj;exact hj
theorem take_next {α : Type} {l : List α} {i : Nat} {x : α} (h : l[i]? = some x) : l.take (i + 1) = l.take i ++ [x] := by
 rw [List.take_add_one, h]; rfl
theorem run_loadR {P : Program} {t : TypeId} {w : World} {b off : Nat} {cs : List Value} (hw : Wide P t cs.length) (hr : ∀ j v, cs[j]? = some v → w.cell? ⟨b, off + j, none⟩ = some v) :
  (Instr.loadAt t (.pointer (some ⟨b, off, none⟩))).run P w = .ok (.agg cs.toArray) w := by
 have hl := run_loadCells_list (P := P) w ⟨b, off, none⟩ cs (fun j v hv => by rw [addr_add]; exact hr j v hv)
 simp [Instr.loadAt, Instr.sureAddr, loadVar, hw.agg, run_sizeOf hw.size, hl]
theorem row_reads {e : TypeId} {size n c g cap : Nat} {cur : Array Value} {xs : List Value} {B : Base} (hlen : xs.length = n * size) (htake : cur.toList.take (n * size) = xs) (hI : B.I g = some (.cells cur e)) : RdV B [] (some ⟨g, 0, none⟩) xs := fun i hi => by
 refine ⟨g, 0, rfl, .inl ⟨_, _, _, hI, ?_⟩⟩;have h2 : (cur.toList.take (n * size))[i]? = xs[i]? := by rw [htake]
 rw [List.getElem?_take_of_lt (by omega), List.getElem?_eq_getElem hi] at h2;rw [Nat.zero_add, ← Array.getElem?_toList];exact h2
theorem Inv.rowBy {B : Base} {e : TypeId} {size n c : Nat} {ad : Option Addr} {xs : List Value} {H : List Res} {w : World} (hv : Inv B (Res.row e size (.slice ad n c) n xs :: H) w) :
  ∃ C : Base, B.Le C ∧ Inv C H w ∧ RdV C [] ad xs ∧ SliceOk ad n c ∧ ∀ K w', Inv C K w' → Inv B (Res.row e size (.slice ad n c) n xs :: K) w' := by
 have hr : w.ownsRow 0 e size (.slice ad n c) n xs := hv.head;have hr' := hr;rcases hr.2 with ⟨h1, h2⟩ | ⟨g, cap, cur, h1, hb, hg, hnc, hcm, hcs, htake⟩
 ·simp only [Value.slice.injEq] at h1;obtain ⟨rfl, rfl, rfl⟩ := h1;have hx : xs = [] := List.eq_nil_of_length_eq_zero (by have := hr.1; omega);subst hx;refine ⟨B, Base.Le.refl B, hv.drop, rdV_nil, ⟨by omega, by simp, fun _ => rfl⟩, fun K w' hK => ?_⟩;exact hK.new (Ext.rfl' _) (Res.row e size (.slice none 0 0) 0 []) ⟨hr'.1, .inl ⟨rfl, rfl⟩⟩ (fun b hb => by simp [Value.ownBlock] at hb) (by simp [Value.ownBlock])
 simp only [Value.slice.injEq] at h1;obtain ⟨rfl, -, rfl⟩ := h1;have hout : B.I g = none := hv.out _ (List.mem_cons_self) g (by simp [Value.ownBlock]);have hc : Inv B (Res.cell g cur.toList e :: H) w := hv.as (Res.cell g cur.toList e) (by simpa using hg) (by simp [Value.ownBlock]);have hf := hc.freeze;simp only [Array.toArray_toList] at hf;refine ⟨_, Base.add_le hout, hf, row_reads (c := c) (cap := c) hr.1 htake Base.add_self, ⟨hnc, hcm, fun h => by cases h⟩, fun K w' hK => ?_⟩;have hblk := hK.base.blk g _ Base.add_self;have hw := hK.weak (Base.add_le hout);refine Inv.join2 hw (K := [Res.row e size (.slice (some ⟨g, 0, none⟩) n c) n xs]) (fun r hr => ?_) (fun r hr b hb => ?_) ?_ (fun r hr b hb => ?_) (fun b hb hm => ?_)
 ·simp at hr; subst hr; exact ⟨hr'.1, .inr ⟨g, c, cur, rfl, by omega, hblk, hnc, hcm, hcs, htake⟩⟩
 ·simp at hr; subst hr; simp [Value.ownBlock] at hb; subst hb; exact (Array.getElem?_eq_some_iff.1 hblk).1
 ·simp [Value.ownBlock]
 ·simp at hr; subst hr; simp [Value.ownBlock] at hb; subst hb; exact hout
 simp [Value.ownBlock] at hb
 subst hb;obtain ⟨r, hr, hb⟩ := List.mem_flatMap.1 hm;have := hK.out r hr b hb;rw [Base.add_self] at this;cases this
end Go.Pm
