/- Go data in memory, read as plain data: a small universe of types, and what it means that cells read as a datum. -/
import Derived.WalkKit
import Derived.ProofKit
import Derived.OpenShut
import Derived.Laws.BytesArg
namespace Go.Pm
open Go.RowKit Go.WideShapes Go.ChangeShapes

inductive Ty where
  | int (k : IntKind)
  | bool
  | str
  | slice (t : Ty)
  | arr (n : Nat) (t : Ty)
  | unit
  | pair (t : Ty) (ts : Ty)

@[reducible] def IntTy : IntKind → Type
  | .u8 => UInt8
  | _ => Int
def encInt : (k : IntKind) → IntTy k → Int
  | .u8, c => ((c : UInt8).toNat : Int)
  | .i8, n | .i16, n | .i32, n | .i64, n | .u16, n | .u32, n | .u64, n => n

@[reducible] def Ty.den : Ty → Type
  | .int k => IntTy k
  | .bool => Bool
  | .str => List UInt8
  | .slice t => List t.den
  | .arr _ t => List t.den
  | .unit => Unit
  | .pair t ts => t.den × ts.den

@[reducible] def Ty.size : Ty → Nat
  | .int _ | .bool | .str | .slice _ => 1
  | .arr n t => n * t.size
  | .unit => 0
  | .pair t ts => t.size + ts.size

/-- What every slice's three parts meet. -/
structure SliceOk (a : Option Addr) (n cap : Nat) : Prop where
  le : n ≤ cap
  max : cap ≤ maxLen
  nil : a = none → cap = 0

/-- The cells xs read as the datum d, in world w; every block that is looked into is one of S. -/
def Rep (w : World) (S : Nat → Prop) : (t : Ty) → List Value → t.den → Prop
  | .int k, cs, d => cs = [.int k (encInt k d)] ∧ (Lit.int k (encInt k d)).wf = true
  | .bool, cs, d => cs = [.bool d]
  | .str, cs, d => cs = [.string ⟨d.toArray⟩] ∧ d.length ≤ maxLen
  | .slice t, cs, d => ∃ a cap, cs = [.slice a d.length cap] ∧ SliceOk a d.length cap ∧
      ∀ i (h : i < d.length), ∃ b off xs, a = some ⟨b, off, none⟩ ∧ S b ∧ xs.length = t.size ∧
        (∀ j (h : j < xs.length), w.cell? ⟨b, off + i * t.size + j, none⟩ = some xs[j]) ∧ Rep w S t xs d[i]
  | .arr n t, cs, d => d.length = n ∧ cs.length = n * t.size ∧ ∀ i (h : i < d.length), Rep w S t ((cs.drop (i * t.size)).take t.size) d[i]
  | .unit, cs, _ => cs = []
  | .pair t ts, cs, d => Rep w S t (cs.take t.size) d.1 ∧ Rep w S ts (cs.drop t.size) d.2

theorem Rep.frame {w w' : World} {S : Nat → Prop} (h : ∀ b, S b → w'.heap[b]? = w.heap[b]?) :
    ∀ {t : Ty} {cs : List Value} {d : t.den}, Rep w S t cs d → Rep w' S t cs d := by
  intro t
  induction t with
  | int k => exact fun hr => hr
  | bool => exact fun hr => hr
  | str => exact fun hr => hr
  | slice t ih =>
    intro cs d hr
    obtain ⟨a, cap, h1, h2, h4⟩ := hr
    refine ⟨a, cap, h1, h2, fun i hi => ?_⟩
    obtain ⟨b, off, xs, e1, e2, e3, e4, e5⟩ := h4 i hi
    refine ⟨b, off, xs, e1, e2, e3, fun j hj => ?_, ih e5⟩
    rw [← e4 j hj]
    exact World.cell?_of_block (h b e2)
  | arr n t ih =>
    intro cs d hr
    exact ⟨hr.1, hr.2.1, fun i hi => ih (hr.2.2 i hi)⟩
  | unit => exact fun hr => hr
  | pair t ts ih1 ih2 => exact fun hr => ⟨ih1 hr.1, ih2 hr.2⟩

theorem Rep.mono {w : World} {S S' : Nat → Prop} (h : ∀ b, S b → S' b) :
    ∀ {t : Ty} {cs : List Value} {d : t.den}, Rep w S t cs d → Rep w S' t cs d := by
  intro t
  induction t with
  | int k => exact fun hr => hr
  | bool => exact fun hr => hr
  | str => exact fun hr => hr
  | slice t ih =>
    intro cs d hr
    obtain ⟨a, cap, h1, h2, h4⟩ := hr
    refine ⟨a, cap, h1, h2, fun i hi => ?_⟩
    obtain ⟨b, off, xs, e1, e2, e3, e4, e5⟩ := h4 i hi
    exact ⟨b, off, xs, e1, h b e2, e3, e4, ih e5⟩
  | arr n t ih =>
    intro cs d hr
    exact ⟨hr.1, hr.2.1, fun i hi => ih (hr.2.2 i hi)⟩
  | unit => exact fun hr => hr
  | pair t ts ih1 ih2 => exact fun hr => ⟨ih1 hr.1, ih2 hr.2⟩

/-- The fields of a struct, from cell off on. -/
def FieldsFit (P : Program) (fit : TypeId → Ty → Prop) : List Field → Nat → Ty → Prop
  | [], _, .unit => True
  | f :: fs, off, .pair t ts => f.offset = off ∧ P.cellsOf f.type = t.size ∧ fit f.type t ∧ FieldsFit P fit fs (off + t.size) ts
  | _, _, _ => False

/-- A type of the program is of this form. -/
def Fits (P : Program) : Nat → TypeId → Ty → Prop
  | 0, _, _ => False
  | _ + 1, id, .int k => P.underlying id = some (.int k)
  | _ + 1, id, .bool => P.underlying id = some .bool
  | _ + 1, id, .str => P.underlying id = some .string
  | n + 1, id, .slice t => ∃ e, P.underlying id = some (.slice e) ∧ P.cellsOf e = t.size ∧ 0 < t.size ∧ Fits P n e t
  | n + 1, id, .arr m t => ∃ e, P.underlying id = some (.array m e) ∧ P.cellsOf e = t.size ∧ P.cellsOf id = m * t.size ∧ Fits P n e t
  | _ + 1, id, .unit => ∃ fs, P.underlying id = some (.struct fs) ∧ P.cellsOf id = 0 ∧ fs = #[]
  | n + 1, id, .pair t ts => ∃ fs, P.underlying id = some (.struct fs) ∧ P.cellsOf id = t.size + ts.size ∧ FieldsFit P (Fits P n) fs.toList 0 (.pair t ts)

section
variable {H : Type} {enc : TypeId × Value → H} {P : Program} {w : World}

theorem cells_at {b off n : Nat} {sp : Option Nat} {cs : List Value} {i : Nat} (h : w.cells? 0 ((⟨b, off, sp⟩ : Addr).add i) n = some cs) (hn : 0 < n) :
    (sp = none ∨ 0 < i) ∧ cs.length = n ∧ ∀ j (hj : j < cs.length), w.cell? ⟨b, off + i + j, none⟩ = some cs[j] := by
  obtain ⟨_, hl, hc⟩ := World.cells?_some h
  have key : ∀ j, j < n → ((⟨b, off, sp⟩ : Addr).add i).add j = ⟨b, off + i + j, none⟩ ∨ (i = 0 ∧ j = 0) := by
    intro j _
    unfold Addr.add
    by_cases hi : i = 0 <;> by_cases hj : j = 0 <;> simp [hi, hj]
  have h0 : sp = none ∨ 0 < i := by
    by_cases hi : i = 0
    · left
      subst hi
      have := hc 0 hn
      have h1 : ((⟨b, off, sp⟩ : Addr).add 0).add 0 = ⟨b, off, sp⟩ := by simp [Addr.add]
      rw [h1] at this
      cases sp with
      | none => rfl
      | some q =>
        have hz : w.cell? ⟨b, off, some q⟩ = none := by simp [World.cell?]; split <;> rfl
        rw [hz] at this
        have : cs[0]? = some cs[0] := List.getElem?_eq_getElem (by omega)
        simp_all
    · right; omega
  refine ⟨h0, hl, fun j hj => ?_⟩
  rw [← List.getElem?_eq_getElem hj, ← hc j (by omega)]
  rcases key j (by omega) with e | ⟨e1, e2⟩
  · rw [e]
  · subst e1; subst e2
    rcases h0 with h0 | h0
    · subst h0; simp [Addr.add]
    · omega

theorem encInt_surj (k : IntKind) (n : Int) (h : (Lit.int k n).wf = true) : ∃ d : IntTy k, encInt k d = n := by
  cases k with
  | u8 =>
    have hx : 0 ≤ n ∧ n ≤ 255 := by simpa [Lit.wf, IntKind.min, IntKind.max, IntKind.signed, IntKind.bits] using h
    refine ⟨UInt8.ofNat n.toNat, ?_⟩
    show ((UInt8.ofNat n.toNat).toNat : Int) = n
    have : (UInt8.ofNat n.toNat).toNat = n.toNat := by simp [UInt8.toNat_ofNat']; omega
    rw [this]; omega
  | i8 => exact ⟨n, rfl⟩
  | i16 => exact ⟨n, rfl⟩
  | i32 => exact ⟨n, rfl⟩
  | i64 => exact ⟨n, rfl⟩
  | u16 => exact ⟨n, rfl⟩
  | u32 => exact ⟨n, rfl⟩
  | u64 => exact ⟨n, rfl⟩

theorem exists_list {α : Type} {R : Nat → α → Prop} (n : Nat) (h : ∀ i, i < n → ∃ d, R i d) : ∃ l : List α, l.length = n ∧ ∀ i (hi : i < l.length), R i l[i] := by
  induction n with
  | zero => exact ⟨[], rfl, fun i hi => by simp at hi⟩
  | succ n ih =>
    obtain ⟨l, hl, hR⟩ := ih (fun i hi => h i (by omega))
    obtain ⟨d, hd⟩ := h n (by omega)
    refine ⟨l ++ [d], by simp [hl], fun i hi => ?_⟩
    by_cases hin : i < l.length
    · rw [List.getElem_append_left hin]; exact hR i hin
    · have : i = l.length := by simp at hi; omega
      subst this
      rw [List.getElem_append_right (by omega)]
      simpa [hl] using hd

/-- WHAT AN ARGUMENT READS AS. -/
theorem rep_of_trod : ∀ (n : Nat) (id : TypeId) (t : Ty), Fits P n id t → ∀ (fuel : Nat) (cs : List Value) (x : DataW H × List MemPlace),
    DataW.trod enc P w 0 (fun _ => true) true fuel id cs = some x → ∃ d : t.den, Rep w (· < w.heap.size) t cs d := by
  intro n
  induction n with
  | zero => intro id t hf; exact hf.elim
  | succ n ih =>
    intro id t hf fuel cs x hx
    cases t with
    | int k =>
      obtain ⟨m, rfl, _, hw⟩ := DataW.trod_int hf hx
      obtain ⟨d, hd⟩ := encInt_surj k m hw
      exact ⟨d, by rw [← hd]; exact ⟨rfl, by rw [hd]; exact hw⟩⟩
    | bool =>
      obtain ⟨b, rfl, _⟩ := DataW.trod_bool hf hx
      exact ⟨b, rfl⟩
    | str =>
      obtain ⟨s, rfl, _, hs⟩ := DataW.trod_string hf hx
      exact ⟨s.data.toList, by simp, by simpa using hs⟩
    | slice t =>
      obtain ⟨e, hu, hsz, hpos, hfe⟩ := hf
      rcases DataW.trod_slice hu hx with ⟨rfl, _⟩ | ⟨a, len, cap, elems, rest, m, _, rfl, _, _, hlc, hcm, hel, hat, _, _⟩
      · exact ⟨[], none, 0, rfl, ⟨by simp, by simp, fun _ => rfl⟩, fun i hi => by simp at hi⟩
      · obtain ⟨b, off, sp⟩ := a
        have key : ∀ i, i < len → ∃ d : t.den, ∃ xs, xs.length = t.size ∧ sp = none ∧ (∀ j (h : j < xs.length), w.cell? ⟨b, off + i * t.size + j, none⟩ = some xs[j]) ∧ Rep w (· < w.heap.size) t xs d := by
          intro i hi
          have hsp : sp = none := by
            have h0 := hat 0 (by omega)
            rw [List.getElem?_eq_getElem (by omega), Option.bind_eq_some_iff] at h0
            obtain ⟨xs, hxs, _⟩ := h0
            rw [hsz] at hxs
            have := (cells_at hxs hpos).1
            rcases this with h | h
            · exact h
            · omega
          have hi' := hat i hi
          rw [List.getElem?_eq_getElem (by omega), Option.bind_eq_some_iff] at hi'
          obtain ⟨xs, hxs, hr⟩ := hi'
          rw [hsz] at hxs
          obtain ⟨_, hl, hc⟩ := cells_at hxs hpos
          obtain ⟨d, hd⟩ := ih e t hfe _ _ _ hr
          exact ⟨d, xs, hl, hsp, hc, hd⟩
        obtain ⟨l, hl, hR⟩ := exists_list len key
        refine ⟨l, some ⟨b, off, sp⟩, cap, by rw [hl], ⟨by omega, hcm, fun h => by cases h⟩, fun i hi => ?_⟩
        obtain ⟨xs, h1, h2, h3, h4⟩ := hR i hi
        refine ⟨b, off, xs, by rw [h2], ?_, h1, h3, h4⟩
        have := h3 0 (by omega)
        exact World.block_lt_of_cell? w _ this
    | arr m t =>
      obtain ⟨e, hu, hsz, hsz2, hfe⟩ := hf
      obtain ⟨xs, k, _, _, hlen, hxl, hat⟩ := DataW.trod_array hu hx
      have key : ∀ i, i < m → ∃ d : t.den, Rep w (· < w.heap.size) t ((cs.drop (i * t.size)).take t.size) d := by
        intro i hi
        have h0 := hat i hi
        rw [List.getElem?_eq_getElem (by omega), hsz] at h0
        exact ih e t hfe _ _ _ h0
      obtain ⟨l, hl, hR⟩ := exists_list m key
      exact ⟨l, hl, by omega, hR⟩
    | unit =>
      obtain ⟨fs, hu, hsz, rfl⟩ := hf
      obtain ⟨xs, k, _, _, hlen, _, _⟩ := DataW.trod_struct hu hx
      exact ⟨(), List.eq_nil_of_length_eq_zero (by omega)⟩
    | pair t ts =>
      obtain ⟨fs, hu, hsz, hff⟩ := hf
      obtain ⟨xs, k, _, _, hlen, hxl, hat⟩ := DataW.trod_struct hu hx
      have go : ∀ (fl : List Field) (i off : Nat) (u : Ty), FieldsFit P (Fits P n) fl off u → (∀ j, fs[i + j]? = fl[j]?) → (off + u.size = cs.length) →
          ∃ d : u.den, Rep w (· < w.heap.size) u (cs.drop off) d := by
        intro fl
        induction fl with
        | nil =>
          intro i off u hu' _ hoff
          cases u <;> simp only [FieldsFit] at hu'
          refine ⟨(), ?_⟩
          show cs.drop off = []
          exact List.drop_eq_nil_of_le (by simp [Ty.size] at hoff; omega)
        | cons f fl ihf =>
          intro i off u hu' hfs hoff
          cases u <;> simp only [FieldsFit] at hu'
          rename_i u us
          obtain ⟨rfl, hc, hfit, hrest⟩ := hu'
          have h0 := hat i f (by simpa using hfs 0)
          have hix : i < xs.length := by
            have := hfs 0
            simp at this
            have := (Array.getElem?_eq_some_iff.1 this).1
            omega
          rw [List.getElem?_eq_getElem hix, hc] at h0
          obtain ⟨d, hd⟩ := ih _ _ hfit _ _ _ h0
          obtain ⟨ds, hds⟩ := ihf (i + 1) (f.offset + u.size) us hrest (fun j => by have := hfs (j + 1); simpa [Nat.add_assoc, Nat.add_comm 1 j] using this) (by simp [Ty.size] at hoff; omega)
          exact ⟨(d, ds), hd, by rw [List.drop_drop]; exact hds⟩
      have := go fs.toList 0 0 (.pair t ts) hff (fun j => by simp) (by simp [Ty.size]; omega)
      simpa using this

/-- The one value that stands for these cells, as an argument or in a slot. -/
def Ty.flat : Ty → Bool
  | .arr .. | .unit | .pair .. => true
  | _ => false
def Ty.val (t : Ty) (cs : List Value) : Value := if t.flat then .agg cs.toArray else cs.headD undef

theorem arg_val {n : Nat} {id : TypeId} {t : Ty} (hf : Fits P n id t) {base : Nat} {v : Value} (hv : Value.okWide P w .any base id v) : v = t.val v.cells.toList := by
  cases n with
  | zero => exact hf.elim
  | succ n =>
    cases t with
    | int k => obtain ⟨m, rfl⟩ := okWide_int hf hv; rfl
    | bool => obtain ⟨m, rfl⟩ := okWide_bool hf hv; rfl
    | str => obtain ⟨m, rfl⟩ := okWide_string hf hv; rfl
    | slice t => obtain ⟨e, hu, _⟩ := hf; obtain ⟨a, l, c, rfl⟩ := okWide_slice hu hv; rfl
    | arr m t =>
      obtain ⟨e, hu, _⟩ := hf
      unfold Value.okWide at hv
      rw [hu] at hv
      obtain ⟨cs, rfl, _⟩ := hv
      simp [Ty.val, Ty.flat, Value.cells]
    | unit => obtain ⟨fs, hu, _⟩ := hf; obtain ⟨cs, rfl, _⟩ := okWide_struct hu hv; simp [Ty.val, Ty.flat, Value.cells]
    | pair t ts => obtain ⟨fs, hu, _⟩ := hf; obtain ⟨cs, rfl, _⟩ := okWide_struct hu hv; simp [Ty.val, Ty.flat, Value.cells]

/-- AN ARGUMENT, OPENED. -/
theorem arg_rep {n : Nat} {id : TypeId} {t : Ty} (hf : Fits P n id t) {base : Nat} {v : Value} (hv : Value.okWide P w .any base id v) {d : DataW H} {p : List MemPlace}
    (h : DataW.Trod enc P w 0 (fun _ => true) true id v d p) : ∃ (cs : List Value) (x : t.den), v = t.val cs ∧ Rep w (· < w.heap.size) t cs x := by
  obtain ⟨fuel, h⟩ := h
  obtain ⟨x, hx⟩ := rep_of_trod n id t hf fuel _ _ h
  exact ⟨_, x, arg_val hf hv, hx⟩
end

/-- The bytes behind an address. -/
def Bytes (w : World) (S : Nat → Prop) (a : Option Addr) (l : List UInt8) : Prop :=
  ∀ i (h : i < l.length), ∃ b off, a = some ⟨b, off, none⟩ ∧ S b ∧ w.cell? ⟨b, off + i, none⟩ = some (.int .u8 (l[i].toNat : Int))

theorem wf_u8 (c : UInt8) : (Lit.int .u8 (c.toNat : Int)).wf = true := by
  have := c.toNat_lt
  simp [Lit.wf, IntKind.min, IntKind.max, IntKind.signed, IntKind.bits]; omega

theorem rep_bytes {w : World} {S : Nat → Prop} {cs : List Value} {l : List UInt8} :
    Rep w S (.slice (.int .u8)) cs l ↔ ∃ a cap, cs = [.slice a l.length cap] ∧ SliceOk a l.length cap ∧ Bytes w S a l := by
  constructor
  · rintro ⟨a, cap, h1, h2, h4⟩
    refine ⟨a, cap, h1, h2, fun i hi => ?_⟩
    obtain ⟨b, off, xs, e1, e2, e3, e4, e5, e6⟩ := h4 i hi
    refine ⟨b, off, e1, e2, ?_⟩
    have := e4 0 (by rw [e3]; decide)
    simp only [e5, List.getElem_cons_zero, Ty.size, Nat.mul_one, Nat.add_zero] at this
    exact this
  · rintro ⟨a, cap, h1, h2, h4⟩
    refine ⟨a, cap, h1, h2, fun i hi => ?_⟩
    obtain ⟨b, off, e1, e2, e3⟩ := h4 i hi
    refine ⟨b, off, [_], e1, e2, rfl, fun j hj => ?_, rfl, wf_u8 _⟩
    obtain rfl : j = 0 := by simp at hj; omega
    show w.cell? ⟨b, off + i * 1 + 0, none⟩ = _
    rw [Nat.mul_one, Nat.add_zero]
    exact e3

theorem Bytes.frame {w w' : World} {S : Nat → Prop} {a : Option Addr} {l : List UInt8} (hb : Bytes w S a l) (h : ∀ b, S b → w'.heap[b]? = w.heap[b]?) : Bytes w' S a l := by
  intro i hi
  obtain ⟨b, off, e1, e2, e3⟩ := hb i hi
  exact ⟨b, off, e1, e2, by rw [← e3]; exact World.cell?_of_block (h b e2)⟩
theorem Bytes.mono {w : World} {S S' : Nat → Prop} {a : Option Addr} {l : List UInt8} (hb : Bytes w S a l) (h : ∀ b, S b → S' b) : Bytes w S' a l := by
  intro i hi
  obtain ⟨b, off, e1, e2, e3⟩ := hb i hi
  exact ⟨b, off, e1, h b e2, e3⟩

/-- The rows of bytes behind an address. -/
def Rows8 (w : World) (S : Nat → Prop) (a : Option Addr) (ls : List (List UInt8)) : Prop :=
  ∀ i (h : i < ls.length), ∃ b off a' c', a = some ⟨b, off, none⟩ ∧ S b ∧ w.cell? ⟨b, off + i, none⟩ = some (.slice a' ls[i].length c') ∧ SliceOk a' ls[i].length c' ∧ Bytes w S a' ls[i]

theorem rep_rows8 {w : World} {S : Nat → Prop} {cs : List Value} {ls : List (List UInt8)} :
    Rep w S (.slice (.slice (.int .u8))) cs ls ↔ ∃ a cap, cs = [.slice a ls.length cap] ∧ SliceOk a ls.length cap ∧ Rows8 w S a ls := by
  constructor
  · rintro ⟨a, cap, h1, h2, h4⟩
    refine ⟨a, cap, h1, h2, fun i hi => ?_⟩
    obtain ⟨b, off, xs, e1, e2, e3, e4, e5⟩ := h4 i hi
    obtain ⟨a', c', f1, f2, f4⟩ := rep_bytes.1 e5
    refine ⟨b, off, a', c', e1, e2, ?_, f2, f4⟩
    have := e4 0 (by rw [e3]; decide)
    simp only [f1, List.getElem_cons_zero, Ty.size, Nat.mul_one, Nat.add_zero] at this
    exact this
  · rintro ⟨a, cap, h1, h2, h4⟩
    refine ⟨a, cap, h1, h2, fun i hi => ?_⟩
    obtain ⟨b, off, a', c', e1, e2, e3, f2, f4⟩ := h4 i hi
    refine ⟨b, off, [_], e1, e2, rfl, fun j hj => ?_, rep_bytes.2 ⟨a', c', rfl, f2, f4⟩⟩
    obtain rfl : j = 0 := by simp at hj; omega
    show w.cell? ⟨b, off + i * 1 + 0, none⟩ = _
    rw [Nat.mul_one, Nat.add_zero]
    exact e3

theorem cell_new (w : World) (cs : Array Value) (t : TypeId) (f : Nat × Nat) (k : Nat) : (w.alloc (.cells cs t f)).cell? ⟨w.heap.size, k, none⟩ = cs[k]? := by
  unfold World.cell?
  rw [show (w.alloc (.cells cs t f)).heap[(⟨w.heap.size, k, none⟩ : Addr).block]? = some (.cells cs t f) from heap_alloc_new w _]
  rfl
theorem heap_old (w : World) (o : Obj) (b : Nat) (h : b < w.heap.size) : (w.alloc o).heap[b]? = w.heap[b]? := Below.heap_alloc w o b h

/-- one row -/
theorem rows8_one {w : World} {S : Nat → Prop} {b n c : Nat} {a : Option Addr} {l : List UInt8} (hS : S b) (hc : w.cell? ⟨b, 0, none⟩ = some (.slice a n c)) (hb : Bytes w S a l) (hn : n = l.length) (h1 : SliceOk a n c) :
    Rows8 w S (some ⟨b, 0, none⟩) [l] := by
  subst hn
  intro i hi
  obtain rfl : i = 0 := by simp at hi; omega
  exact ⟨b, 0, a, c, rfl, hS, hc, h1, hb⟩
theorem Bytes.alloc {w : World} {a : Option Addr} {l : List UInt8} (hb : Bytes w (· < w.heap.size) a l) (o : Obj) : Bytes (w.alloc o) (· < (w.alloc o).heap.size) a l :=
  (hb.frame (fun b hb => heap_old w _ b hb)).mono (fun b hb => by simp; omega)
theorem rows8_nil (w : World) (S : Nat → Prop) (a : Option Addr) : Rows8 w S a [] := fun i hi => by simp at hi
/-- a byte, as a value -/
@[reducible] def B8 (c : UInt8) : Value := .int .u8 (c.toNat : Int)
/-- bytes in a new block -/
theorem bytes_new {w : World} {cs : Array Value} {l : List UInt8} (t : TypeId) (f : Nat × Nat) (h : cs.toList.take l.length = l.map B8) :
    Bytes (w.alloc (.cells cs t f)) (· < (w.alloc (.cells cs t f)).heap.size) (some ⟨w.heap.size, 0, none⟩) l := by
  intro i hi
  refine ⟨w.heap.size, 0, rfl, by simp, ?_⟩
  rw [Nat.zero_add, cell_new]
  have h2 : (cs.toList.take l.length)[i]? = some (B8 l[i]) := by rw [h]; simp [hi]
  rw [List.getElem?_take_of_lt hi] at h2
  simpa using h2

/-- What is behind an address, cell by cell. -/
def Src (w : World) (a : Option Addr) (xs : List Value) : Prop := ∀ i (h : i < xs.length), ∃ b off, a = some ⟨b, off, none⟩ ∧ w.cell? ⟨b, off + i, none⟩ = some xs[i]

/-- The element type's row of the program's table. -/
structure Elem (P : Program) (t e : TypeId) (z : Value) (size bytes : Nat) : Prop where
  ht : P.underlying t = some (.slice e)
  hi : ∃ i, P.info? e = some i ∧ i.zero = some z ∧ i.size = size ∧ i.bytes = bytes
  hz : z.cells.size = size
  pos : 0 < size

/-- APPEND TO A SLICE OF THE CALL's OWN, FROM WHATEVER SOURCE. -/
theorem run_append_src {P : Program} {w : World} {t ty e : TypeId} {z : Value} {size bytes : Nat} (E : Elem P t e z size bytes) (base : Nat)
    {v : Value} {n : Nat} {xs : List Value} (hown : w.ownsRow base e size v n xs) {ad : Option Addr} {m c : Nat} {news : List Value} (hok : SliceOk ad m c) (hl : news.length = m * size)
    (hsrc : Src w ad news) (h1 : ∀ u ∈ news, u.oneCell' = true) (h63 : n + m ≤ maxLen) (hbytes : (n + m) * bytes ≤ 140737488355328) (hbase : base ≤ w.heap.size) :
    ∃ v' w', (Builtin.append_ #[t, t] ty #[v, .slice ad m c]).run P w = .ok v' w' ∧ w'.ownsRow base e size v' (n + m) (xs ++ news) ∧ w.grownBy w' v.ownBlock := by
  obtain ⟨ht, ⟨i, hi, hz, hs, hby⟩, hzs, hpos⟩ := E
  cases ad with
  | none =>
    have hc := hok.nil rfl
    have hm : m = 0 := by have := hok.le; omega
    subst hc; subst hm
    obtain rfl : news = [] := List.eq_nil_of_length_eq_zero (by simpa using hl)
    exact ⟨v, w, run_append_owned_none (P := P) w base t ty e i size ht hi v n xs hown, by simpa using hown, World.grownBy.refl _ _⟩
  | some a =>
    have hnews : ∀ j u, news[j]? = some u → w.cell? (a.add j) = some u := by
      intro j u hu
      obtain ⟨hj, rfl⟩ := List.getElem?_eq_some_iff.1 hu
      obtain ⟨b, off, ha, hc⟩ := hsrc j hj
      simp only [Option.some.injEq] at ha
      subst ha
      have : (⟨b, off, none⟩ : Addr).add j = ⟨b, off + j, none⟩ := by unfold Addr.add; split <;> simp_all
      rw [this]; exact hc
    obtain ⟨v', w', hr, h2, h3, _⟩ := run_append_own (P := P) w base t ty e i z size bytes ht hi hz hs hby hzs hpos v n xs hown a m c news hl hnews h1 h63 hbytes hbase
    exact ⟨v', w', hr, h2, h3⟩

theorem wpList_append_src {P : Program} (w : World) {ops : Array Oper} {rest : List Oper} {o : Oper} {a : Act} {Q : Exit → Act → World → Prop} (hgd : o.guard = none) (s x : Operand) (t : TypeId)
    (ho : o.op = .call { callee := .builtin .append, args := #[s, x], argTypes := #[t, t] }) {e : TypeId} {z : Value} {size bytes : Nat} (E : Elem P t e z size bytes) (base : Nat)
    {v : Value} {n : Nat} {xs : List Value} (hs : a.eval s = v) (hown : w.ownsRow base e size v n xs) {ad : Option Addr} {m c : Nat} {news : List Value} (hx : a.eval x = .slice ad m c) (hok : SliceOk ad m c)
    (hl : news.length = m * size) (hsrc : Src w ad news) (h1 : ∀ u ∈ news, u.oneCell' = true) (h63 : n + m ≤ maxLen) (hbytes : (n + m) * bytes ≤ 140737488355328) (hbase : base ≤ w.heap.size)
    (h : ∀ v' w', w'.ownsRow base e size v' (n + m) (xs ++ news) → w.grownBy w' v.ownBlock → wpList P ops Q rest (a.put o.dst v') w') : wpList P ops Q (o :: rest) a w := by
  refine wpList_plain hgd fun K hK => ?_
  obtain ⟨v', w', hr, h2, h3⟩ := run_append_src (ty := o.type) E base hown hok hl hsrc h1 h63 hbytes hbase
  unfold Oper.wp execOp
  simp only [ho, resolve, invoke, builtin, Sem.run_bind, Sem.run_pure, Result.andThen_ok, List.map_toArray, List.map_cons, List.map_nil, hs, hx, hr]
  exact hK _ _ (h v' w' h2 h3)

theorem Bytes.src {w : World} {S : Nat → Prop} {a : Option Addr} {l : List UInt8} (h : Bytes w S a l) : Src w a (l.map B8) := by
  intro i hi
  obtain ⟨b, off, h1, _, h3⟩ := h i (by simpa using hi)
  exact ⟨b, off, h1, by simpa using h3⟩
theorem oneCell_bytes (l : List UInt8) : ∀ u ∈ l.map B8, u.oneCell' = true := by
  intro u hu
  obtain ⟨c, _, rfl⟩ := List.mem_map.1 hu
  rfl
/-- a row of bytes of the call's own reads as its bytes -/
theorem owns_bytes {w : World} {base : Nat} {e : TypeId} {v : Value} {l : List UInt8} (h : w.ownsRow base e 1 v l.length (l.map B8)) :
    ∃ a cap, v = .slice a l.length cap ∧ SliceOk a l.length cap ∧ Bytes w (fun b => base ≤ b ∧ b < w.heap.size ∧ v.ownBlock = some b) a l := by
  rcases h.2 with ⟨rfl, hn⟩ | ⟨g, cap, cur, rfl, hb, hg, h1, h2, h3, h4⟩
  · exact ⟨none, 0, by rw [hn], ⟨by omega, by simp, fun _ => rfl⟩, fun i hi => by omega⟩
  · refine ⟨some ⟨g, 0, none⟩, cap, rfl, ⟨h1, h2, fun h => by cases h⟩, fun i hi => ⟨g, 0, rfl, ⟨hb, (Array.getElem?_eq_some_iff.1 hg).1, rfl⟩, ?_⟩⟩
    have := h.cellAt i (by omega)
    rw [Nat.zero_add, this]
    simp [hi]

theorem Rows8.frame {w w' : World} {S : Nat → Prop} {a : Option Addr} {ls : List (List UInt8)} (hb : Rows8 w S a ls) (h : ∀ b, S b → w'.heap[b]? = w.heap[b]?) : Rows8 w' S a ls := by
  intro i hi
  obtain ⟨b, off, a', c', e1, e2, e3, e4, e5⟩ := hb i hi
  exact ⟨b, off, a', c', e1, e2, by rw [← e3]; exact World.cell?_of_block (h b e2), e4, e5.frame h⟩
theorem flat_succ {α : Type} (ls : List (List α)) (k : Nat) (h : k < ls.length) : (ls.take (k + 1)).flatten = (ls.take k).flatten ++ ls[k] := by
  rw [List.take_succ_eq_append_getElem h, List.flatten_append, List.flatten_cons, List.flatten_nil, List.append_nil]

/-- string(b) -/
theorem run_str_of_bytes {P : Program} {w : World} {S : Nat → Prop} {a : Option Addr} {n c : Nat} {l : List UInt8} {src dst e : TypeId} (hs : P.underlying src = some (.slice e)) (he : P.underlying e = some (.int .u8)) (hd : P.underlying dst = some .string)
    (hb : Bytes w S a l) (hn : l.length = n) : (convert src dst (.slice a n c)).run P w = .ok (.string ⟨l.toArray⟩) w := by
  subst hn
  cases l with
  | nil =>
    cases a with
    | none => exact run_convert_bytes_nil w src e hs he _ _ dst hd
    | some ad =>
      have hl : (loadCells ad 0).run P w = .ok (([] : List Int).map (Value.int .u8)).toArray w := by simp [loadCells, loadCellsFrom]
      rw [run_convert_bytes_string w src dst e _ _ _ hs he hd, List.length_nil, run_bytesToString w ad 0 c [] hl]
      rfl
  | cons x l =>
    obtain ⟨b, off, rfl, _, _⟩ := hb 0 (by simp)
    have := run_convert_bytes_arg (P := P) w src e hs he b off (x :: l).length c ((x :: l).map (fun c => (c.toNat : Int))) (by simp) (fun i hi => ?_) dst hd
    · rw [this]
      simp [strOfNums, Function.comp_def]
    · obtain ⟨b', off', hh, _, h3⟩ := hb i hi
      simp only [Option.some.injEq, Addr.mk.injEq, and_true] at hh
      obtain ⟨rfl, rfl⟩ := hh
      rw [h3]
      simp only [List.getD_eq_getElem?_getD, List.getElem?_map, List.getElem?_eq_getElem hi, Option.map_some, Option.getD_some]
/-- four bytes in an array -/
theorem rep_arr4 {w : World} {S : Nat → Prop} {cs : List Value} {d : List UInt8} (h : Rep w S (.arr 4 (.int .u8)) cs d) : ∃ b0 b1 b2 b3 : UInt8, cs = [B8 b0, B8 b1, B8 b2, B8 b3] ∧ d = [b0, b1, b2, b3] := by
  obtain ⟨h1, h2, h3⟩ := h
  match d, h1 with
  | [b0, b1, b2, b3], _ =>
    match cs, h2 with
    | [c0, c1, c2, c3], _ =>
      have e0 := (h3 0 (by simp)).1
      have e1 := (h3 1 (by simp)).1
      have e2 := (h3 2 (by simp)).1
      have e3 := (h3 3 (by simp)).1
      simp only [Ty.size, List.drop, List.take, List.getElem_cons_zero, List.getElem_cons_succ, List.cons.injEq, and_true] at e0 e1 e2 e3
      exact ⟨b0, b1, b2, b3, by rw [e0, e1, e2, e3]; rfl, rfl⟩
theorem src_new (w : World) (xs : List Value) (t : TypeId) (f : Nat × Nat) : Src (w.alloc (.cells xs.toArray t f)) (some ⟨w.heap.size, 0, none⟩) xs := by
  intro i hi
  refine ⟨w.heap.size, 0, rfl, ?_⟩
  rw [Nat.zero_add, cell_new]
  simp [hi]
theorem Bytes.take {w : World} {S : Nat → Prop} {a : Option Addr} {l : List UInt8} (hb : Bytes w S a l) (n : Nat) : Bytes w S a (l.take n) := by
  intro i hi
  obtain ⟨b, off, h1, h2, h3⟩ := hb i (by simp at hi; omega)
  exact ⟨b, off, h1, h2, by rw [h3]; simp⟩
end Go.Pm
