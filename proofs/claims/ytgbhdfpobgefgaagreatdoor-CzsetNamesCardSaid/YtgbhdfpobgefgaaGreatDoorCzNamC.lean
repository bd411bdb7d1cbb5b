/- Comparing by a number, then by a text; what a sort's comparison may do to the world. -/
import Derived.Test.YtgbhdfpobgefgaaGreatDoorCzNamB
import Derived.Shelf.SlSortCmp.NoneTotal
import Derived.Lib.Bytealg
import Derived.Test.YtgbhdfpobgefgaaGreatDoorCzNamA
import Derived.Test.YtgbhdfpobgefgaaGreatDoorRows
set_option maxRecDepth 100000
set_option maxHeartbeats 16000000
set_option synthInstance.maxSize 65536
set_option synthInstance.maxHeartbeats 4000000
namespace Go.Pm
open Go.RowKit Go.Sort Go.Proofs
def GrowR (w w' : World) : Prop := ∃ (q : Nat) (os : Array Obj), w' = grow (w.drewN q) os
theorem GrowR.refl (w : World) : GrowR w w := ⟨0, #[], by simp [grow, World.drewN]⟩
theorem GrowR.trans {w w' w'' : World} (h : GrowR w w') (h2 : GrowR w' w'') : GrowR w w'' := by
 obtain ⟨q, os, rfl⟩ := h;obtain ⟨q2, os2, rfl⟩ := h2;exact ⟨q + q2, os ++ os2, by simp [grow, World.drewN, Array.append_assoc, Nat.add_assoc]⟩
theorem GrowR.alloc (w : World) (o : Obj) : GrowR w (w.alloc o) := ⟨0, #[o], by cases w; simp only [World.alloc, grow, World.drewN, Nat.add_zero]; congr 1⟩
theorem GrowR.ext {w w' : World} (h : GrowR w w') : Ext w w' := by
 obtain ⟨q, os, rfl⟩ := h;exact ⟨rfl, rfl, rfl, by simp [grow, World.drewN], fun k hk => by simp [grow, World.drewN, Array.getElem?_append, hk]⟩
instance : EOk GrowR := ⟨GrowR.refl, fun w => ⟨1, #[], by rw [grow_empty]; rfl⟩⟩
def JG (B : Base) (H : List Res) (w0 : World) : World → Prop := fun w => Inv B H w ∧ GrowR w0 w
theorem JG.st {B : Base} {H : List Res} {w0 : World} : ∀ w w', JG B H w0 w → GrowR w w' → JG B H w0 w' := fun _ _ h he => ⟨h.1.ext he.ext, h.2.trans he⟩
section
variable {P : Program} {ops : Array Oper} {mem : List Nat} {R : Act → World → Prop} {i : Nat} {o : Oper} {is : List (Nat × Oper)} {Fl : List (Nat × (World → Prop))} {a : Act} {v : Value} {B : Base} {H : List Res} {w w' w0 : World}
theorem dVG (hv : Inv B H w') (hg : GrowR w0 w') (hf : FlOk ops i (JG B H w0) Fl) (h : DWE GrowR P ops mem R is Fl (JG B H w0) (a.put o.dst v)) : JNE GrowR P ops mem R i o is Fl a ([] ++ [v]) w' := ⟨v, rfl, JG B H w0, JG.st, ⟨hv, hg⟩, hf, h⟩
theorem rWG {Q : Exit → Act → World → Prop} {a0 : Act} {n : Nat} {l : List Oper} {id : Nat} (hm : P.follows .mixedOrders = true) (mem perm : List Nat) (k : Nat) (hsize : a0.tmps.size = k) (hck : okDW l.toArray mem perm k = true) (hv : Inv B H w0)
  (h : DWE GrowR P l.toArray mem (Q .normal) (qm l perm) [] (JG B H w0) a0) : (Code.region id l.toArray true).wpIn Fence.wide n P Q a0 w0 := rWE hm mem perm k hsize hck JG.st ⟨hv, GrowR.refl _⟩ h
theorem mem_row2E {J : List Value → World → Prop} {Q : Exit → Act → World → Prop} {vals : List Value} {t e : TypeId} {x y : Operand} {v1 v2 : Value} (hg : Region.wanted o (yielded ops a.tmps) = true) (ho : o.op = .buildSlice t 2 #[(0, x), (1, y)]) (hx : a.eval x = v1) (hy : a.eval y = v2) (hv : Inv B H w)
  (hr : ∀ w, (Instr.buildSlice t 2 #[(0, v1), (1, v2)]).run P w = .ok (.slice (some ⟨w.heap.size, 0, none⟩) 2 2) (w.alloc (.cells [v1, v2].toArray e)))
  (h : ∀ b w', Inv B (Res.cell b [v1, v2] e :: H) w' → GrowR w w' → J (vals ++ [.slice (some ⟨b, 0, none⟩) 2 2]) w') : StepMem P ops J Q o a w vals :=
 Ex.mem (by unfold Ex; simp [execOp, ho, hx, hy, hr]) hg (h _ _ (hv.alloc [v1, v2] e) (GrowR.alloc w _))
end
theorem cmpB_lt : ∀ a b : List UInt8, Lib.compareBytes a b < 0 ↔ Op.bytesLess a b = true
 | [], [] => by simp [Lib.compareBytes, Op.bytesLess]
 | [], _ :: _ => by simp [Lib.compareBytes, Op.bytesLess]
 | _ :: _, [] => by simp [Lib.compareBytes, Op.bytesLess]
 | a :: x, b :: y => by
  have ih := cmpB_lt x y;simp only [Lib.compareBytes, Op.bytesLess, Bool.or_eq_true, Bool.and_eq_true, decide_eq_true_eq, beq_iff_eq];by_cases h1 : a < b
  ·simp [h1]
  by_cases h2 : b < a
  ·have h3 : ¬ a = b := fun e => by subst e; exact h1 h2
   simp [h1, h2, h3]
  have h3 : a = b := UInt8.le_antisymm (UInt8.not_lt.1 h2) (UInt8.not_lt.1 h1);subst h3
  simp [h1, ih]
def cmpNT (n m : Int) (s t : List UInt8) : Int := if Lib.compareInt n m ≠ 0 then Lib.compareInt n m else Lib.compareBytes s t
theorem cmpNT_lt {n m : Int} {s t : List UInt8} : cmpNT n m s t < 0 ↔ n < m ∨ (n = m ∧ Op.bytesLess s t = true) := by
 rw [← cmpB_lt];unfold cmpNT Lib.compareInt;by_cases h1 : n < m
 ·simp [h1]
 by_cases h2 : n > m
 ·have h3 : ¬ n = m := by omega
  simp [h1, h2, h3]
 have h3 : n = m := by omega
 simp [h3]
theorem ltNT {α : Type} (f : α → Int) (g : α → List UInt8) (x y : α) : ltOf (fun x y => cmpNT (f x) (f y) (g x) (g y)) x y = true ↔ f x < f y ∨ (f x = f y ∧ Op.bytesLess (g x) (g y) = true) := by
 unfold ltOf;rw [decide_eq_true_iff];exact cmpNT_lt
theorem swoNT {α : Type} (f : α → Int) (g : α → List UInt8) : SWO (ltOf fun x y => cmpNT (f x) (f y) (g x) (g y)) where
 irrefl x := by
  refine Bool.eq_false_iff.2 fun h => ?_
  rcases (ltNT f g x x).1 h with h | ⟨-, h⟩
  ·omega
  exact absurd h (by rw [lt_irrefl]; decide)
 trans x y z h1 h2 := by
  rcases (ltNT f g x y).1 h1 with h1 | ⟨h1, h3⟩ <;> rcases (ltNT f g y z).1 h2 with h2 | ⟨h2, h4⟩ <;> refine (ltNT f g x z).2 ?_
  ·exact .inl (by omega)
  ·exact .inl (by omega)
  ·exact .inl (by omega)
  exact .inr ⟨by omega, lt_trans _ _ _ h3 h4⟩
 ntrans x y z h1 h2 := by
  refine Bool.eq_false_iff.2 fun h => ?_
  have n1 : ¬ (f x < f y ∨ (f x = f y ∧ Op.bytesLess (g x) (g y) = true)) := fun h9 => by rw [(ltNT f g x y).2 h9] at h1; cases h1
  have n2 : ¬ (f y < f z ∨ (f y = f z ∧ Op.bytesLess (g y) (g z) = true)) := fun h9 => by rw [(ltNT f g y z).2 h9] at h2; cases h2
  rcases (ltNT f g x z).1 h with h | ⟨h, h3⟩
  ·omega
  have e1 : f x = f y := by omega
  have e2 : f y = f z := by omega
  have b1 : Op.bytesLess (g x) (g y) = false := Bool.eq_false_iff.2 fun h9 => n1 (.inr ⟨e1, h9⟩)
  have b2 : Op.bytesLess (g y) (g z) = false := Bool.eq_false_iff.2 fun h9 => n2 (.inr ⟨e2, h9⟩)
  by_cases e : g y = g x
  ·rw [e] at b2; rw [b2] at h3; cases h3
  have b3 : Op.bytesLess (g y) (g x) = true := by
   cases h4 : Op.bytesLess (g y) (g x) with
   | true => rfl
   | false => exact absurd (lt_total _ _ h4 b1) e
  rw [lt_trans _ _ _ b3 h3] at b2; cases b2
section
variable {α : Type} [Inhabited α] (f : α → Int)
omit [Inhabited α] in
end
theorem sl_boxG {F : Fence} {n : Nat} {P : Program} {ops : Array Oper} {Q : Exit → Act → World → Prop} {a : Act} {w : World} {rest : List Oper} {o : Oper} {B : Base} {H : List Res} {t : TypeId} {x : Operand} {p : Value} {L : List Value} (hF : ∀ f, F.fn f) (hg : Region.wanted o (yielded ops a.tmps) = true) (ho : o.op = .box t x) (hx : a.eval x = p) (hv : Inv B H w) (hz : ∀ w, (Instr.box t p).run P w = .ok (.pointer (some ⟨w.heap.size, 0, none⟩)) (w.alloc (.cells L.toArray t)))
  (h : ∀ b w', Inv B (Res.cell b L t :: H) w' → GrowR w w' → wpListIn F n P ops Q rest (a.put o.dst (.pointer (some ⟨b, 0, none⟩))) w') : wpListIn F n P ops Q (o :: rest) a w :=
 wpi_exG hF hg (by unfold isDefer; rw [ho]) (ex_box ho hx (hz w)) (h _ _ (hv.alloc L t) (GrowR.alloc w _))
theorem text_reads {B : Base} {l : List (List UInt8)} {ad : Option Addr} {i : Nat} {x : List UInt8} (hr : RdV B [] ad (textCells l)) (hx : l[i]? = some x) : ∃ b off, ad = some ⟨b, off, none⟩ ∧ Reads B [] b (off + i) [strV x] := by
 have hi := (List.getElem?_eq_some_iff.1 hx).1;refine rdW_reads (k := i) (m := 1) (hr.rdW []) (by rw [textCells_len]; omega) (by decide) rfl (fun j hj => ?_)
 match j, hj with
 | 0, _ => rw [Nat.add_zero, textCells, List.getElem?_map, hx]; rfl
theorem two_get {α : Type} (f : α → List Value) (h2 : ∀ a, (f a).length = 2) {l : List α} {i : Nat} {x : α} (h : l[i]? = some x) : ∀ j, j < 2 → (l.flatMap f)[i * 2 + j]? = (f x)[j]? := by
 induction l generalizing i with
 | nil => simp at h
 | cons a l ih =>
  intro j hj;cases i with
  | zero =>
   simp only [List.getElem?_cons_zero, Option.some.injEq] at h;subst h;rw [List.flatMap_cons, Nat.zero_mul, Nat.zero_add, List.getElem?_append_left (by rw [h2]; exact hj)]
  | succ i =>
   rw [List.flatMap_cons, List.getElem?_append_right (by rw [h2]; omega), h2, show (i + 1) * 2 + j - 2 = i * 2 + j by rw [Nat.succ_mul]; omega];exact ih (by simpa using h) j hj
theorem mem_reads {B : Base} {l : List (Int × List UInt8)} {ad : Option Addr} {i : Nat} {x : Int × List UInt8} (hr : RdV B [] ad (memCells l)) (hx : l[i]? = some x) : ∃ b off, ad = some ⟨b, off, none⟩ ∧ Reads B [] b (off + i * 2) [.int .i64 x.1, strV x.2] := by
 have hi := (List.getElem?_eq_some_iff.1 hx).1;refine rdW_reads (k := i * 2) (m := 2) (hr.rdW []) (by rw [memCells_len]; omega) (by decide) rfl (fun j hj => ?_);exact (two_get (fun m : Int × List UInt8 => [.int .i64 m.1, strV m.2]) (fun _ => rfl) hx j hj).symm
theorem pair_reads {B : Base} {l : List (List UInt8 × List UInt8)} {ad : Option Addr} {i : Nat} {x : List UInt8 × List UInt8} (hr : RdV B [] ad (pairCells l)) (hx : l[i]? = some x) : ∃ b off, ad = some ⟨b, off, none⟩ ∧ Reads B [] b (off + i * 2) [strV x.1, strV x.2] := by
 have hi := (List.getElem?_eq_some_iff.1 hx).1;refine rdW_reads (k := i * 2) (m := 2) (hr.rdW []) (by rw [pairCells_len]; omega) (by decide) rfl (fun j hj => ?_);exact (two_get (fun m : List UInt8 × List UInt8 => [strV m.1, strV m.2]) (fun _ => rfl) hx j hj).symm
theorem any_of {α : Type} {l : List α} {p : α → Bool} {i : Nat} {x : α} (h : l[i]? = some x) (hp : p x = true) : l.any p = true := List.any_eq_true.2 ⟨x, List.mem_of_getElem? h, hp⟩
theorem any_none {α : Type} {l : List α} {p : α → Bool} (h : ∀ (i : Nat) x, l[i]? = some x → p x = false) : l.any p = false := by
 rw [List.any_eq_false];intro x hx;obtain ⟨i, hi⟩ := List.mem_iff_getElem?.1 hx;rw [h i x hi]; simp
section
variable {F : Fence} {n : Nat} {P : Program} {ops : Array Oper} {Q : Exit → Act → World → Prop} {a : Act} {w : World} {rest : List Oper} {o : Oper} {B : Base} {H : List Res} {t e : TypeId} {x y : Operand} {J : List Value → World → Prop} {vals : List Value}
theorem row_parts {B : Base} {n c size b : Nat} {e : TypeId} {pre mid post : List Value} {H : List Res} {w : World} (hv : Inv B (Res.row e size (.slice (some ⟨b, 0, none⟩) n c) n (pre ++ mid ++ post) :: H) w) :
  ∃ tl, Inv B (Res.cell b (pre ++ mid ++ (post ++ tl)) e :: H) w ∧ ∀ (new : List Value) (w' : World), new.length = mid.length → Inv B (Res.cell b (pre ++ new ++ (post ++ tl)) e :: H) w' → Inv B (Res.row e size (.slice (some ⟨b, 0, none⟩) n c) n (pre ++ new ++ post) :: H) w' := by
 obtain ⟨L, h1, h2, h3, h4, hc⟩ := hv.rowCell;have hl : (pre ++ mid ++ post).length = n * size := by
  rw [← h2, List.length_take, h1];exact Nat.min_eq_left (Nat.mul_le_mul_right _ h3)
 have hL : L = pre ++ mid ++ (post ++ L.drop (n * size)) := by
  rw [← List.append_assoc, ← h2, List.take_append_drop]
 have hL2 := congrArg List.length hL;refine ⟨L.drop (n * size), by rw [← hL]; exact hc, fun new w' hn hv' => ?_⟩;have hn2 : (pre ++ new ++ post).length = n * size := by simp only [List.length_append] at hl ⊢; omega
 have := hv'.cellRow (n := n) (c := c) (size := size) (by rw [← h1]; simp only [List.length_append] at hL2 ⊢; omega) h3 h4;rw [← List.append_assoc, List.take_left' hn2] at this;exact this
theorem sl_storeRowN {b c m j size : Nat} {new pre mid post : List Value} (hF : ∀ f, F.fn f) (hg : Region.wanted o (yielded ops a.tmps) = true) (ho : o.op = .store t x y) (hx : a.eval x = .pointer (some ⟨b, j, none⟩)) (hy : a.eval y = .agg new.toArray) (hv : Inv B (Res.row e size (.slice (some ⟨b, 0, none⟩) m c) m (pre ++ mid ++ post) :: H) w)
  (hz : (P.info? t).map (·.size) = some new.length) (hoff : pre.length = j) (hn : new.length = mid.length) (h1 : ∀ v ∈ new, v.oneCell' = true)
  (h : ∀ w', Inv B (Res.row e size (.slice (some ⟨b, 0, none⟩) m c) m (pre ++ new ++ post) :: H) w' → wpListIn F n P ops Q rest (a.put o.dst undef) w') : wpListIn F n P ops Q (o :: rest) a w := by
 obtain ⟨tl, h2, h3⟩ := row_parts hv;exact sl_storeN hF hg ho hx hy h2 hz rfl hoff hn h1 rfl fun w' hv' => h w' (h3 new w' hn hv')
theorem mem_storeRowN {b c m j size : Nat} {new pre mid post : List Value} (hg : Region.wanted o (yielded ops a.tmps) = true) (ho : o.op = .store t x y) (hx : a.eval x = .pointer (some ⟨b, j, none⟩)) (hy : a.eval y = .agg new.toArray) (hv : Inv B (Res.row e size (.slice (some ⟨b, 0, none⟩) m c) m (pre ++ mid ++ post) :: H) w)
  (hz : (P.info? t).map (·.size) = some new.length) (hoff : pre.length = j) (hn : new.length = mid.length) (h1 : ∀ v ∈ new, v.oneCell' = true)
  (h : ∀ w', Inv B (Res.row e size (.slice (some ⟨b, 0, none⟩) m c) m (pre ++ new ++ post) :: H) w' → J (vals ++ [undef]) w') : StepMem P ops J Q o a w vals := by
 obtain ⟨tl, h2, h3⟩ := row_parts hv;exact mem_storeNAt 0 hg ho hx hy h2 rfl hz rfl hoff hn h1 rfl fun w' hv' => h w' (h3 new w' hn hv')
end
abbrev Zs := List (Int × List UInt8)
theorem mem_app (a b : Zs) : memCells (a ++ b) = memCells a ++ memCells b := List.flatMap_append
theorem mem_cons (x : Int × List UInt8) (l : Zs) : memCells (x :: l) = [.int .i64 x.1, strV x.2] ++ memCells l := List.flatMap_cons
theorem mem_get {l : Zs} {i : Nat} {x : Int × List UInt8} (h : l[i]? = some x) : ∀ j, j < 2 → ([.int .i64 x.1, strV x.2] : List Value)[j]? = (memCells l)[0 + i * 2 + j]? := fun j hj => by
 rw [Nat.zero_add];exact (two_get (fun m : Int × List UInt8 => [.int .i64 m.1, strV m.2]) (fun _ => rfl) h j hj).symm
theorem mem_split {l : Zs} {i : Nat} {g : Int × List UInt8} (h : l[i]? = some g) : memCells l = memCells (l.take i) ++ [.int .i64 g.1, strV g.2] ++ memCells (l.drop (i + 1)) := by
 obtain ⟨hi, rfl⟩ := List.getElem?_eq_some_iff.1 h
 conv => lhs; rw [← List.take_append_drop i l, List.drop_eq_getElem_cons hi, mem_app, mem_cons]
 rw [List.append_assoc]
theorem mem_set {l : Zs} {i : Nat} (x : Int × List UInt8) (h : i < l.length) : memCells (l.take i) ++ [.int .i64 x.1, strV x.2] ++ memCells (l.drop (i + 1)) = memCells (l.set i x) := by
 have h2 : (l.set i x)[i]? = some x := by rw [List.getElem?_set]; simp [h]
 rw [mem_split h2, List.take_set_of_le (Nat.le_refl _), List.drop_set_of_lt (by omega)]
theorem mem_snoc (l : Zs) (x : Int × List UInt8) : memCells l ++ [.int .i64 x.1, strV x.2] = memCells (l ++ [x]) := by rw [mem_app]; rfl
theorem mem_take (l : Zs) (k : Nat) : (memCells l).take (k * 2) = memCells (l.take k) := by
 by_cases h : k ≤ l.length
 ·conv => lhs; rw [← List.take_append_drop k l, mem_app]
  rw [List.take_left' (by rw [memCells_len, List.length_take, Nat.min_eq_left h])]
 rw [List.take_of_length_le (by omega : l.length ≤ k), List.take_of_length_le (by rw [memCells_len]; omega)]
theorem mem_drop (l : Zs) (k : Nat) : (memCells l).drop (k * 2) = memCells (l.drop k) := by
 by_cases h : k ≤ l.length
 ·conv => lhs; rw [← List.take_append_drop k l, mem_app]
  rw [List.drop_left' (by rw [memCells_len, List.length_take, Nat.min_eq_left h])]
 rw [List.drop_of_length_le (by omega : l.length ≤ k), List.drop_of_length_le (by rw [memCells_len]; omega)]
 rfl
section
variable {o : Oper} {a : Act}
end
abbrev FA (P : Program) (t k n : Nat) : Prop := ∀ (w : World) (b o : Nat), (Instr.fieldAt t (.pointer (some ⟨b, o, none⟩)) k).run P w = .ok (.pointer (some ⟨b, o + n, none⟩)) w
abbrev AL (P : Program) (t : Nat) (L : List Value) : Prop := ∀ w : World, (Instr.alloc t true (.tuple #[])).run P w = .ok (.pointer (some ⟨w.heap.size, 0, none⟩)) (w.alloc (.cells L.toArray t))
theorem cb {P : Program} {f : FuncId} {fn : Func} (h : P.funcs[f]? = some fn) (hb : ((fn.name == "runtime.NumGoroutine"), fn.body.isSome) = (false, true)) : Callable P f := ⟨fn, h, (Prod.mk.inj hb).1, (Prod.mk.inj hb).2⟩
abbrev vP (b : Nat) : Value := .pointer (some ⟨b, 0, none⟩)
abbrev vI (n : Int) : Value := .int .i64 n
abbrev vS (l : List UInt8) : Value := .string ⟨l.toArray⟩
abbrev vN : Value := .slice none 0 0
theorem sC {α : Type _} {l k : List α} (x : α) (h : l.Sublist k) : (x :: l).Sublist (x :: k) := .cons_cons x h
theorem sD {α : Type _} {l k : List α} (x : α) (h : l.Sublist k) : l.Sublist (x :: k) := .cons x h
theorem sR {α : Type _} (l : List α) : l.Sublist l := .refl l
theorem eS {α : Type _} {x : α} {xs : List α} {i : Nat} : (x :: xs).eraseIdx (i + 1) = x :: xs.eraseIdx i := rfl
theorem eZ {α : Type _} {x : α} {xs : List α} : (x :: xs).eraseIdx 0 = xs := rfl
theorem qT {p : Prop} [Decidable p] (h : p) : decide p = true := decide_eq_true h
theorem qF {p : Prop} [Decidable p] (h : ¬ p) : decide p = false := decide_eq_false h
def po {α : Type} : List α → Option Nat → α → List α
 | l, none, _ => l
 | [], some _, _ => []
 | _ :: l, some 0, v => v :: l
 | x :: l, some (n + 1), v => x :: po l (some n) v
def al : List Value → Nat → List Value
 | l, 0 => l
 | [], n + 1 => undef :: al [] n
 | x :: l, n + 1 => x :: al l n
def sp : List Value → Nat → List Value → List Value
 | l, 0, [] => l
 | _ :: l, 0, v :: k => v :: sp l 0 k
 | x :: l, n + 1, k => x :: sp l n k
 | [], _, _ => []
theorem po_set {α : Type} (l : List α) (i : Nat) (v : α) : po l (some i) v = l.set i v := by
 induction l generalizing i with
 | nil => simp [po]
 | cons x l ih => cases i <;> simp [po, ih]
theorem zP {l : List Value} {ds : List Deferred} {o : Option Tmp} {v : Value} : Act.put ⟨l.toArray, ds⟩ o v = ⟨(po l o v).toArray, ds⟩ := by
 cases o with
 | none => simp [Act.put, po]
 | some i => simp [Act.put, po_set]
theorem al_eq (l : List Value) (n : Nat) : al l n = l ++ List.replicate (n - l.length) undef := by
 induction n generalizing l with
 | zero => cases l <;> simp [al]
 | succ n ih => cases l with
  | nil => rw [al, ih]; simp [List.replicate_succ]
  | cons x l => rw [al, ih]; simp
theorem cW {P : Program} {f : FuncId} {fn : Func} {c : Code} {l : List Value} {w : World} {k : Nat} {R : Ending → World → Prop} (hf : P.funcs[f]? = some fn) (hb : fn.body = some c) (hk : fn.ntmps = k)
  (h : c.wpIn Fence.wide 5 P (bodyPost P fn R) ⟨(al l k).toArray, []⟩ w) : Calls P f l.toArray w R := by
 refine (callsIn_wide (n := 5)).1 (callsIn_of_wp hf hb trivial ?_);have e : l.toArray ++ Array.replicate (fn.ntmps - l.toArray.size) undef = (al l k).toArray := by
  apply Array.ext';rw [al_eq, hk]; simp
 rw [e]; exact h
theorem lM {B : Base} {H : List Res} {w : World} {P : Program} {t e : TypeId} {b off k : Nat} {L mid : List Value} (i : Nat) (hw : Wide P t k) (hv : Inv B H w) (hi : H[i]? = some (Res.cell b L e)) (hm : (L.drop off).take k = mid) (hk : mid.length = k) (ho : Nat.ble off L.length = true) :
  (Instr.loadAt t (.pointer (some ⟨b, off, none⟩))).run P w = .ok (.agg mid.toArray) w := by
 have hb : Blk w b L e := hv.get i hi;subst hk;have h1 : L = L.take off ++ mid ++ (L.drop off).drop mid.length := by
  rw [List.append_assoc]
  conv => lhs; rw [← List.take_append_drop off L]
  congr 1
  conv => lhs; rw [← List.take_append_drop mid.length (L.drop off), hm]
 rw [h1] at hb;exact run_load_mid hw hb (by rw [List.length_take, Nat.min_eq_left (Nat.le_of_ble_eq_true ho)])
theorem bC {fn : Func} {R : Ending → World → Prop} {P : Program} {B : Base} {H : List Res} {w : World} {a : Act} {t e : TypeId} {r b : Nat} {L : List Value} (i : Nat) (hw : Wide P t L.length) (hv : Inv B H w) (hi : H[i]? = some (Res.cell b L e)) (h : fn.results = #[.cell r t]) (hr : a.tmps.getD r undef = .pointer (some ⟨b, 0, none⟩)) (hd : a.defers = []) (hR : R (.returned (.agg L.toArray)) w) : bodyPost P fn R .ret a w :=
 bodyPost_ret (res_cell1 h hr (lM i hw hv hi (by simp) rfl (by simp))) hd hR
def pfr : List Res → List Nat → List Res
 | H, [] => H
 | H, k :: ks => match H[k]? with
  | some r => pfr (r :: H.eraseIdx k) ks
  | none => H
theorem inv_pfr {B : Base} {w : World} : ∀ (ks : List Nat) {H : List Res}, Inv B H w → Inv B (pfr H ks) w
 | [], _, h => h
 | k :: ks, H, h => by
  unfold pfr
  split
  ·rename_i r hk; exact inv_pfr ks (h.front k hk)
  ·exact h
theorem kp_sub {α : Type _} (m d : Nat) (l : List α) : (l.take m ++ (l.drop m).drop d).Sublist l := by
 conv => rhs; rw [← List.take_append_drop m l]
 exact (List.Sublist.refl _).append (List.drop_sublist _ _)
theorem Inv.kp {B : Base} {w : World} {H : List Res} (h : Inv B H w) (ks : List Nat) (m d : Nat) : Inv B ((pfr H ks).take m ++ ((pfr H ks).drop m).drop d) w := (inv_pfr ks h).sub (kp_sub m d _)
theorem zI {α : Type} {l : List α} {i : Nat} {a : α} : l.toArray.setIfInBounds i a = (l.set i a).toArray := by simp
theorem zS {α : Type} {l : List α} {i : Nat} {a b : α} : (a :: l).set (i + 1) b = a :: l.set i b := rfl
theorem zO {α : Type} {l : List α} {a b : α} : (a :: l).set 0 b = b :: l := rfl
theorem yA {α β : Type} {f : α → β} {l : List α} : Array.map f l.toArray = (List.map f l).toArray := by simp
theorem yB {α β : Type} {f : α → β} {a : α} {l : List α} : List.map f (a :: l) = f a :: List.map f l := rfl
theorem yC {α β : Type} {f : α → β} : List.map f [] = [] := rfl
theorem tV (f : FuncId) : Fence.wide.fn f := trivial
def All1 : List Value → Prop
 | [] => True
 | v :: l => v.oneCell' = true ∧ All1 l
theorem All1.at : ∀ {l : List Value}, All1 l → ∀ v ∈ l, v.oneCell' = true
 | x :: l, h, v, hv => by
  rcases List.mem_cons.1 hv with rfl | hv
  ·exact h.1
  ·exact All1.at h.2 v hv
theorem sp_eq : ∀ (n : Nat) (l k : List Value), n + k.length ≤ l.length → ∃ p m q, l = p ++ m ++ q ∧ p.length = n ∧ k.length = m.length ∧ p ++ k ++ q = sp l n k
 | 0, l, [], _ => ⟨[], [], l, by simp, rfl, rfl, by cases l <;> simp [sp]⟩
 | 0, [], v :: k, h => by simp at h
 | 0, x :: l, v :: k, h => by
  obtain ⟨p, m, q, h1, h2, h3, h4⟩ := sp_eq 0 l k (by simp at h; omega);obtain rfl := List.eq_nil_of_length_eq_zero h2;refine ⟨[], x :: m, q, ?_, rfl, by simp [h3], ?_⟩
  ·rw [h1]; simp
  ·rw [sp, ← h4]; simp
 | n + 1, [], k, h => by simp at h
 | n + 1, x :: l, k, h => by
  obtain ⟨p, m, q, h1, h2, h3, h4⟩ := sp_eq n l k (by simp at h; omega);refine ⟨x :: p, m, q, by rw [h1]; simp, by simp [h2], h3, ?_⟩;rw [sp, ← h4]; simp
theorem sp_one (n : Nat) (l : List Value) (v : Value) : sp l n [v] = l.set n v := by
 induction n generalizing l with
 | zero => cases l with
  | nil => simp [sp]
  | cons x l => cases l <;> simp [sp]
 | succ n ih => cases l with
  | nil => simp [sp]
  | cons x l => rw [sp, ih]; simp
class GtN (l : List Value) (n : Nat) (v : outParam Value) : Prop where h : l[n]? = some v
instance gz {v : Value} {l : List Value} : GtN (v :: l) 0 v := ⟨rfl⟩
instance gs {u v : Value} {l : List Value} {n : Nat} [h : GtN l n v] : GtN (u :: l) (n + 1) v := ⟨by rw [List.getElem?_cons_succ]; exact h.h⟩
class Gt (l : List Value) (x : Operand) (v : outParam Value) : Prop where h : ∀ ds, (Act.mk l.toArray ds).eval x = v
instance gC {l : List Value} {c : Value} : Gt l (.const c) c := ⟨fun _ => rfl⟩
instance gG {l : List Value} {g : Nat} : Gt l (.global g) (.pointer (some ⟨g, 0, none⟩)) := ⟨fun _ => rfl⟩
instance iF {l : List Value} {f : FuncId} : Gt l (.func f) (.func (.func f) #[] #[]) := ⟨fun _ => rfl⟩
instance gT {l : List Value} {n : Nat} {v : Value} [h : GtN l n v] : Gt l (.tmp n) v := ⟨fun _ => by
 show l.toArray.getD n undef = v;rw [Array.getD_eq_getD_getElem?, List.getElem?_toArray, h.h]; rfl⟩
class PtN (l : List Value) (n : Nat) (v : Value) (k : outParam (List Value)) : Prop where h : l.set n v = k
instance pZ {x v : Value} {l : List Value} : PtN (x :: l) 0 v (v :: l) := ⟨rfl⟩
instance pS {x v : Value} {l k : List Value} {n : Nat} [h : PtN l n v k] : PtN (x :: l) (n + 1) v (x :: k) := ⟨by rw [List.set_cons_succ, h.h]⟩
class Pt (l : List Value) (d : Option Nat) (v : Value) (k : outParam (List Value)) : Prop where h : ∀ ds, (Act.mk l.toArray ds).put d v = ⟨k.toArray, ds⟩
instance pN {v : Value} {l : List Value} : Pt l none v l := ⟨fun _ => rfl⟩
instance pO {v : Value} {l k : List Value} {n : Nat} [h : PtN l n v k] : Pt l (some n) v k := ⟨fun _ => by simp [Act.put, h.h]⟩
class Nf (a : Act) (l : outParam (List Value)) (ds : outParam (List Deferred)) : Prop where h : a = ⟨l.toArray, ds⟩
instance nM {l : List Value} {ds : List Deferred} : Nf ⟨l.toArray, ds⟩ l ds := ⟨rfl⟩
instance nP {a : Act} {l k : List Value} {ds : List Deferred} {d : Option Nat} {v : Value} [h : Nf a l ds] [p : Pt l d v k] : Nf (a.put d v) k ds := ⟨by rw [h.h]; exact p.h ds⟩
class Pk (l : List Value) (b : Bool) (y z : Operand) (v : outParam Value) : Prop where h : ∀ ds, (Act.mk l.toArray ds).eval (if b then y else z) = v
instance kT {l : List Value} {y z : Operand} {v : Value} [g : Gt l y v] : Pk l true y z v := ⟨fun ds => by rw [if_pos rfl]; exact g.h ds⟩
instance kF {l : List Value} {y z : Operand} {v : Value} [g : Gt l z v] : Pk l false y z v := ⟨fun ds => by rw [if_neg (by decide)]; exact g.h ds⟩
section
variable {n : Nat} {P : Program} {ops : Array Oper} {Q : Exit → Act → World → Prop} {a : Act} {w w' : World} {rest : List Oper} {o : Oper} {x y z : Operand} {l k : List Value} {ds : List Deferred} {v : Value}
theorem uM [f : Nf a l ds] (hw : (Region.wanted o (yielded ops a.tmps), o.op) = (true, .move x)) [g : Gt l x v] [p : Pt l o.dst v k] (h : wpListIn Fence.wide n P ops Q rest ⟨k.toArray, ds⟩ w) : wpListIn Fence.wide n P ops Q (o :: rest) a w := by
 cases f.h;simp only [Prod.mk.injEq] at hw;exact wpi_exG tV hw.1 (by unfold isDefer; rw [hw.2]) (ex_move hw.2 (g.h ds)) (by rw [p.h]; exact h)
theorem uA [f : Nf a l ds] (hw : (Region.wanted o (yielded ops a.tmps), o.op) = (true, .assign x)) [g : Gt l x v] [p : Pt l o.dst v k] (h : wpListIn Fence.wide n P ops Q rest ⟨k.toArray, ds⟩ w) : wpListIn Fence.wide n P ops Q (o :: rest) a w := by
 cases f.h;simp only [Prod.mk.injEq] at hw;exact wpi_exG tV hw.1 (by unfold isDefer; rw [hw.2]) (ex_assign hw.2 (g.h ds)) (by rw [p.h]; exact h)
theorem uK {b : Bool} [f : Nf a l ds] (hw : (Region.wanted o (yielded ops a.tmps), o.op) = (true, .pick x y z)) [gx : Gt l x (.bool b)] [g : Pk l b y z v] [p : Pt l o.dst v k] (h : wpListIn Fence.wide n P ops Q rest ⟨k.toArray, ds⟩ w) : wpListIn Fence.wide n P ops Q (o :: rest) a w := by
 cases f.h;simp only [Prod.mk.injEq] at hw;exact wpi_exG tV hw.1 (by unfold isDefer; rw [hw.2]) (ex_pick (b := b) hw.2 (gx.h ds) (by have := g.h ds; cases b <;> exact this)) (by rw [p.h]; exact h)
theorem uE {vs : List Value} {i : Nat} [f : Nf a l ds] (hw : (Region.wanted o (yielded ops a.tmps), o.op) = (true, .extract x i)) [g : Gt l x (.tuple vs.toArray)] [e : GtN vs i v] [p : Pt l o.dst v k] (h : wpListIn Fence.wide n P ops Q rest ⟨k.toArray, ds⟩ w) : wpListIn Fence.wide n P ops Q (o :: rest) a w := by
 cases f.h;simp only [Prod.mk.injEq] at hw;exact wpi_exG tV hw.1 (by unfold isDefer; rw [hw.2]) (ex_extract hw.2 (g.h ds) (by simpa using e.h)) (by rw [p.h]; exact h)
theorem uG (v : Value) [f : Nf a l ds] (hw : (Region.wanted o (yielded ops a.tmps), isDefer o) = (true, false)) (hr : Ex P a o w v w') [p : Pt l o.dst v k] (h : wpListIn Fence.wide n P ops Q rest ⟨k.toArray, ds⟩ w') : wpListIn Fence.wide n P ops Q (o :: rest) a w := by
 cases f.h;exact wpi_exG tV (Prod.mk.inj hw).1 (Prod.mk.inj hw).2 hr (by rw [p.h]; exact h)
theorem uL (v : Value) {t : TypeId} {q : Value} [f : Nf a l ds] (hw : (Region.wanted o (yielded ops a.tmps), o.op, a.eval x) = (true, .load t x, q)) (hr : (Instr.loadAt t q).run P w = .ok v w) [p : Pt l o.dst v k] (h : wpListIn Fence.wide n P ops Q rest ⟨k.toArray, ds⟩ w) : wpListIn Fence.wide n P ops Q (o :: rest) a w := by
 cases f.h;simp only [Prod.mk.injEq] at hw;exact wpi_exG tV hw.1 (by unfold isDefer; rw [hw.2.1]) (ex_load hw.2.1 hw.2.2 hr) (by rw [p.h]; exact h)
theorem uF (v : Value) {t : TypeId} {j : Nat} {q : Value} [f : Nf a l ds] (hw : (Region.wanted o (yielded ops a.tmps), o.op, a.eval x) = (true, .fieldAddr t x j, q)) (hr : (Instr.fieldAt t q j).run P w = .ok v w) [p : Pt l o.dst v k] (h : wpListIn Fence.wide n P ops Q rest ⟨k.toArray, ds⟩ w) : wpListIn Fence.wide n P ops Q (o :: rest) a w := by
 cases f.h;simp only [Prod.mk.injEq] at hw;exact wpi_exG tV hw.1 (by unfold isDefer; rw [hw.2.1]) (ex_field hw.2.1 hw.2.2 hr) (by rw [p.h]; exact h)
theorem uP [f : Nf a l ds] (hw : Region.wanted o (yielded ops a.tmps) = false) [p : Pt l o.dst undef k] (h : wpListIn Fence.wide n P ops Q rest ⟨k.toArray, ds⟩ w) : wpListIn Fence.wide n P ops Q (o :: rest) a w := by
 cases f.h;exact wpi_not tV hw (by rw [p.h]; exact h)
theorem uW {K X : Act → World → Prop} [f : Nf a l ds] (hk : ∀ a w, X a w → K a w) (h : X ⟨l.toArray, ds⟩ w) : wpListIn Fence.wide n P ops (Exit.then K Q) [] a w := by
 cases f.h; exact wpListIn_nil (hk _ w h)
theorem uZ [f : Nf a l ds] (h : Q .normal ⟨l.toArray, ds⟩ w) : wpListIn Fence.wide n P ops Q [] a w := by
 cases f.h; exact wpListIn_nil h
end
section
variable {n : Nat} {P : Program} {ops : Array Oper} {Q : Exit → Act → World → Prop} {a : Act} {w w' : World} {rest : List Oper} {o : Oper} {x y z : Operand}
theorem xG (v : Value) (hw : (Region.wanted o (yielded ops a.tmps), isDefer o) = (true, false)) (hr : Ex P a o w v w') (h : wpListIn Fence.wide n P ops Q rest (a.put o.dst v) w') : wpListIn Fence.wide n P ops Q (o :: rest) a w :=
 wpi_exG tV (Prod.mk.inj hw).1 (Prod.mk.inj hw).2 hr h
theorem xM (v : Value) (hw : (Region.wanted o (yielded ops a.tmps), o.op, a.eval x) = (true, .move x, v)) (h : wpListIn Fence.wide n P ops Q rest (a.put o.dst v) w) : wpListIn Fence.wide n P ops Q (o :: rest) a w := by
 simp only [Prod.mk.injEq] at hw;exact wpi_exG tV hw.1 (by unfold isDefer; rw [hw.2.1]) (ex_move hw.2.1 hw.2.2) h
theorem xA (v : Value) (hw : (Region.wanted o (yielded ops a.tmps), o.op, a.eval x) = (true, .assign x, v)) (h : wpListIn Fence.wide n P ops Q rest (a.put o.dst v) w) : wpListIn Fence.wide n P ops Q (o :: rest) a w := by
 simp only [Prod.mk.injEq] at hw;exact wpi_exG tV hw.1 (by unfold isDefer; rw [hw.2.1]) (ex_assign hw.2.1 hw.2.2) h
theorem xK (b : Bool) (v : Value) (hw : (Region.wanted o (yielded ops a.tmps), o.op, a.eval x, a.eval (cond b y z)) = (true, .pick x y z, .bool b, v)) (h : wpListIn Fence.wide n P ops Q rest (a.put o.dst v) w) : wpListIn Fence.wide n P ops Q (o :: rest) a w := by
 simp only [Prod.mk.injEq] at hw;exact wpi_exG tV hw.1 (by unfold isDefer; rw [hw.2.1]) (ex_pick (b := b) hw.2.1 hw.2.2.1 (by cases b <;> exact hw.2.2.2)) h
theorem xL (v : Value) {t : TypeId} {p : Value} (hw : (Region.wanted o (yielded ops a.tmps), o.op, a.eval x) = (true, .load t x, p)) (hr : (Instr.loadAt t p).run P w = .ok v w) (h : wpListIn Fence.wide n P ops Q rest (a.put o.dst v) w) : wpListIn Fence.wide n P ops Q (o :: rest) a w := by
 simp only [Prod.mk.injEq] at hw;exact wpi_exG tV hw.1 (by unfold isDefer; rw [hw.2.1]) (ex_load hw.2.1 hw.2.2 hr) h
theorem xF (v : Value) {t : TypeId} {f : Nat} {p : Value} (hw : (Region.wanted o (yielded ops a.tmps), o.op, a.eval x) = (true, .fieldAddr t x f, p)) (hr : (Instr.fieldAt t p f).run P w = .ok v w) (h : wpListIn Fence.wide n P ops Q rest (a.put o.dst v) w) : wpListIn Fence.wide n P ops Q (o :: rest) a w := by
 simp only [Prod.mk.injEq] at hw;exact wpi_exG tV hw.1 (by unfold isDefer; rw [hw.2.1]) (ex_field hw.2.1 hw.2.2 hr) h
theorem xC {f : FuncId} {xs : Array Operand} {ts : Array TypeId} {l : List Value} (hf : Callable P f) (hw : (Region.wanted o (yielded ops a.tmps), o.op) = (true, .call { callee := .value (.func f), args := xs, argTypes := ts }))
  (hc : Calls P f l.toArray w fun e w' => ∃ v, e = .returned v ∧ wpListIn Fence.wide n P ops Q rest (a.put o.dst v) w') (hx : xs.toList.map a.eval = l) : wpListIn Fence.wide n P ops Q (o :: rest) a w :=
 wpi_callG hf tV wideC rfl (Prod.mk.inj hw).1 (Prod.mk.inj hw).2 (by rw [← hx]; apply Array.ext'; simp) hc
variable {B : Base} {H : List Res} {b off : Nat} {k L : List Value} {t e : TypeId} {v : Value} {J : List Value → World → Prop} {vals : List Value}
theorem mC {f : FuncId} {xs : Array Operand} {ts : Array TypeId} {l : List Value} (hf : Callable P f) (hw : (Region.wanted o (yielded ops a.tmps), o.op) = (true, .call { callee := .value (.func f), args := xs, argTypes := ts }))
  (hc : Calls P f l.toArray w fun e w' => ∃ v, e = .returned v ∧ J (vals ++ [v]) w') (hx : xs.toList.map a.eval = l) : StepMem P ops J Q o a w vals :=
 stepMem_calls hf (Prod.mk.inj hw).1 (Prod.mk.inj hw).2 (by rw [← hx]; apply Array.ext'; simp) hc
theorem xS (i : Nat) (hw : (Region.wanted o (yielded ops a.tmps), o.op, a.eval x, a.eval y, H[i]?) = (true, .store t x y, .pointer (some ⟨b, off, none⟩), .agg k.toArray, some (Res.cell b L e))) (hv : Inv B H w) (hz : (P.info? t).map (·.size) = some k.length) (hl : Nat.ble (off + k.length) L.length = true) (h1 : All1 k)
  (h : ∀ w', Inv B (H.set i (Res.cell b (sp L off k) e)) w' → wpListIn Fence.wide n P ops Q rest (a.put o.dst undef) w') : wpListIn Fence.wide n P ops Q (o :: rest) a w := by
 simp only [Prod.mk.injEq] at hw;obtain ⟨p, m, q, e1, e2, e3, e4⟩ := sp_eq off L k (Nat.le_of_ble_eq_true hl);exact sl_storeNAt i (new := k) (pre := p) (mid := m) (post := q) (L' := sp L off k) tV hw.1 hw.2.1 hw.2.2.1 hw.2.2.2.1 hv hw.2.2.2.2 hz e1 e2 e3 h1.at e4 h
theorem xV (i : Nat) (v : Value) (hw : (Region.wanted o (yielded ops a.tmps), o.op, a.eval x, a.eval y, H[i]?, Nat.blt off L.length) = (true, .store t x y, .pointer (some ⟨b, off, none⟩), v, some (Res.cell b L e), true)) (hv : Inv B H w) (hz : (P.info? t).map (·.size) = some 1) (hc : v.cells = #[v]) (h1 : v.oneCell' = true)
  (h : ∀ w', Inv B (H.set i (Res.cell b (sp L off [v]) e)) w' → wpListIn Fence.wide n P ops Q rest (a.put o.dst undef) w') : wpListIn Fence.wide n P ops Q (o :: rest) a w := by
 simp only [Prod.mk.injEq] at hw;exact sl_storeAt i (L' := sp L off [v]) tV hw.1 hw.2.1 hw.2.2.1 hw.2.2.2.1 hv hw.2.2.2.2.1 hz (Nat.le_of_ble_eq_true hw.2.2.2.2.2) hc h1 (sp_one _ _ _).symm h
theorem mS (i : Nat) (hw : (Region.wanted o (yielded ops a.tmps), o.op, a.eval x, a.eval y, H[i]?) = (true, .store t x y, .pointer (some ⟨b, off, none⟩), .agg k.toArray, some (Res.cell b L e))) (hv : Inv B H w) (hz : (P.info? t).map (·.size) = some k.length) (hl : Nat.ble (off + k.length) L.length = true) (h1 : All1 k)
  (h : ∀ w', Inv B (H.set i (Res.cell b (sp L off k) e)) w' → J (vals ++ [undef]) w') : StepMem P ops J Q o a w vals := by
 simp only [Prod.mk.injEq] at hw;obtain ⟨p, m, q, e1, e2, e3, e4⟩ := sp_eq off L k (Nat.le_of_ble_eq_true hl);exact mem_storeNAt i (new := k) (pre := p) (mid := m) (post := q) (L' := sp L off k) hw.1 hw.2.1 hw.2.2.1 hw.2.2.2.1 hv hw.2.2.2.2 hz e1 e2 e3 h1.at e4 h
theorem mV (i : Nat) (v : Value) (hw : (Region.wanted o (yielded ops a.tmps), o.op, a.eval x, a.eval y, H[i]?, Nat.blt off L.length) = (true, .store t x y, .pointer (some ⟨b, off, none⟩), v, some (Res.cell b L e), true)) (hv : Inv B H w) (hz : (P.info? t).map (·.size) = some 1) (hc : v.cells = #[v]) (h1 : v.oneCell' = true)
  (h : ∀ w', Inv B (H.set i (Res.cell b (sp L off [v]) e)) w' → J (vals ++ [undef]) w') : StepMem P ops J Q o a w vals := by
 simp only [Prod.mk.injEq] at hw;exact mem_storeAt i (L' := sp L off [v]) hw.1 hw.2.1 hw.2.2.1 hw.2.2.2.1 hv hw.2.2.2.2.1 hz (Nat.le_of_ble_eq_true hw.2.2.2.2.2) hc h1 (sp_one _ _ _).symm h
end
section
variable {n : Nat} {P : Program} {ops : Array Oper} {Q : Exit → Act → World → Prop} {a : Act} {w : World} {F : Fence} {K X : Act → World → Prop} {x y : Code} {id : Nat}
theorem rL {l : List Oper} (h : wpListIn F n P l.toArray Q l a w) : (Code.region id l.toArray false).wpIn F n P Q a w := wpIn_region_lit h
theorem sK (h : ∀ K : Act → World → Prop, (∀ a w, y.wpIn F n P Q a w → K a w) → x.wpIn F n P (Exit.then K Q) a w) : (Code.seq x y).wpIn F n P Q a w := wpIn_seq_k h
theorem wL (h : Q .normal a w) : wpListIn F n P ops Q [] a w := wpListIn_nil h
theorem wK (hk : ∀ a w, X a w → K a w) (h : X a w) : wpListIn F n P ops (Exit.then K Q) [] a w := wpListIn_nil (hk a w h)
theorem tK (hk : ∀ a w, X a w → K a w) (h : X a w) : Exit.then K Q .normal a w := hk a w h
theorem tN (h : X a w) : Exit.then X Q .normal a w := h
theorem bR {fn : Func} {R : Ending → World → Prop} {t : Tmp} (h : fn.results = #[.tmp t]) (hd : a.defers = []) (hR : R (.returned (a.tmps.getD t undef)) w) : bodyPost P fn R .ret a w := bodyPost_ret (results_tmp h _ _ _) hd hR
end
section
variable {n : Nat} {P : Program} {Q : Exit → Act → World → Prop} {a : Act} {w : World} {F : Fence} {X : Act → World → Prop} {x y : Code} {c : Operand} {id j : Nat}
theorem cT (hc : a.eval c = .bool true) (h : x.wpIn F n P Q a w) : (Code.cond c x y).wpIn F n P Q a w := wpIn_cond_true hc h
theorem cF (hc : a.eval c = .bool false) (h : y.wpIn F n P Q a w) : (Code.cond c x y).wpIn F n P Q a w := wpIn_cond_false hc h
theorem kS (h : Q .normal a w) : Code.skip.wpIn F n P Q a w := wpIn_skip h
theorem rR (h : Q .ret a w) : Code.ret.wpIn F n P Q a w := wpIn_ret h
theorem xE (h : Q (.exit id) a w) : (Code.exit id).wpIn F n P Q a w := wpIn_exit h
theorem bB (h : x.wpIn F n P (Exit.inBlock id Q) a w) : (Code.block id x).wpIn F n P Q a w := wpIn_block h
theorem tR (h : Q .ret a w) : Exit.then X Q .ret a w := h
theorem tX (h : Q (.exit id) a w) : Exit.then X Q (.exit id) a w := h
theorem bZ (h : Q .ret a w) : Exit.inBlock id Q .ret a w := h
theorem bN (h : Q .normal a w) : Exit.inBlock id Q .normal a w := h
theorem bH (h : Q .normal a w) : Exit.inBlock id Q (.exit id) a w := blk_hit h
theorem bM (hn : (j == id) = false) (h : Q (.exit j) a w) : Exit.inBlock id Q (.exit j) a w := blk_miss hn h
end
class Wk (G : Prop) (R : outParam Prop) : Prop where h : R → G
class Kt (K : Act → World → Prop) (X : outParam (Act → World → Prop)) : Prop where h : ∀ a w, X a w → K a w
theorem uN {G R : Prop} [i : Wk G R] (h : R) : G := i.h h
instance (priority := 10) wSt {G : Prop} : Wk G G := ⟨id⟩
class GtO (l : List Oper) (n : Nat) (v : outParam Oper) : Prop where h : l[n]? = some v
instance goz {v : Oper} {l : List Oper} : GtO (v :: l) 0 v := ⟨rfl⟩
instance gos {u v : Oper} {l : List Oper} {n : Nat} [h : GtO l n v] : GtO (u :: l) (n + 1) v := ⟨by rw [List.getElem?_cons_succ]; exact h.h⟩
class Wn (g : Option (Nat × Bool)) (ops : Array Oper) (l : List Value) (b : outParam Bool) : Prop where h : (match g with | none => true | some (j, want) => yielded ops l.toArray j == some want) = b
instance wn0 {ops : Array Oper} {l : List Value} : Wn none ops l true := ⟨rfl⟩
theorem yd {ops : List Oper} {l : List Value} {j d : Nat} {v : Value} {o : Oper} (ho : ops[j]? = some o) (hd : o.dst = some d) (hv : l[d]? = some v) : yielded ops.toArray l.toArray j = match v with | .bool b => some b | _ => none := by
 unfold yielded;rw [List.getElem?_toArray, ho];simp only [Option.bind_some, hd, List.getElem?_toArray, hv];cases v <;> rfl
section
variable {ops : List Oper} {l : List Value} {j d t : Nat} {p : String} {u : Array Edge} {q : Op} {g : Option (Nat × Bool)}
instance wnTT [o : GtO ops j ⟨some d, q, t, p, u, g⟩] [v : GtN l d (.bool true)] : Wn (some (j, true)) ops.toArray l true := ⟨by show (yielded ops.toArray l.toArray j == some true) = true; rw [yd o.h rfl v.h]; rfl⟩
instance wnTF [o : GtO ops j ⟨some d, q, t, p, u, g⟩] [v : GtN l d (.bool false)] : Wn (some (j, true)) ops.toArray l false := ⟨by show (yielded ops.toArray l.toArray j == some true) = false; rw [yd o.h rfl v.h]; rfl⟩
instance wnFT [o : GtO ops j ⟨some d, q, t, p, u, g⟩] [v : GtN l d (.bool true)] : Wn (some (j, false)) ops.toArray l false := ⟨by show (yielded ops.toArray l.toArray j == some false) = false; rw [yd o.h rfl v.h]; rfl⟩
instance wnFF [o : GtO ops j ⟨some d, q, t, p, u, g⟩] [v : GtN l d (.bool false)] : Wn (some (j, false)) ops.toArray l true := ⟨by show (yielded ops.toArray l.toArray j == some false) = true; rw [yd o.h rfl v.h]; rfl⟩
instance wnU [o : GtO ops j ⟨some d, q, t, p, u, g⟩] [v : GtN l d undef] {b : Bool} : Wn (some (j, b)) ops.toArray l false := ⟨by show (yielded ops.toArray l.toArray j == some b) = false; rw [yd o.h rfl v.h]; rfl⟩
end
section
variable {n : Nat} {P : Program} {ops : Array Oper} {Q : Exit → Act → World → Prop} {a : Act} {w : World} {rest : List Oper} {x y z : Operand} {l k : List Value} {ds : List Deferred} {v : Value} {d : Option Nat} {t : Nat} {p : String} {u : Array Edge} {g : Option (Nat × Bool)} {R : Prop}
instance wMv [f : Nf a l ds] [W : Wn g ops l true] [e : Gt l x v] [q : Pt l d v k] [i : Wk (wpListIn Fence.wide n P ops Q rest ⟨k.toArray, ds⟩ w) R] : Wk (wpListIn Fence.wide n P ops Q (⟨d, .move x, t, p, u, g⟩ :: rest) a w) R :=
 ⟨fun h => by cases f.h; exact uM (Prod.ext W.h rfl) (i.h h)⟩
instance wAs [f : Nf a l ds] [W : Wn g ops l true] [e : Gt l x v] [q : Pt l d v k] [i : Wk (wpListIn Fence.wide n P ops Q rest ⟨k.toArray, ds⟩ w) R] : Wk (wpListIn Fence.wide n P ops Q (⟨d, .assign x, t, p, u, g⟩ :: rest) a w) R :=
 ⟨fun h => by cases f.h; exact uA (Prod.ext W.h rfl) (i.h h)⟩
instance wPk {b : Bool} [f : Nf a l ds] [W : Wn g ops l true] [gx : Gt l x (.bool b)] [e : Pk l b y z v] [q : Pt l d v k] [i : Wk (wpListIn Fence.wide n P ops Q rest ⟨k.toArray, ds⟩ w) R] : Wk (wpListIn Fence.wide n P ops Q (⟨d, .pick x y z, t, p, u, g⟩ :: rest) a w) R :=
 ⟨fun h => by cases f.h; exact uK (Prod.ext W.h rfl) (i.h h)⟩
instance wEx {vs : List Value} {j : Nat} [f : Nf a l ds] [W : Wn g ops l true] [e : Gt l x (.tuple vs.toArray)] [e2 : GtN vs j v] [q : Pt l d v k] [i : Wk (wpListIn Fence.wide n P ops Q rest ⟨k.toArray, ds⟩ w) R] : Wk (wpListIn Fence.wide n P ops Q (⟨d, .extract x j, t, p, u, g⟩ :: rest) a w) R :=
 ⟨fun h => by cases f.h; exact uE (Prod.ext W.h rfl) (i.h h)⟩
instance (priority := 500) wNo {o : Op} [f : Nf a l ds] [W : Wn g ops l false] [q : Pt l d undef k] [i : Wk (wpListIn Fence.wide n P ops Q rest ⟨k.toArray, ds⟩ w) R] : Wk (wpListIn Fence.wide n P ops Q (⟨d, o, t, p, u, g⟩ :: rest) a w) R :=
 ⟨fun h => by cases f.h; exact uP W.h (i.h h)⟩
instance wEn {K X : Act → World → Prop} [f : Nf a l ds] [hk : Kt K X] [i : Wk (X ⟨l.toArray, ds⟩ w) R] : Wk (wpListIn Fence.wide n P ops (Exit.then K Q) [] a w) R := ⟨fun h => uW hk.h (i.h h)⟩
instance (priority := 200) wNl [f : Nf a l ds] [i : Wk (Q .normal ⟨l.toArray, ds⟩ w) R] : Wk (wpListIn Fence.wide n P ops Q [] a w) R := ⟨fun h => uZ (i.h h)⟩
instance wTk {K X : Act → World → Prop} [hk : Kt K X] [i : Wk (X a w) R] : Wk (Exit.then K Q .normal a w) R := ⟨fun h => tK hk.h (i.h h)⟩
end
section
variable {n : Nat} {P : Program} {Q : Exit → Act → World → Prop} {a : Act} {w : World} {F : Fence} {X : Act → World → Prop} {x y : Code} {c : Operand} {id j : Nat} {R : Prop} {l : List Value} {ds : List Deferred}
instance wrL {l : List Oper} [i : Wk (wpListIn F n P l.toArray Q l a w) R] : Wk ((Code.region id l.toArray false).wpIn F n P Q a w) R := ⟨fun h => rL (i.h h)⟩
instance wsk [i : Wk (Q .normal a w) R] : Wk (Code.skip.wpIn F n P Q a w) R := ⟨fun h => kS (i.h h)⟩
instance wcT [f : Nf a l ds] [e : Gt l c (.bool true)] [i : Wk (x.wpIn F n P Q a w) R] : Wk ((Code.cond c x y).wpIn F n P Q a w) R := ⟨fun h => cT (by rw [f.h]; exact e.h ds) (i.h h)⟩
instance wcF [f : Nf a l ds] [e : Gt l c (.bool false)] [i : Wk (y.wpIn F n P Q a w) R] : Wk ((Code.cond c x y).wpIn F n P Q a w) R := ⟨fun h => cF (by rw [f.h]; exact e.h ds) (i.h h)⟩
instance wrt [i : Wk (Q .ret a w) R] : Wk (Code.ret.wpIn F n P Q a w) R := ⟨fun h => rR (i.h h)⟩
instance wtr [i : Wk (Q .ret a w) R] : Wk (Exit.then X Q .ret a w) R := ⟨fun h => tR (i.h h)⟩
instance wtx [i : Wk (Q (.exit id) a w) R] : Wk (Exit.then X Q (.exit id) a w) R := ⟨fun h => tX (i.h h)⟩
instance wbr [i : Wk (Q .ret a w) R] : Wk (Exit.inBlock id Q .ret a w) R := ⟨fun h => bZ (i.h h)⟩
instance wbn [i : Wk (Q .normal a w) R] : Wk (Exit.inBlock id Q .normal a w) R := ⟨fun h => bN (i.h h)⟩
instance wbh [i : Wk (Q .normal a w) R] : Wk (Exit.inBlock id Q (.exit id) a w) R := ⟨fun h => bH (i.h h)⟩
instance wxe [i : Wk (Q (.exit id) a w) R] : Wk ((Code.exit id).wpIn F n P Q a w) R := ⟨fun h => xE (i.h h)⟩
instance wbB [i : Wk (x.wpIn F n P (Exit.inBlock id Q) a w) R] : Wk ((Code.block id x).wpIn F n P Q a w) R := ⟨fun h => bB (i.h h)⟩
instance wsq {R : (Act → World → Prop) → Prop} [i : ∀ K, [Kt K (fun a w => y.wpIn F n P Q a w)] → Wk (x.wpIn F n P (Exit.then K Q) a w) (R K)] : Wk ((Code.seq x y).wpIn F n P Q a w) (∀ K, Kt K (fun a w => y.wpIn F n P Q a w) → R K) :=
 ⟨fun h => sK fun K k => by haveI : Kt K (fun a w => y.wpIn F n P Q a w) := ⟨k⟩; exact (i K).h (h K ⟨k⟩)⟩
end
class Cm (P : Program) (q : Op) (l : List Value) (p : outParam Prop) : Prop where
 t : p → ∀ (ds : List Deferred) (o : Oper) (w : World), o.op = q → Ex P ⟨l.toArray, ds⟩ o w (.bool true) w
 f : ¬ p → ∀ (ds : List Deferred) (o : Oper) (w : World), o.op = q → Ex P ⟨l.toArray, ds⟩ o w (.bool false) w
section
variable {P : Program} {l : List Value} {x y : Operand} {t u : TypeId}
instance clss {k : IntKind} {m n : Int} [e : Gt l x (.int k m)] [f : Gt l y (.int k n)] : Cm P (.binOp .lss t x y u) l (m < n) := ⟨fun h ds _ _ ho => ex_lss ho (e.h ds) (f.h ds) (qT h), fun h ds _ _ ho => ex_lss ho (e.h ds) (f.h ds) (qF h)⟩
instance cleq {k : IntKind} {m n : Int} [e : Gt l x (.int k m)] [f : Gt l y (.int k n)] : Cm P (.binOp .leq t x y u) l (m ≤ n) := ⟨fun h ds _ _ ho => ex_leq ho (e.h ds) (f.h ds) (qT h), fun h ds _ _ ho => ex_leq ho (e.h ds) (f.h ds) (qF h)⟩
instance cgtr {k : IntKind} {m n : Int} [e : Gt l x (.int k m)] [f : Gt l y (.int k n)] : Cm P (.binOp .gtr t x y u) l (m > n) := ⟨fun h ds _ _ ho => ex_gtr ho (e.h ds) (f.h ds) (qT h), fun h ds _ _ ho => ex_gtr ho (e.h ds) (f.h ds) (qF h)⟩
instance cgeq {k : IntKind} {m n : Int} [e : Gt l x (.int k m)] [f : Gt l y (.int k n)] : Cm P (.binOp .geq t x y u) l (m ≥ n) := ⟨fun h ds _ _ ho => ex_geq ho (e.h ds) (f.h ds) (qT h), fun h ds _ _ ho => ex_geq ho (e.h ds) (f.h ds) (qF h)⟩
instance ceql {k : IntKind} {m n : Int} [e : Gt l x (.int k m)] [f : Gt l y (.int k n)] : Cm P (.binOp .eql t x y u) l (m = n) := ⟨fun h ds _ _ ho => ex_eql ho (e.h ds) (f.h ds) (qT h), fun h ds _ _ ho => ex_eql ho (e.h ds) (f.h ds) (qF h)⟩
instance cneq {k : IntKind} {m n : Int} [e : Gt l x (.int k m)] [f : Gt l y (.int k n)] : Cm P (.binOp .neq t x y u) l (m ≠ n) := ⟨fun h ds _ _ ho => ex_neq ho (e.h ds) (f.h ds) (qT h), fun h ds _ _ ho => ex_neq ho (e.h ds) (f.h ds) (qF h)⟩
instance cseql {m n : List UInt8} [e : Gt l x (.string ⟨m.toArray⟩)] [f : Gt l y (.string ⟨n.toArray⟩)] : Cm P (.binOp .eql t x y u) l (m = n) := ⟨fun h ds _ _ ho => ex_seql ho (e.h ds) (f.h ds) (qT h), fun h ds _ _ ho => ex_seql ho (e.h ds) (f.h ds) (qF h)⟩
instance csneq {m n : List UInt8} [e : Gt l x (.string ⟨m.toArray⟩)] [f : Gt l y (.string ⟨n.toArray⟩)] : Cm P (.binOp .neq t x y u) l (m ≠ n) := ⟨fun h ds _ _ ho => ex_sneq ho (e.h ds) (f.h ds) (qT h), fun h ds _ _ ho => ex_sneq ho (e.h ds) (f.h ds) (qF h)⟩
end
section
variable {n : Nat} {P : Program} {ops : Array Oper} {Q : Exit → Act → World → Prop} {a : Act} {w : World} {rest : List Oper} {l k k2 : List Value} {ds : List Deferred} {d : Option Nat} {t u tt : Nat} {s : String} {ed : Array Edge} {g : Option (Nat × Bool)} {R R2 p : Prop} {b : BinOp} {x y : Operand}
theorem uT [f : Nf a l ds] [W : Wn g ops l true] [c : Cm P (.binOp b t x y u) l p] (hp : p) [q : Pt l d (.bool true) k] [i : Wk (wpListIn Fence.wide n P ops Q rest ⟨k.toArray, ds⟩ w) R] (h : R) : wpListIn Fence.wide n P ops Q (⟨d, .binOp b t x y u, tt, s, ed, g⟩ :: rest) a w := by
 cases f.h; exact uG (.bool true) (Prod.ext W.h rfl) (c.t hp ds _ w rfl) (i.h h)
theorem uU [f : Nf a l ds] [W : Wn g ops l true] [c : Cm P (.binOp b t x y u) l p] (hp : ¬ p) [q : Pt l d (.bool false) k] [i : Wk (wpListIn Fence.wide n P ops Q rest ⟨k.toArray, ds⟩ w) R] (h : R) : wpListIn Fence.wide n P ops Q (⟨d, .binOp b t x y u, tt, s, ed, g⟩ :: rest) a w := by
 cases f.h; exact uG (.bool false) (Prod.ext W.h rfl) (c.f hp ds _ w rfl) (i.h h)
theorem uB [f : Nf a l ds] [W : Wn g ops l true] [c : Cm P (.binOp b t x y u) l p] [q : Pt l d (.bool true) k] [q2 : Pt l d (.bool false) k2] [i : Wk (wpListIn Fence.wide n P ops Q rest ⟨k.toArray, ds⟩ w) R] [i2 : Wk (wpListIn Fence.wide n P ops Q rest ⟨k2.toArray, ds⟩ w) R2] (h : p → R) (h2 : ¬ p → R2) : wpListIn Fence.wide n P ops Q (⟨d, .binOp b t x y u, tt, s, ed, g⟩ :: rest) a w := by
 by_cases hp : p
 ·exact uT hp (h hp)
 ·exact uU hp (h2 hp)
end
class NeN (a b : Nat) : Prop where h : (a == b) = false
instance ne1 {n : Nat} : NeN 0 (n + 1) := ⟨rfl⟩
instance ne2 {n : Nat} : NeN (n + 1) 0 := ⟨rfl⟩
instance ne3 {a b : Nat} [h : NeN a b] : NeN (a + 1) (b + 1) := ⟨by have := h.h; simp at this ⊢; exact this⟩
class Nm (l : List Nat) (i : Nat) : Prop where h : l.contains i = false
instance nm0 {i : Nat} : Nm [] i := ⟨rfl⟩
instance nm1 {l : List Nat} {i j : Nat} [a : NeN i j] [b : Nm l i] : Nm (j :: l) i := ⟨by rw [List.contains_cons, a.h, b.h]; rfl⟩
section
variable {E : World → World → Prop} {P : Program} {ops : Array Oper} {mem : List Nat} {R : Act → World → Prop} {i : Nat} {is : List (Nat × Oper)} {Fl : List (Nat × (World → Prop))} {J : World → Prop} {a : Act} {v : Value} {x y z : Operand} {l k : List Value} {ds : List Deferred} {d : Option Nat} {t : Nat} {p : String} {u : Array Edge} {g : Option (Nat × Bool)} {G : Prop}
instance vMv [EOk E] [f : Nf a l ds] [W : Wn g ops l true] [M : Nm mem i] [e : Gt l x v] [q : Pt l d v k] [c : Wk (DWE E P ops mem R is Fl J ⟨k.toArray, ds⟩) G] : Wk (DWE E P ops mem R ((i, ⟨d, .move x, t, p, u, g⟩) :: is) Fl J a) G :=
 ⟨fun h => by cases f.h; exact dM v (Prod.ext M.h (Prod.ext W.h (Prod.ext rfl (e.h ds)))) (by rw [q.h]; exact c.h h)⟩
instance vAs [EOk E] [f : Nf a l ds] [W : Wn g ops l true] [M : Nm mem i] [e : Gt l x v] [q : Pt l d v k] [c : Wk (DWE E P ops mem R is Fl J ⟨k.toArray, ds⟩) G] : Wk (DWE E P ops mem R ((i, ⟨d, .assign x, t, p, u, g⟩) :: is) Fl J a) G :=
 ⟨fun h => by cases f.h; exact dA v (Prod.ext M.h (Prod.ext W.h (Prod.ext rfl (e.h ds)))) (by rw [q.h]; exact c.h h)⟩
instance vPk {b : Bool} [EOk E] [f : Nf a l ds] [W : Wn g ops l true] [M : Nm mem i] [gx : Gt l x (.bool b)] [e : Pk l b y z v] [q : Pt l d v k] [c : Wk (DWE E P ops mem R is Fl J ⟨k.toArray, ds⟩) G] : Wk (DWE E P ops mem R ((i, ⟨d, .pick x y z, t, p, u, g⟩) :: is) Fl J a) G :=
 ⟨fun h => by cases f.h; exact dG v (Prod.ext M.h W.h) (ex_pick (b := b) rfl (gx.h ds) (by have := e.h ds; cases b <;> exact this)) (by rw [q.h]; exact c.h h)⟩
instance vEx {vs : List Value} {j : Nat} [EOk E] [f : Nf a l ds] [W : Wn g ops l true] [M : Nm mem i] [e : Gt l x (.tuple vs.toArray)] [e2 : GtN vs j v] [q : Pt l d v k] [c : Wk (DWE E P ops mem R is Fl J ⟨k.toArray, ds⟩) G] : Wk (DWE E P ops mem R ((i, ⟨d, .extract x j, t, p, u, g⟩) :: is) Fl J a) G :=
 ⟨fun h => by cases f.h; exact dG v (Prod.ext M.h W.h) (ex_extract rfl (e.h ds) (by simpa using e2.h)) (by rw [q.h]; exact c.h h)⟩
instance (priority := 500) vNo {o : Op} [f : Nf a l ds] [W : Wn g ops l false] [q : Pt l d undef k] [c : Wk (DWE E P ops mem R is Fl J ⟨k.toArray, ds⟩) G] : Wk (DWE E P ops mem R ((i, ⟨d, o, t, p, u, g⟩) :: is) Fl J a) G :=
 ⟨fun h => by cases f.h; exact dP W.h (by rw [q.h]; exact c.h h)⟩
end
theorem eR {x : Value} {p : Value → Prop} {R : Prop} [c : Wk (p x) R] (h : R) : ∃ v, Ending.returned x = .returned v ∧ p v := ⟨x, rfl, c.h h⟩
section
variable {n : Nat} {P : Program} {ops : Array Oper} {Q : Exit → Act → World → Prop} {a : Act} {w w' : World} {rest : List Oper} {o : Oper} {x : Operand} {l k : List Value} {ds : List Deferred} {R : Prop}
theorem oG (v : Value) [f : Nf a l ds] (hw : (Region.wanted o (yielded ops a.tmps), isDefer o) = (true, false)) (hr : Ex P a o w v w') [p : Pt l o.dst v k] [c : Wk (wpListIn Fence.wide n P ops Q rest ⟨k.toArray, ds⟩ w') R] (h : R) : wpListIn Fence.wide n P ops Q (o :: rest) a w := uG v hw hr (c.h h)
theorem oL (v : Value) {t : TypeId} {q : Value} [f : Nf a l ds] (hw : (Region.wanted o (yielded ops a.tmps), o.op, a.eval x) = (true, .load t x, q)) (hr : (Instr.loadAt t q).run P w = .ok v w) [p : Pt l o.dst v k] [c : Wk (wpListIn Fence.wide n P ops Q rest ⟨k.toArray, ds⟩ w) R] (h : R) : wpListIn Fence.wide n P ops Q (o :: rest) a w := uL v hw hr (c.h h)
theorem oF (v : Value) {t : TypeId} {j : Nat} {q : Value} [f : Nf a l ds] (hw : (Region.wanted o (yielded ops a.tmps), o.op, a.eval x) = (true, .fieldAddr t x j, q)) (hr : (Instr.fieldAt t q j).run P w = .ok v w) [p : Pt l o.dst v k] [c : Wk (wpListIn Fence.wide n P ops Q rest ⟨k.toArray, ds⟩ w) R] (h : R) : wpListIn Fence.wide n P ops Q (o :: rest) a w := uF v hw hr (c.h h)
end
class Hs (H : List Res) (i : Nat) (r : Res) (K : outParam (List Res)) : Prop where h : H.set i r = K
instance hs0 {r x : Res} {H : List Res} : Hs (x :: H) 0 r (r :: H) := ⟨rfl⟩
instance hs1 {r x : Res} {H K : List Res} {i : Nat} [h : Hs H i r K] : Hs (x :: H) (i + 1) r (x :: K) := ⟨by rw [List.set_cons_succ, h.h]⟩
class Sq (L : List Value) (n : Nat) (k : List Value) (M : outParam (List Value)) : Prop where h : sp L n k = M
instance sq0 {L : List Value} : Sq L 0 [] L := ⟨by cases L <;> rfl⟩
instance sq1 {x v : Value} {L k M : List Value} [h : Sq L 0 k M] : Sq (x :: L) 0 (v :: k) (v :: M) := ⟨by show v :: sp L 0 k = _; rw [h.h]⟩
instance sq2 {x : Value} {L k M : List Value} {n : Nat} [h : Sq L n k M] : Sq (x :: L) (n + 1) k (x :: M) := ⟨by cases k <;> (show x :: sp L n _ = _; rw [h.h])⟩
section
variable {n : Nat} {P : Program} {ops : Array Oper} {Q : Exit → Act → World → Prop} {a : Act} {w : World} {rest : List Oper} {o : Oper} {x y : Operand} {B : Base} {H K : List Res} {b off : Nat} {k L M : List Value} {t e : TypeId} {J : List Value → World → Prop} {vals : List Value}
theorem zX (i : Nat) (hw : (Region.wanted o (yielded ops a.tmps), o.op, a.eval x, a.eval y, H[i]?) = (true, .store t x y, .pointer (some ⟨b, off, none⟩), .agg k.toArray, some (Res.cell b L e))) (hv : Inv B H w) (hz : (P.info? t).map (·.size) = some k.length) (hl : Nat.ble (off + k.length) L.length = true) [q : Sq L off k M] [r : Hs H i (Res.cell b M e) K]
  (h : ∀ w', Inv B K w' → wpListIn Fence.wide n P ops Q rest (a.put o.dst undef) w') (h1 : All1 k := by exact ⟨rfl, rfl, rfl, rfl, trivial⟩) : wpListIn Fence.wide n P ops Q (o :: rest) a w :=
 xS i hw hv hz hl h1 fun w' hv' => h w' (by rw [q.h, r.h] at hv'; exact hv')
theorem zY (i : Nat) (hw : (Region.wanted o (yielded ops a.tmps), o.op, a.eval x, a.eval y, H[i]?) = (true, .store t x y, .pointer (some ⟨b, off, none⟩), .agg k.toArray, some (Res.cell b L e))) (hv : Inv B H w) (hz : (P.info? t).map (·.size) = some k.length) (hl : Nat.ble (off + k.length) L.length = true) [q : Sq L off k M] [r : Hs H i (Res.cell b M e) K]
  (h : ∀ w', Inv B K w' → J (vals ++ [undef]) w') (h1 : All1 k := by exact ⟨rfl, rfl, rfl, rfl, trivial⟩) : StepMem P ops J Q o a w vals :=
 mS i hw hv hz hl h1 fun w' hv' => h w' (by rw [q.h, r.h] at hv'; exact hv')
end
end Go.Pm
namespace Go.Proofs.YtgbhdfpobgefgaaGreatDoor
open Go.RowKit Go.Pm
theorem mixed : Tryz.prog.follows .mixedOrders = true := by kernel_rfl
theorem clonePairs0 (B : Base) (H : List Res) (w : World) (hv : Inv B H w) :
  Calls Tryz.prog 103 #[vN] w fun e w' => e = .returned (vN) ∧ Inv B H w' := by
 refine cW Tryz.func103 rfl Tryz.ntmps103 ?_;simp only [al];apply uN;intro _ _;apply uN;intro _ _ _ _;refine oG (.bool true) rfl (ex_slnil Tryz.underlying81 rfl rfl rfl rfl) ?_;intro _ _;apply uN;refine bR rfl rfl ?_;exact ⟨rfl, hv⟩
theorem s1mk121 : (Tryz.prog.info? 121).map (fun i => (i.zero, i.size, i.bytes)) = some (some (.agg #[vS [], vS []]), 2, 32) := by kernel_rfl
theorem s1el81 : Elem Tryz.prog 81 121 (.agg #[vS [], vS []]) 2 32 := elem_of Tryz.underlying81 s1mk121 (by rfl) (by decide)
theorem clonePairs1 (B : Base) (H : List Res) (w : World) (a : Addr) (n c : Nat) (xs : List Value) (hok : SliceOk (some a) n c) (hl : xs.length = n * 2) (h1 : ∀ u ∈ xs, u.oneCell' = true) (hn : n ≤ 1000000) (hr : RdV B [] (some a) xs) (hv : Inv B H w) :
  Calls Tryz.prog 103 #[.slice (some a) n c] w fun e w' => ∃ C ad' c', B.Le C ∧ e = .returned (.slice ad' n c') ∧ SliceOk ad' n c' ∧ RdV C [] ad' xs ∧ Inv C H w' := by
 refine cW Tryz.func103 rfl Tryz.ntmps103 ?_;simp only [al];apply uN;intro _ _;apply uN;intro _ _ _ _;refine oG (.bool false) rfl (ex_slnil Tryz.underlying81 rfl rfl rfl rfl) ?_;intro _ _;refine sl_row0 (size := 2) tV (wn rfl) rfl hv (e := 121) (fun w => by kernel_rfl) (fun b5 w6 hv => ?_);apply uN;refine sl_append (news := xs) tV (wn rfl) rfl rfl rfl s1el81 hv hok hl ((hr.more (Base.Le.refl _) (fun _ h => by cases h)).src hv) (h1) (by unfold maxLen; omega) (by omega) (fun rv7 w10 hv => ?_);obtain ⟨ra8, rc9, rfl⟩ := row_slice hv.head;apply uN;refine bR rfl rfl ?_;obtain ⟨C, hB, hv2, hr2, hok2, -⟩ := hv.rowBy;rw [Nat.zero_add] at hok2 ⊢;rw [List.nil_append] at hr2;exact ⟨C, _, _, hB, rfl, hok2, hr2, hv2⟩
theorem clonePairs (B : Base) (H : List Res) (w : World) (v : Value) (n : Nat) (xs : List Value) (h : RowB B v n xs) (hl : xs.length = n * 2) (h1 : ∀ u ∈ xs, u.oneCell' = true) (hn : n ≤ 1000000) (hv : Inv B H w) :
  Calls Tryz.prog 103 #[v] w fun e w' => ∃ C v', B.Le C ∧ e = .returned v' ∧ RowB C v' n xs ∧ Inv C H w' := by
 obtain ⟨ad, c, rfl, hok, hr⟩ := h;cases ad with
 | none =>
  have hc0 : c = 0 := hok.nil rfl;have hn0 : n = 0 := by have := hok.le; omega
  subst hc0 hn0;refine (clonePairs0 B H w hv).mono ?_;rintro e w' ⟨rfl, hv⟩;exact ⟨B, _, Base.Le.refl _, rfl, ⟨none, 0, rfl, hok, hr⟩, hv⟩
 | some a =>
  refine (clonePairs1 B H w a n c xs hok hl h1 hn hr hv).mono ?_;rintro e w' ⟨C, ad', c', hB, rfl, hok', hr', hv'⟩;exact ⟨C, _, hB, rfl, ⟨ad', c', rfl, hok', hr'⟩, hv'⟩
theorem cloneTexts0 (B : Base) (H : List Res) (w : World) (hv : Inv B H w) :
  Calls Tryz.prog 104 #[vN] w fun e w' => e = .returned (vN) ∧ Inv B H w' := by
 refine cW Tryz.func104 rfl Tryz.ntmps104 ?_;simp only [al];apply uN;intro _ _;apply uN;intro _ _ _ _;refine oG (.bool true) rfl (ex_slnil Tryz.underlying22 rfl rfl rfl rfl) ?_;intro _ _;apply uN;refine bR rfl rfl ?_;exact ⟨rfl, hv⟩
theorem s1mk9 : (Tryz.prog.info? 9).map (fun i => (i.zero, i.size, i.bytes)) = some (some (vS []), 1, 16) := by kernel_rfl
theorem s1el22 : Elem Tryz.prog 22 9 (vS []) 1 16 := elem_of Tryz.underlying22 s1mk9 (by rfl) (by decide)
theorem cloneTexts1 (B : Base) (H : List Res) (w : World) (a : Addr) (n c : Nat) (xs : List Value) (hok : SliceOk (some a) n c) (hl : xs.length = n * 1) (h1 : ∀ u ∈ xs, u.oneCell' = true) (hn : n ≤ 1000000) (hr : RdV B [] (some a) xs) (hv : Inv B H w) :
  Calls Tryz.prog 104 #[.slice (some a) n c] w fun e w' => ∃ C ad' c', B.Le C ∧ e = .returned (.slice ad' n c') ∧ SliceOk ad' n c' ∧ RdV C [] ad' xs ∧ Inv C H w' := by
 refine cW Tryz.func104 rfl Tryz.ntmps104 ?_;simp only [al];apply uN;intro _ _;apply uN;intro _ _ _ _;refine oG (.bool false) rfl (ex_slnil Tryz.underlying22 rfl rfl rfl rfl) ?_;intro _ _;refine sl_row0 (size := 1) tV (wn rfl) rfl hv (e := 9) (fun w => by kernel_rfl) (fun b5 w6 hv => ?_);apply uN;refine sl_append (news := xs) tV (wn rfl) rfl rfl rfl s1el22 hv hok hl ((hr.more (Base.Le.refl _) (fun _ h => by cases h)).src hv) (h1) (by unfold maxLen; omega) (by omega) (fun rv7 w10 hv => ?_);obtain ⟨ra8, rc9, rfl⟩ := row_slice hv.head;apply uN;refine bR rfl rfl ?_;obtain ⟨C, hB, hv2, hr2, hok2, -⟩ := hv.rowBy;rw [Nat.zero_add] at hok2 ⊢;rw [List.nil_append] at hr2;exact ⟨C, _, _, hB, rfl, hok2, hr2, hv2⟩
theorem cloneTexts (B : Base) (H : List Res) (w : World) (v : Value) (n : Nat) (xs : List Value) (h : RowB B v n xs) (hl : xs.length = n * 1) (h1 : ∀ u ∈ xs, u.oneCell' = true) (hn : n ≤ 1000000) (hv : Inv B H w) :
  Calls Tryz.prog 104 #[v] w fun e w' => ∃ C v', B.Le C ∧ e = .returned v' ∧ RowB C v' n xs ∧ Inv C H w' := by
 obtain ⟨ad, c, rfl, hok, hr⟩ := h;cases ad with
 | none =>
  have hc0 : c = 0 := hok.nil rfl;have hn0 : n = 0 := by have := hok.le; omega
  subst hc0 hn0;refine (cloneTexts0 B H w hv).mono ?_;rintro e w' ⟨rfl, hv⟩;exact ⟨B, _, Base.Le.refl _, rfl, ⟨none, 0, rfl, hok, hr⟩, hv⟩
 | some a =>
  refine (cloneTexts1 B H w a n c xs hok hl h1 hn hr hv).mono ?_;rintro e w' ⟨C, ad', c', hB, rfl, hok', hr', hv'⟩;exact ⟨C, _, hB, rfl, ⟨ad', c', rfl, hok', hr'⟩, hv'⟩
theorem cloneMems0 (B : Base) (H : List Res) (w : World) (hv : Inv B H w) :
  Calls Tryz.prog 105 #[vN] w fun e w' => e = .returned (vN) ∧ Inv B H w' := by
 refine cW Tryz.func105 rfl Tryz.ntmps105 ?_;simp only [al];apply uN;intro _ _;apply uN;intro _ _ _ _;refine oG (.bool true) rfl (ex_slnil Tryz.underlying82 rfl rfl rfl rfl) ?_;intro _ _;apply uN;refine bR rfl rfl ?_;exact ⟨rfl, hv⟩
theorem s1mk123 : (Tryz.prog.info? 123).map (fun i => (i.zero, i.size, i.bytes)) = some (some (.agg #[vI 0, vS []]), 2, 24) := by kernel_rfl
theorem s1el82 : Elem Tryz.prog 82 123 (.agg #[vI 0, vS []]) 2 24 := elem_of Tryz.underlying82 s1mk123 (by rfl) (by decide)
theorem cloneMems1 (B : Base) (H : List Res) (w : World) (a : Addr) (n c : Nat) (xs : List Value) (hok : SliceOk (some a) n c) (hl : xs.length = n * 2) (h1 : ∀ u ∈ xs, u.oneCell' = true) (hn : n ≤ 1000000) (hr : RdV B [] (some a) xs) (hv : Inv B H w) :
  Calls Tryz.prog 105 #[.slice (some a) n c] w fun e w' => ∃ C ad' c', B.Le C ∧ e = .returned (.slice ad' n c') ∧ SliceOk ad' n c' ∧ RdV C [] ad' xs ∧ Inv C H w' := by
 refine cW Tryz.func105 rfl Tryz.ntmps105 ?_;simp only [al];apply uN;intro _ _;apply uN;intro _ _ _ _;refine oG (.bool false) rfl (ex_slnil Tryz.underlying82 rfl rfl rfl rfl) ?_;intro _ _;refine sl_row0 (size := 2) tV (wn rfl) rfl hv (e := 123) (fun w => by kernel_rfl) (fun b5 w6 hv => ?_);apply uN;refine sl_append (news := xs) tV (wn rfl) rfl rfl rfl s1el82 hv hok hl ((hr.more (Base.Le.refl _) (fun _ h => by cases h)).src hv) (h1) (by unfold maxLen; omega) (by omega) (fun rv7 w10 hv => ?_);obtain ⟨ra8, rc9, rfl⟩ := row_slice hv.head;apply uN;refine bR rfl rfl ?_;obtain ⟨C, hB, hv2, hr2, hok2, -⟩ := hv.rowBy;rw [Nat.zero_add] at hok2 ⊢;rw [List.nil_append] at hr2;exact ⟨C, _, _, hB, rfl, hok2, hr2, hv2⟩
theorem cloneMems (B : Base) (H : List Res) (w : World) (v : Value) (n : Nat) (xs : List Value) (h : RowB B v n xs) (hl : xs.length = n * 2) (h1 : ∀ u ∈ xs, u.oneCell' = true) (hn : n ≤ 1000000) (hv : Inv B H w) :
  Calls Tryz.prog 105 #[v] w fun e w' => ∃ C v', B.Le C ∧ e = .returned v' ∧ RowB C v' n xs ∧ Inv C H w' := by
 obtain ⟨ad, c, rfl, hok, hr⟩ := h;cases ad with
 | none =>
  have hc0 : c = 0 := hok.nil rfl;have hn0 : n = 0 := by have := hok.le; omega
  subst hc0 hn0;refine (cloneMems0 B H w hv).mono ?_;rintro e w' ⟨rfl, hv⟩;exact ⟨B, _, Base.Le.refl _, rfl, ⟨none, 0, rfl, hok, hr⟩, hv⟩
 | some a =>
  refine (cloneMems1 B H w a n c xs hok hl h1 hn hr hv).mono ?_;rintro e w' ⟨C, ad', c', hB, rfl, hok', hr', hv'⟩;exact ⟨C, _, hB, rfl, ⟨ad', c', rfl, hok', hr'⟩, hv'⟩
theorem s1al84 : AL Tryz.prog 84 [vI 0, vS [], vN, vN, vN] := fun w => by kernel_rfl
theorem s1fa84_2 : FA Tryz.prog 84 2 2 := fun w b o => by kernel_rfl
theorem s1na81 (w : World) : (isAgg 81).run Tryz.prog w = .ok false w := by kernel_rfl
theorem s1callable103 : Callable Tryz.prog 103 := cb Tryz.func103 (by kernel_rfl)
theorem s1sz81 : (Tryz.prog.info? 81).map (·.size) = some 1 := by kernel_rfl
theorem s1fa84_3 : FA Tryz.prog 84 3 3 := fun w b o => by kernel_rfl
theorem s1na22 (w : World) : (isAgg 22).run Tryz.prog w = .ok false w := by kernel_rfl
theorem s1callable104 : Callable Tryz.prog 104 := cb Tryz.func104 (by kernel_rfl)
theorem s1sz22 : (Tryz.prog.info? 22).map (·.size) = some 1 := by kernel_rfl
theorem s1fa84_4 : FA Tryz.prog 84 4 4 := fun w b o => by kernel_rfl
theorem s1na82 (w : World) : (isAgg 82).run Tryz.prog w = .ok false w := by kernel_rfl
theorem s1callable105 : Callable Tryz.prog 105 := cb Tryz.func105 (by kernel_rfl)
theorem s1sz82 : (Tryz.prog.info? 82).map (·.size) = some 1 := by kernel_rfl
theorem s1wd84 : Wide Tryz.prog 84 5 := wide_of (fun w => by kernel_rfl) (by kernel_rfl)
theorem s1sz84 : (Tryz.prog.info? 84).map (·.size) = some 5 := by kernel_rfl
theorem valueClone (B : Base) (H : List Res) (w : World) (v : Val) (p t z : Value) (h : ValAt B v p t z) (hv : Inv B H w) :
  Calls Tryz.prog 62 #[.agg #[vI v.kind, vS v.text, p, t, z]] w fun e w' => ∃ C p' t' z', B.Le C ∧ e = .returned (.agg #[vI v.kind, vS v.text, p', t', z']) ∧ ValAt C v p' t' z' ∧ Inv C H w' := by
 refine cW Tryz.func62 rfl Tryz.ntmps62 ?_;simp only [al];apply uN;intro _ _;refine sl_box (L := [vI v.kind, vS v.text, p, t, z]) tV (wn rfl) rfl rfl hv (fun w => by kernel_rfl) (fun b2 w3 hv => ?_);refine sl_alloc tV (wn rfl) rfl hv s1al84 (fun b4 w5 hv => ?_);apply uN;intro _ _;refine oF (.pointer (some ⟨b2, 2, none⟩)) rfl (s1fa84_2 _ _ _) ?_;refine oL _ rfl (run_load1 s1na81 (hv.load 1 2 rfl rfl)) ?_;refine xC s1callable103 rfl ((clonePairs _ _ _ p _ _ (h.p.more (Base.Le.refl _)) (pairCells_len _) (pairCells_one _) h.pm hv).mono ?_) rfl;rintro e w9 ⟨C7, q8, hC7, rfl, hq8, hv⟩;apply eR;refine oF (.pointer (some ⟨b2, 2, none⟩)) rfl (s1fa84_2 _ _ _) ?_;refine xV 1 q8 rfl hv s1sz81 hq8.cells hq8.one (fun w10 hv => ?_);simp only [zS, zO, sp] at hv;apply uN;intro _ _;refine oF (.pointer (some ⟨b2, 3, none⟩)) rfl (s1fa84_3 _ _ _) ?_;refine oL _ rfl (run_load1 s1na22 (hv.load 1 3 rfl rfl)) ?_;refine xC s1callable104 rfl ((cloneTexts _ _ _ t _ _ (h.t.more hC7) (textCells_len _) (textCells_one _) h.tm hv).mono ?_) rfl;rintro e w14 ⟨C12, q13, hC12, rfl, hq13, hv⟩;apply eR;refine oF (.pointer (some ⟨b2, 3, none⟩)) rfl (s1fa84_3 _ _ _) ?_;refine xV 1 q13 rfl hv s1sz22 hq13.cells hq13.one (fun w15 hv => ?_);simp only [zS, zO, sp] at hv;apply uN;intro _ _;refine oF (.pointer (some ⟨b2, 4, none⟩)) rfl (s1fa84_4 _ _ _) ?_;refine oL _ rfl (run_load1 s1na82 (hv.load 1 4 rfl rfl)) ?_;refine xC s1callable105 rfl ((cloneMems _ _ _ z _ _ (h.z.more (hC7.trans hC12)) (memCells_len _) (memCells_one _) h.zm hv).mono ?_) rfl;rintro e w19 ⟨C17, q18, hC17, rfl, hq18, hv⟩;apply eR;refine oF (.pointer (some ⟨b2, 4, none⟩)) rfl (s1fa84_4 _ _ _) ?_;refine xV 1 q18 rfl hv s1sz82 hq18.cells hq18.one (fun w20 hv => ?_);simp only [zS, zO, sp] at hv;apply uN;intro _ _;refine oL (.agg #[vI v.kind, vS v.text, q8, q13, q18]) rfl (lM 1 s1wd84 hv rfl rfl rfl rfl) ?_
 refine zX 0 rfl hv s1sz84 rfl (fun w22 hv => ?_) (by exact ⟨rfl, rfl, hq8.one, hq13.one, hq18.one, trivial⟩);apply uN;refine bC 0 s1wd84 hv rfl rfl rfl rfl (⟨_, q8, q13, q18, ((hC7.trans hC12).trans hC17), rfl, ⟨hq8.more (hC12.trans hC17), hq13.more hC17, hq18.more (Base.Le.refl _), h.pm, h.tm, h.zm, h.zf⟩, (hv.kp [] 0 2)⟩)
def aliveB (v : Ver) (clock : Int) : Bool := !v.gone && (decide (v.expire = 0) || decide (clock < v.expire))
theorem s2na3 (w : World) : (isAgg 3).run Tryz.prog w = .ok false w := by kernel_rfl
theorem s2fa91_1 : FA Tryz.prog 91 1 1 := fun w b o => by kernel_rfl
theorem s2na4 (w : World) : (isAgg 4).run Tryz.prog w = .ok false w := by kernel_rfl
theorem alive0 (B : Base) (H : List Res) (w : World) (v : Ver) (p t z : Value) (clock : Int) (hg : v.gone = true) (hv : Inv B H w) :
  Calls Tryz.prog 223 #[.agg #[vI v.stamp, .bool true, vI v.expire, vI v.val.kind, vS v.val.text, p, t, z], vI clock] w fun e w' => e = .returned (.bool (aliveB v clock)) ∧ Inv B H w' := by
 refine cW Tryz.func223 rfl Tryz.ntmps223 ?_;simp only [al];apply uN;intro _ _;refine sl_box (L := [vI v.stamp, .bool true, vI v.expire, vI v.val.kind, vS v.val.text, p, t, z]) tV (wn rfl) rfl rfl hv (fun w => by kernel_rfl) (fun b2 w3 hv => ?_);apply uN;intro _ _;refine oF (.pointer (some ⟨b2, 1, none⟩)) rfl (s2fa91_1 _ _ _) ?_;refine oL _ rfl (run_load1 s2na4 (hv.load 0 1 rfl rfl)) ?_;refine oG (.bool false) rfl (ex_not rfl rfl rfl) ?_;refine bR rfl rfl (⟨congrArg (fun b => Ending.returned (Value.bool b)) (show false = aliveB v clock from by simp [aliveB, *]), (hv.kp [] 0 1)⟩)
theorem s2fa91_2 : FA Tryz.prog 91 2 2 := fun w b o => by kernel_rfl
theorem alive1 (B : Base) (H : List Res) (w : World) (v : Ver) (p t z : Value) (clock : Int) (hg : v.gone = false) (hv : Inv B H w) :
  Calls Tryz.prog 223 #[.agg #[vI v.stamp, .bool false, vI v.expire, vI v.val.kind, vS v.val.text, p, t, z], vI clock] w fun e w' => e = .returned (.bool (aliveB v clock)) ∧ Inv B H w' := by
 refine cW Tryz.func223 rfl Tryz.ntmps223 ?_;simp only [al];apply uN;intro _ _;refine sl_box (L := [vI v.stamp, .bool false, vI v.expire, vI v.val.kind, vS v.val.text, p, t, z]) tV (wn rfl) rfl rfl hv (fun w => by kernel_rfl) (fun b2 w3 hv => ?_);apply uN;intro _ _;refine oF (.pointer (some ⟨b2, 1, none⟩)) rfl (s2fa91_1 _ _ _) ?_;refine oL _ rfl (run_load1 s2na4 (hv.load 0 1 rfl rfl)) ?_;refine oG (.bool true) rfl (ex_not rfl rfl rfl) ?_;refine oF (.pointer (some ⟨b2, 2, none⟩)) rfl (s2fa91_2 _ _ _) ?_;refine oL _ rfl (run_load1 s2na3 (hv.load 0 2 rfl rfl)) ?_;refine uB (fun hb5 => ?_) fun hb5 => ?_
 ·refine bR rfl rfl ?_;exact ⟨congrArg (fun b => Ending.returned (Value.bool b)) (show true = aliveB v clock from by simp [aliveB, *]), (hv.kp [] 0 1)⟩
 refine oF (.pointer (some ⟨b2, 2, none⟩)) rfl (s2fa91_2 _ _ _) ?_;refine oL _ rfl (run_load1 s2na3 (hv.load 0 2 rfl rfl)) ?_;refine uB (fun hb6 => ?_) fun hb6 => ?_
 ·refine bR rfl rfl ?_;exact ⟨congrArg (fun b => Ending.returned (Value.bool b)) (show true = aliveB v clock from by simp [aliveB, *]), (hv.kp [] 0 1)⟩
 refine bR rfl rfl ?_;exact ⟨congrArg (fun b => Ending.returned (Value.bool b)) (show false = aliveB v clock from by simp [aliveB, *]), (hv.kp [] 0 1)⟩
theorem chainAlive (B : Base) (H : List Res) (w : World) (v : Ver) (p t z : Value) (clock : Int) (hv : Inv B H w) : Calls Tryz.prog 223 #[.agg (verCells v p t z).toArray, vI clock] w fun e w' => e = .returned (.bool (aliveB v clock)) ∧ Inv B H w' := by
 cases hg : v.gone with
 | true => have := alive0 B H w v p t z clock hg hv; rw [← hg] at this; exact this
 | false => have := alive1 B H w v p t z clock hg hv; rw [← hg] at this; exact this
theorem s9es22 (w : World) : (sizeOf (Tryz.prog.elem 22)).run Tryz.prog w = .ok 1 w := by kernel_rfl
theorem s9na9 (w : World) : (isAgg 9).run Tryz.prog w = .ok false w := by kernel_rfl
theorem indexFuncText (B : Base) (H : List Res) (w : World) (f : FuncId) (cb : Array Value) (ad : Option Addr) (c : Nat) (l : List (List UInt8)) (pr : (List UInt8) → Bool) (hr : RdV B [] ad (textCells l)) (hm : l.length ≤ 1000000) (hcal : Callable Tryz.prog f) (hf : ∀ x ∈ l, ∀ w, Inv B H w → Calls Tryz.prog f (#[vS x] ++ cb) w fun e w' => e = .returned (.bool (pr x)) ∧ Inv B H w') (hv : Inv B H w) :
  Calls Tryz.prog 221 #[.slice ad l.length c, .func (.func f) #[] cb] w fun e w' => ∃ r : Int, e = .returned (vI r) ∧ (0 ≤ r ↔ l.any pr = true) ∧ Inv B H w' := by
 refine cW Tryz.func221 rfl Tryz.ntmps221 ?_;simp only [al];apply uN;intro _ _;apply uN;intro _ _ _ _;refine oG (vI (l.length : Int)) rfl (ex_len0 Tryz.underlying22 rfl rfl) ?_
 gi_loopw [8] (fun x8 wr => ∃ (i : Nat), x8 = vI i ∧ i ≤ l.length ∧ (∀ j x, j < i → l[j]? = some x → pr x = false) ∧ Inv B H wr) (fun x8 _ => l.length - (intOf x8).toNat)
 case atStart => exact ⟨0, rfl, Nat.zero_le _, fun j x h => by omega, hv⟩
 case round =>
  obtain ⟨i, rfl, hi, hno, hv⟩ := hrel;apply uN;intro _ _;refine uB (fun hb6 => ?_) fun hb6 => ?_
  ·intro _ _;apply uN;intro _ _ _ _;apply uN;intro _ _;obtain ⟨x, hx⟩ : ∃ x, l[i]? = some x := ⟨_, List.getElem?_eq_getElem (show i < l.length by omega)⟩;obtain ⟨bb, bo, had, hrdx⟩ := text_reads hr hx;subst had;apply uN;refine oG (.pointer (some ⟨bb, bo + i, none⟩)) rfl (ex_index rfl rfl rfl (run_idx1 (k := i) Tryz.underlying22 s9es22 (by omega))) ?_;refine oL _ rfl (run_load1 s9na9 (hrdx _ _ _ (Base.Le.refl _) no_res hv 0 _ rfl)) ?_;refine wpi_callV hcal tV wideC rfl (wn rfl) rfl rfl (args := #[vS x]) (by simp only [List.map_toArray, List.map_cons, List.map_nil]; rfl) ((hf x (List.mem_of_getElem? hx) _ hv).mono ?_);rintro e w11 ⟨rfl, hv⟩;apply eR;refine wpIn_cond_split (t := pr x) rfl (fun hc12 => ?_) (fun hc12 => ?_)
   ·apply uN;intro _ _;apply uN;refine bR rfl rfl (⟨_, rfl, ⟨fun _ => any_of hx (by simpa using hc12), fun _ => by omega⟩, hv⟩)
   apply uN;refine oG (vI ((i + 1 : Nat) : Int)) rfl (ex_add rfl rfl rfl (by rw [i64_in (by omega)]; omega)) ?_;refine then_normal ?_
   go_roundw
   case rel => exact ⟨i + 1, rfl, by omega, fun j x' hj hx' => (by
      rcases Nat.lt_or_ge j i with h | h
      ·exact hno j x' h hx'
      obtain rfl : j = i := by omega
      rw [hx] at hx'; cases hx'
      simpa using hc12), hv⟩
   case measure => show l.length - (((i + 1 : Nat) : Int)).toNat < l.length - ((i : Int)).toNat; omega
  intro _ _ _ _;apply uN;refine bR rfl rfl ?_;obtain rfl : i = l.length := by omega
  exact ⟨_, rfl, ⟨fun h => by omega, fun h => by rw [any_none (fun i x hx => hno i x (List.getElem?_eq_some_iff.1 hx).1 hx)] at h; cases h⟩, hv⟩
theorem s9callable221 : Callable Tryz.prog 221 := cb Tryz.func221 (by kernel_rfl)
theorem containsFuncText (B : Base) (H : List Res) (w : World) (f : FuncId) (cb : Array Value) (ad : Option Addr) (c : Nat) (l : List (List UInt8)) (pr : (List UInt8) → Bool) (hr : RdV B [] ad (textCells l)) (hm : l.length ≤ 1000000) (hcal : Callable Tryz.prog f) (hf : ∀ x ∈ l, ∀ w, Inv B H w → Calls Tryz.prog f (#[vS x] ++ cb) w fun e w' => e = .returned (.bool (pr x)) ∧ Inv B H w') (hv : Inv B H w) :
  Calls Tryz.prog 243 #[.slice ad l.length c, .func (.func f) #[] cb] w fun e w' => e = .returned (.bool (l.any pr)) ∧ Inv B H w' := by
 refine cW Tryz.func243 rfl Tryz.ntmps243 ?_;simp only [al];apply uN;intro _ _;apply uN;intro _ _;refine xC s9callable221 rfl ((indexFuncText B H _ f cb ad c l pr hr hm hcal hf hv).mono ?_) rfl;rintro e w3 ⟨r, rfl, hra, hv⟩;apply eR;refine oG (.bool (decide (r ≥ 0))) rfl (ex_geq rfl rfl rfl rfl) ?_;refine bR rfl rfl ?_;exact ⟨congrArg (fun b => Ending.returned (Value.bool b)) (by rw [Bool.eq_iff_iff, decide_eq_true_iff]; exact hra), hv⟩
theorem s9es82 (w : World) : (sizeOf (Tryz.prog.elem 82)).run Tryz.prog w = .ok 2 w := by kernel_rfl
theorem s9wd123 : Wide Tryz.prog 123 2 := wide_of (fun w => by kernel_rfl) (by kernel_rfl)
theorem indexFuncMem (B : Base) (H : List Res) (w : World) (f : FuncId) (cb : Array Value) (ad : Option Addr) (c : Nat) (l : List (Int × List UInt8)) (pr : (Int × List UInt8) → Bool) (hr : RdV B [] ad (memCells l)) (hm : l.length ≤ 1000000) (hcal : Callable Tryz.prog f) (hf : ∀ x ∈ l, ∀ w, Inv B H w → Calls Tryz.prog f (#[.agg #[vI x.1, vS x.2]] ++ cb) w fun e w' => e = .returned (.bool (pr x)) ∧ Inv B H w') (hv : Inv B H w) :
  Calls Tryz.prog 130 #[.slice ad l.length c, .func (.func f) #[] cb] w fun e w' => ∃ r : Int, e = .returned (vI r) ∧ (0 ≤ r ↔ l.any pr = true) ∧ Inv B H w' := by
 refine cW Tryz.func130 rfl Tryz.ntmps130 ?_;simp only [al];apply uN;intro _ _;apply uN;intro _ _ _ _;refine oG (vI (l.length : Int)) rfl (ex_len0 Tryz.underlying82 rfl rfl) ?_
 gi_loopw [8] (fun x8 wr => ∃ (i : Nat), x8 = vI i ∧ i ≤ l.length ∧ (∀ j x, j < i → l[j]? = some x → pr x = false) ∧ Inv B H wr) (fun x8 _ => l.length - (intOf x8).toNat)
 case atStart => exact ⟨0, rfl, Nat.zero_le _, fun j x h => by omega, hv⟩
 case round =>
  obtain ⟨i, rfl, hi, hno, hv⟩ := hrel;apply uN;intro _ _;refine uB (fun hb6 => ?_) fun hb6 => ?_
  ·intro _ _;apply uN;intro _ _ _ _;apply uN;intro _ _;obtain ⟨x, hx⟩ : ∃ x, l[i]? = some x := ⟨_, List.getElem?_eq_getElem (show i < l.length by omega)⟩;obtain ⟨bb, bo, had, hrdx⟩ := mem_reads hr hx;subst had;apply uN;refine oG (.pointer (some ⟨bb, bo + i * 2, none⟩)) rfl (ex_index rfl rfl rfl (run_idx (k := i) Tryz.underlying82 s9es82 (by omega))) ?_;refine oL (.agg #[vI x.1, vS x.2]) rfl (run_loadR (cs := [vI x.1, vS x.2]) s9wd123 (Reads.mid (pre := []) (mid := [vI x.1, vS x.2]) (post := []) hrdx _ _ _ (Base.Le.refl _) no_res hv)) ?_;refine wpi_callV hcal tV wideC rfl (wn rfl) rfl rfl (args := #[.agg #[vI x.1, vS x.2]]) (by simp only [List.map_toArray, List.map_cons, List.map_nil]; rfl) ((hf x (List.mem_of_getElem? hx) _ hv).mono ?_);rintro e w11 ⟨rfl, hv⟩;apply eR;refine wpIn_cond_split (t := pr x) rfl (fun hc12 => ?_) (fun hc12 => ?_)
   ·apply uN;intro _ _;apply uN;refine bR rfl rfl (⟨_, rfl, ⟨fun _ => any_of hx (by simpa using hc12), fun _ => by omega⟩, hv⟩)
   apply uN;refine oG (vI ((i + 1 : Nat) : Int)) rfl (ex_add rfl rfl rfl (by rw [i64_in (by omega)]; omega)) ?_;refine then_normal ?_
   go_roundw
   case rel => exact ⟨i + 1, rfl, by omega, fun j x' hj hx' => (by
      rcases Nat.lt_or_ge j i with h | h
      ·exact hno j x' h hx'
      obtain rfl : j = i := by omega
      rw [hx] at hx'; cases hx'
      simpa using hc12), hv⟩
   case measure => show l.length - (((i + 1 : Nat) : Int)).toNat < l.length - ((i : Int)).toNat; omega
  intro _ _ _ _;apply uN;refine bR rfl rfl ?_;obtain rfl : i = l.length := by omega
  exact ⟨_, rfl, ⟨fun h => by omega, fun h => by rw [any_none (fun i x hx => hno i x (List.getElem?_eq_some_iff.1 hx).1 hx)] at h; cases h⟩, hv⟩
theorem s9callable130 : Callable Tryz.prog 130 := cb Tryz.func130 (by kernel_rfl)
theorem containsFuncMem (B : Base) (H : List Res) (w : World) (f : FuncId) (cb : Array Value) (ad : Option Addr) (c : Nat) (l : List (Int × List UInt8)) (pr : (Int × List UInt8) → Bool) (hr : RdV B [] ad (memCells l)) (hm : l.length ≤ 1000000) (hcal : Callable Tryz.prog f) (hf : ∀ x ∈ l, ∀ w, Inv B H w → Calls Tryz.prog f (#[.agg #[vI x.1, vS x.2]] ++ cb) w fun e w' => e = .returned (.bool (pr x)) ∧ Inv B H w') (hv : Inv B H w) :
  Calls Tryz.prog 108 #[.slice ad l.length c, .func (.func f) #[] cb] w fun e w' => e = .returned (.bool (l.any pr)) ∧ Inv B H w' := by
 refine cW Tryz.func108 rfl Tryz.ntmps108 ?_;simp only [al];apply uN;intro _ _;apply uN;intro _ _;refine xC s9callable130 rfl ((indexFuncMem B H _ f cb ad c l pr hr hm hcal hf hv).mono ?_) rfl;rintro e w3 ⟨r, rfl, hra, hv⟩;apply eR;refine oG (.bool (decide (r ≥ 0))) rfl (ex_geq rfl rfl rfl rfl) ?_;refine bR rfl rfl ?_;exact ⟨congrArg (fun b => Ending.returned (Value.bool b)) (by rw [Bool.eq_iff_iff, decide_eq_true_iff]; exact hra), hv⟩
theorem listLong (B : Base) (H : List Res) (w : World) (s : List UInt8) (hv : Inv B H w) :
  Calls Tryz.prog 261 #[vS s] w fun e w' => e = .returned (.bool (decide (s.length > 4096))) ∧ Inv B H w' := by
 refine cW Tryz.func261 rfl Tryz.ntmps261 ?_;simp only [al];apply uN;intro _ _;apply uN;intro _ _;refine oG (vI (s.length : Int)) rfl (ex_lenStr Tryz.underlying9 rfl rfl) ?_;refine oG (.bool (decide ((s.length : Int) > 4096))) rfl (ex_gtr rfl rfl rfl rfl) ?_;refine bR rfl rfl (⟨congrArg (fun b => Ending.returned (Value.bool b)) (decide_eq_decide.2 (by omega)), hv⟩)
theorem setLong (B : Base) (H : List Res) (w : World) (s : List UInt8) (hv : Inv B H w) :
  Calls Tryz.prog 262 #[vS s] w fun e w' => e = .returned (.bool (decide (s.length > 4096))) ∧ Inv B H w' := by
 refine cW Tryz.func262 rfl Tryz.ntmps262 ?_;simp only [al];apply uN;intro _ _;apply uN;intro _ _;refine oG (vI (s.length : Int)) rfl (ex_lenStr Tryz.underlying9 rfl rfl) ?_;refine oG (.bool (decide ((s.length : Int) > 4096))) rfl (ex_gtr rfl rfl rfl rfl) ?_;refine bR rfl rfl (⟨congrArg (fun b => Ending.returned (Value.bool b)) (decide_eq_decide.2 (by omega)), hv⟩)
theorem s9fa123_1 : FA Tryz.prog 123 1 1 := fun w b o => by kernel_rfl
theorem zsetLong (B : Base) (H : List Res) (w : World) (n : Int) (s : List UInt8) (hv : Inv B H w) :
  Calls Tryz.prog 109 #[.agg #[vI n, vS s]] w fun e w' => e = .returned (.bool (decide (s.length > 4096))) ∧ Inv B H w' := by
 refine cW Tryz.func109 rfl Tryz.ntmps109 ?_;simp only [al];apply uN;intro _ _;refine sl_box (L := [vI n, vS s]) tV (wn rfl) rfl rfl hv (fun w => by kernel_rfl) (fun b2 w3 hv => ?_);apply uN;intro _ _;refine oF (.pointer (some ⟨b2, 1, none⟩)) rfl (s9fa123_1 _ _ _) ?_;refine oL _ rfl (run_load1 s9na9 (hv.load 0 1 rfl rfl)) ?_;refine oG (vI (s.length : Int)) rfl (ex_lenStr Tryz.underlying9 rfl rfl) ?_;refine oG (.bool (decide ((s.length : Int) > 4096))) rfl (ex_gtr rfl rfl rfl rfl) ?_;refine bR rfl rfl (⟨congrArg (fun b => Ending.returned (Value.bool b)) (decide_eq_decide.2 (by omega)), (hv.kp [] 0 1)⟩)
def listRight (l : List (List UInt8)) : Bool := decide (l.length ≤ 512) && !l.any (fun s : List UInt8 => decide (s.length > 4096))
theorem s9callable261 : Callable Tryz.prog 261 := cb Tryz.func261 (by kernel_rfl)
theorem s9callable243 : Callable Tryz.prog 243 := cb Tryz.func243 (by kernel_rfl)
theorem listRightC (B : Base) (H : List Res) (w : World) (ad : Option Addr) (c : Nat) (l : List (List UInt8)) (hr : RdV B [] ad (textCells l)) (hm : l.length ≤ 1000000) (hv : Inv B H w) :
  Calls Tryz.prog 247 #[.slice ad l.length c] w fun e w' => e = .returned (.bool (listRight l)) ∧ Inv B H w' := by
 refine cW Tryz.func247 rfl Tryz.ntmps247 ?_;simp only [al];apply uN;intro _ _;apply uN;intro _ _;refine oG (vI (l.length : Int)) rfl (ex_len0 Tryz.underlying22 rfl rfl) ?_;refine uB (fun hb3 => ?_) fun hb3 => ?_
 ·refine xC s9callable243 rfl ((containsFuncText B _ _ 261 #[] ad c l (fun s : List UInt8 => decide (s.length > 4096)) hr hm s9callable261 (fun x _ w hv => listLong B _ w x hv) hv).mono ?_) rfl;rintro e w4 ⟨rfl, hv⟩;apply eR;refine oG (.bool (!(l.any (fun s : List UInt8 => decide (s.length > 4096))))) rfl (ex_not rfl rfl rfl) ?_;refine bR rfl rfl (⟨congrArg (fun b => Ending.returned (Value.bool b)) (by unfold listRight; first | rw [qT (by omega : l.length ≤ 512)]; rfl | (rw [qF (by omega : ¬ l.length ≤ 512)]; rfl)), hv⟩)
 refine bR rfl rfl (⟨congrArg (fun b => Ending.returned (Value.bool b)) (by unfold listRight; first | rw [qT (by omega : l.length ≤ 512)]; rfl | (rw [qF (by omega : ¬ l.length ≤ 512)]; rfl)), hv⟩)
theorem calls_bool {P : Program} {f : FuncId} {args : Array Value} {w : World} {R : World → Prop} {b b' : Bool} (h : Calls P f args w fun e w' => e = .returned (.bool b) ∧ R w') (hb : b = b') : Calls P f args w fun e w' => e = .returned (.bool b') ∧ R w' := hb ▸ h
def SetAt (l : List (List UInt8)) (i : Nat) : Prop := ∀ x, l[i]? = some x → x.length ≤ 4096 ∧ ∀ (j : Nat) y, i = j + 1 → l[j]? = some y → Op.bytesLess y x = true
def SetOk (l : List (List UInt8)) : Prop := l.length ≤ 512 ∧ ∀ i, SetAt l i
def HashAt (l : List (List UInt8 × List UInt8)) (i : Nat) : Prop := ∀ x, l[i]? = some x → (x.1.length ≤ 4096 ∧ x.2.length ≤ 4096) ∧ ∀ (j : Nat) y, i = j + 1 → l[j]? = some y → Op.bytesLess y.1 x.1 = true
def HashOk (l : List (List UInt8 × List UInt8)) : Prop := l.length ≤ 512 ∧ ∀ i, HashAt l i
theorem s10callable262 : Callable Tryz.prog 262 := cb Tryz.func262 (by kernel_rfl)
theorem setRightC (B : Base) (H : List Res) (w : World) (ad : Option Addr) (c : Nat) (l : List (List UInt8)) (hr : RdV B [] ad (textCells l)) (hm : l.length ≤ 1000000) (hv : Inv B H w) :
  Calls Tryz.prog 248 #[.slice ad l.length c] w fun e w' => ∃ b, e = .returned (.bool b) ∧ (b = true ↔ SetOk l) ∧ Inv B H w' := by
 refine cW Tryz.func248 rfl Tryz.ntmps248 ?_;simp only [al];apply uN;intro _ _;apply uN;intro _ _ _ _;refine oG (vI (l.length : Int)) rfl (ex_len0 Tryz.underlying22 rfl rfl) ?_;refine uB (fun hb4 => ?_) fun hb4 => ?_
 ·intro _ _;apply uN;refine bR rfl rfl ?_;exact ⟨false, rfl, ⟨fun h => (by cases h), fun h => by have := h.1; omega⟩, hv⟩
 intro _ _ _ _;refine oG (vI (l.length : Int)) rfl (ex_len0 Tryz.underlying22 rfl rfl) ?_
 gi_loopw [10] (fun x10 wr => ∃ (i : Nat), x10 = vI i ∧ i ≤ l.length ∧ (∀ k, k < i → SetAt l k) ∧ Inv B H wr) (fun x10 _ => l.length - (intOf x10).toNat)
 case atStart => exact ⟨0, rfl, Nat.zero_le _, fun k h => by omega, hv⟩
 case round =>
  obtain ⟨i, rfl, hi, hall, hv⟩ := hrel;apply uN;intro _ _;refine uB (fun hb10 => ?_) fun hb10 => ?_
  ·intro _ _;apply uN;intro _ _ _ _;obtain ⟨x, hx⟩ : ∃ x, l[i]? = some x := ⟨_, List.getElem?_eq_getElem (show i < l.length by omega)⟩;obtain ⟨bb, bo, had, hrdx⟩ := text_reads hr hx;subst had;apply uN;refine oG (.pointer (some ⟨bb, bo + i, none⟩)) rfl (ex_index rfl rfl rfl (run_idx1 (k := i) Tryz.underlying22 s9es22 (by omega))) ?_;refine oL _ rfl (run_load1 s9na9 (hrdx _ _ _ (Base.Le.refl _) no_res hv 0 _ rfl)) ?_;intro _ _;by_cases hq15 : x.length > 4096
   ·refine xC s10callable262 rfl ((calls_bool (setLong B _ _ x hv) (qT hq15)).mono ?_) rfl;rintro e w16 ⟨rfl, hv⟩;apply eR;intro _ _;apply uN;refine bR rfl rfl ?_;exact ⟨false, rfl, ⟨fun h => (by cases h), fun h => by have := (h.2 i x hx).1; first | omega | exact absurd this hq15⟩, hv⟩
   refine xC s10callable262 rfl ((calls_bool (setLong B _ _ x hv) (qF hq15)).mono ?_) rfl;rintro e w18 ⟨rfl, hv⟩;apply eR;refine uB (fun hb19 => ?_) fun hb19 => ?_
   ·obtain ⟨j, hj⟩ : ∃ j : Nat, i = j + 1 := ⟨i - 1, by omega⟩;obtain ⟨y, hy⟩ : ∃ x, l[j]? = some x := ⟨_, List.getElem?_eq_getElem (show j < l.length by omega)⟩;obtain ⟨b9, o9, had9, hrdy⟩ := text_reads hr hy;cases had9;apply uN;refine oG (vI j) rfl (ex_sub rfl rfl rfl (by rw [i64_in (by omega)]; omega)) ?_;refine oG (.pointer (some ⟨bb, bo + j, none⟩)) rfl (ex_index rfl rfl rfl (run_idx1 (k := j) Tryz.underlying22 s9es22 (by omega))) ?_;refine oL _ rfl (run_load1 s9na9 (hrdy _ _ _ (Base.Le.refl _) no_res hv 0 _ rfl)) ?_;refine oG (.bool (!Op.bytesLess y x)) rfl (ex_sgeq rfl rfl rfl rfl) ?_;refine wpIn_cond_split (t := !Op.bytesLess y x) rfl (fun hc20 => ?_) (fun hc20 => ?_)
    ·apply uN;intro _ _;apply uN;refine bR rfl rfl ?_;exact ⟨false, rfl, ⟨fun h => (by cases h), fun h => by have := (h.2 i x hx).2 j y (by omega) hy; rw [this] at hc20; simp at hc20⟩, hv⟩
    apply uN;refine oG (vI ((i + 1 : Nat) : Int)) rfl (ex_add rfl rfl rfl (by rw [i64_in (by omega)]; omega)) ?_;refine then_normal ?_
    go_roundw
    case rel => exact ⟨i + 1, rfl, by omega, fun k hk => (by
       rcases Nat.lt_or_ge k i with h | h
       ·exact hall k h
       obtain rfl : k = i := by omega
       intro x' hx';rw [hx] at hx'; cases hx';refine ⟨by omega, fun j' y' hj' hy' => ?_⟩;obtain rfl : j' = j := by omega
       rw [hy] at hy'; cases hy'; simpa using hc20), hv⟩
    case measure => show l.length - (((i + 1 : Nat) : Int)).toNat < l.length - ((i : Int)).toNat; omega
   refine oG (vI ((i + 1 : Nat) : Int)) rfl (ex_add rfl rfl rfl (by rw [i64_in (by omega)]; omega)) ?_;refine then_normal ?_
   go_roundw
   case rel => exact ⟨i + 1, rfl, by omega, fun k hk => (by
      rcases Nat.lt_or_ge k i with h | h
      ·exact hall k h
      obtain rfl : k = i := by omega
      intro x' hx';rw [hx] at hx'; cases hx';refine ⟨by omega, fun j' y' hj' hy' => ?_⟩;omega), hv⟩
   case measure => show l.length - (((i + 1 : Nat) : Int)).toNat < l.length - ((i : Int)).toNat; omega
  intro _ _ _ _;apply uN;refine bR rfl rfl ?_;obtain rfl : i = l.length := by omega
  exact ⟨true, rfl, ⟨fun _ => ⟨by omega, fun k x hx => hall k (List.getElem?_eq_some_iff.1 hx).1 x hx⟩, fun _ => rfl⟩, hv⟩
theorem s10fa121_0 : FA Tryz.prog 121 0 0 := fun w b o => by kernel_rfl
theorem s10fa121_1 : FA Tryz.prog 121 1 1 := fun w b o => by kernel_rfl
theorem hashFits (B : Base) (H : List Res) (w : World) (x : List UInt8 × List UInt8) (hv : Inv B H w) :
  Calls Tryz.prog 260 #[.agg #[vS x.1, vS x.2]] w fun e w' => e = .returned (.bool (decide (x.1.length ≤ 4096 ∧ x.2.length ≤ 4096))) ∧ Inv B H w' := by
 refine cW Tryz.func260 rfl Tryz.ntmps260 ?_;simp only [al];apply uN;intro _ _;refine sl_box (L := [vS x.1, vS x.2]) tV (wn rfl) rfl rfl hv (fun w => by kernel_rfl) (fun b2 w3 hv => ?_);apply uN;intro _ _;refine oF (vP b2) rfl (s10fa121_0 _ _ _) ?_;refine oL _ rfl (run_load1 s9na9 (hv.load 0 0 rfl rfl)) ?_;refine oG (vI (x.1.length : Int)) rfl (ex_lenStr Tryz.underlying9 rfl rfl) ?_;refine uB (fun hb5 => ?_) fun hb5 => ?_
 ·refine oF (.pointer (some ⟨b2, 1, none⟩)) rfl (s10fa121_1 _ _ _) ?_;refine oL _ rfl (run_load1 s9na9 (hv.load 0 1 rfl rfl)) ?_;refine oG (vI (x.2.length : Int)) rfl (ex_lenStr Tryz.underlying9 rfl rfl) ?_;refine uB (fun hb6 => ?_) fun hb6 => ?_
  ·refine bR rfl rfl ?_;exact ⟨congrArg (fun b => Ending.returned (Value.bool b)) (by symm; first | exact qT (by constructor <;> omega) | exact qF (by omega)), (hv.kp [] 0 1)⟩
  refine bR rfl rfl ?_;exact ⟨congrArg (fun b => Ending.returned (Value.bool b)) (by symm; first | exact qT (by constructor <;> omega) | exact qF (by omega)), (hv.kp [] 0 1)⟩
 refine bR rfl rfl (⟨congrArg (fun b => Ending.returned (Value.bool b)) (by symm; first | exact qT (by constructor <;> omega) | exact qF (by omega)), (hv.kp [] 0 1)⟩)
theorem s10es81 (w : World) : (sizeOf (Tryz.prog.elem 81)).run Tryz.prog w = .ok 2 w := by kernel_rfl
theorem s10wd121 : Wide Tryz.prog 121 2 := wide_of (fun w => by kernel_rfl) (by kernel_rfl)
theorem s10al121 : AL Tryz.prog 121 [vS [], vS []] := fun w => by kernel_rfl
theorem s10sz121 : (Tryz.prog.info? 121).map (·.size) = some 2 := by kernel_rfl
theorem s10callable260 : Callable Tryz.prog 260 := cb Tryz.func260 (by kernel_rfl)
theorem hashRightC (B : Base) (H : List Res) (w : World) (ad : Option Addr) (c : Nat) (l : List (List UInt8 × List UInt8)) (hr : RdV B [] ad (pairCells l)) (hm : l.length ≤ 1000000) (hv : Inv B H w) :
  Calls Tryz.prog 246 #[.slice ad l.length c] w fun e w' => ∃ b, e = .returned (.bool b) ∧ (b = true ↔ HashOk l) ∧ Inv B H w' := by
 refine cW Tryz.func246 rfl Tryz.ntmps246 ?_;simp only [al];apply uN;intro _ _;apply uN;intro _ _ _ _;refine oG (vI (l.length : Int)) rfl (ex_len0 Tryz.underlying81 rfl rfl) ?_;refine uB (fun hb4 => ?_) fun hb4 => ?_
 ·intro _ _;apply uN;refine bR rfl rfl ?_;exact ⟨false, rfl, ⟨fun h => (by cases h), fun h => by have := h.1; omega⟩, hv⟩
 intro _ _ _ _;refine oG (vI (l.length : Int)) rfl (ex_len0 Tryz.underlying81 rfl rfl) ?_
 gi_loopw [10] (fun x10 wr => ∃ (i : Nat), x10 = vI i ∧ i ≤ l.length ∧ (∀ k, k < i → HashAt l k) ∧ Inv B H wr) (fun x10 _ => l.length - (intOf x10).toNat)
 case atStart => exact ⟨0, rfl, Nat.zero_le _, fun k h => by omega, hv⟩
 case round =>
  obtain ⟨i, rfl, hi, hall, hv⟩ := hrel;apply uN;intro _ _;refine uB (fun hb10 => ?_) fun hb10 => ?_
  ·intro _ _;apply uN;intro _ _ _ _;obtain ⟨x, hx⟩ : ∃ x, l[i]? = some x := ⟨_, List.getElem?_eq_getElem (show i < l.length by omega)⟩;obtain ⟨bb, bo, had, hrdx⟩ := pair_reads hr hx;subst had;apply uN;refine oG (.pointer (some ⟨bb, bo + i * 2, none⟩)) rfl (ex_index rfl rfl rfl (run_idx (k := i) Tryz.underlying81 s10es81 (by omega))) ?_;refine oL (.agg #[vS x.1, vS x.2]) rfl (run_loadR (cs := [vS x.1, vS x.2]) s10wd121 (Reads.mid (pre := []) (mid := [vS x.1, vS x.2]) (post := []) hrdx _ _ _ (Base.Le.refl _) no_res hv)) ?_;refine sl_alloc tV (wn rfl) rfl hv s10al121 (fun b14 w15 hv => ?_);apply uN;refine zX 0 rfl hv s10sz121 rfl (fun w16 hv => ?_) (by exact ⟨rfl, rfl, trivial⟩);apply uN;intro _ _;refine rW mixed [1] [0,1,2,3,4,5,6,7,8,9,10,11,12,13,14,15,16,17] 34 rfl (by kernel_rfl) hv ?_;simp only [qm, opAt];refine dL (.agg #[vS x.1, vS x.2]) rfl (fun hv => ex_load rfl rfl (lM 0 s10wd121 hv rfl rfl rfl rfl)) (dS rfl fun w18 hv => ?_);by_cases hq19 : x.1.length ≤ 4096 ∧ x.2.length ≤ 4096
   ·refine mC s10callable260 rfl ((calls_bool (hashFits B _ _ x hv) (qT hq19)).mono ?_) rfl;rintro e w20 ⟨rfl, hv⟩;refine ⟨_, rfl, dW hv ?_⟩;refine dG (.bool false) rfl (ex_not rfl rfl rfl) ?_;apply uN;by_cases hb21 : (i : Int) > 0
    ·obtain ⟨j, hj⟩ : ∃ j : Nat, i = j + 1 := ⟨i - 1, by omega⟩;obtain ⟨y, hy⟩ : ∃ x, l[j]? = some x := ⟨_, List.getElem?_eq_getElem (show j < l.length by omega)⟩;obtain ⟨b9, o9, had9, hrdy⟩ := pair_reads hr hy;cases had9
     skip
     refine dG (.bool true) rfl (ex_gtr rfl rfl rfl (qT hb21)) ?_;apply uN;refine dG (vI j) rfl (ex_sub rfl rfl rfl (by rw [i64_in (by omega)]; omega)) ?_;refine dG (.pointer (some ⟨bb, bo + j * 2, none⟩)) rfl (ex_index rfl rfl rfl (run_idx (k := j) Tryz.underlying81 s10es81 (by omega))) ?_;refine dG (.pointer (some ⟨bb, bo + j * 2, none⟩)) rfl (ex_field rfl rfl (s10fa121_0 _ _ _)) ?_;simp only [zP, po];refine dL _ rfl (fun hv => ex_load rfl rfl (run_load1 s9na9 (hrdy _ _ _ (Base.Le.refl _) no_res hv 0 _ rfl))) ?_;refine dG (vP b14) rfl (ex_field rfl rfl (s10fa121_0 _ _ _)) ?_;refine dL _ rfl (fun hv => ex_load rfl rfl (run_load1 s9na9 (hv.load 0 0 rfl rfl))) ?_;simp only [zP, po];refine dG (.bool (!Op.bytesLess y.1 x.1)) rfl (ex_sgeq rfl rfl rfl rfl) ?_;apply uN;refine dE fun w22 hv => ?_
     apply uN;refine wpIn_cond_split (t := !Op.bytesLess y.1 x.1) rfl (fun hc23 => ?_) (fun hc23 => ?_)
     ·apply uN;intro _ _;apply uN;refine bR rfl rfl ?_;exact ⟨false, rfl, ⟨fun h => (by cases h), fun h => by have := (h.2 i x hx).2 j y (by omega) hy; rw [this] at hc23; simp at hc23⟩, (hv.kp [] 0 1)⟩
     apply uN;refine oG (vI ((i + 1 : Nat) : Int)) rfl (ex_add rfl rfl rfl (by rw [i64_in (by omega)]; omega)) ?_;refine then_normal ?_
     go_roundw
     case rel => exact ⟨i + 1, rfl, by omega, fun k hk => (by
        rcases Nat.lt_or_ge k i with h | h
        ·exact hall k h
        obtain rfl : k = i := by omega
        intro x' hx';rw [hx] at hx'; cases hx';refine ⟨by exact hq19, fun j' y' hj' hy' => ?_⟩;obtain rfl : j' = j := by omega
        rw [hy] at hy'; cases hy'; simpa using hc23), (hv.kp [] 0 1)⟩
     case measure => show l.length - (((i + 1 : Nat) : Int)).toNat < l.length - ((i : Int)).toNat; omega
    refine dG (.bool false) rfl (ex_gtr rfl rfl rfl (qF hb21)) ?_;apply uN;refine dE fun w25 hv => ?_
    apply uN;refine oG (vI ((i + 1 : Nat) : Int)) rfl (ex_add rfl rfl rfl (by rw [i64_in (by omega)]; omega)) ?_;refine then_normal ?_
    go_roundw
    case rel => exact ⟨i + 1, rfl, by omega, fun k hk => (by
       rcases Nat.lt_or_ge k i with h | h
       ·exact hall k h
       obtain rfl : k = i := by omega
       intro x' hx';rw [hx] at hx'; cases hx';refine ⟨by exact hq19, fun j' y' hj' hy' => ?_⟩;omega), (hv.kp [] 0 1)⟩
    case measure => show l.length - (((i + 1 : Nat) : Int)).toNat < l.length - ((i : Int)).toNat; omega
   refine mC s10callable260 rfl ((calls_bool (hashFits B _ _ x hv) (qF hq19)).mono ?_) rfl;rintro e w26 ⟨rfl, hv⟩;refine ⟨_, rfl, dW hv ?_⟩;refine dG (.bool true) rfl (ex_not rfl rfl rfl) ?_;apply uN;refine dE fun w27 hv => ?_
   apply uN;intro _ _;apply uN;refine bR rfl rfl ?_;exact ⟨false, rfl, ⟨fun h => (by cases h), fun h => by have := (h.2 i x hx).1; first | omega | exact absurd this hq19⟩, (hv.kp [] 0 1)⟩
  intro _ _ _ _;apply uN;refine bR rfl rfl ?_;obtain rfl : i = l.length := by omega
  exact ⟨true, rfl, ⟨fun _ => ⟨by omega, fun k x hx => hall k (List.getElem?_eq_some_iff.1 hx).1 x hx⟩, fun _ => rfl⟩, hv⟩
end Go.Proofs.YtgbhdfpobgefgaaGreatDoor
