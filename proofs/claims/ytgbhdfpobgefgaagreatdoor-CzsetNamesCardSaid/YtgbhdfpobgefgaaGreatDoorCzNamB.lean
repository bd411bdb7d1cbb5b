/- A region that draws its order, walked in one order: what each operation yields serves every order. -/
import Derived.Test.YtgbhdfpobgefgaaGreatDoorCzNamA
import Derived.Lib.LazyBuf
import Derived.Lib.AppendZerosOnto
import Derived.Lib.Overlaps
import Derived.Laws.Externs
import Derived.MapKept
import Derived.LaidEqlPtr
import Derived.Maps.Range
set_option maxRecDepth 100000
set_option maxHeartbeats 16000000
set_option synthInstance.maxSize 65536
set_option synthInstance.maxHeartbeats 4000000
namespace Go.Pm
open Go.RowKit
def QF : Exit → Act → World → Prop := fun _ _ _ => False
class EOk (E : World → World → Prop) : Prop where
 rf : ∀ w, E w w
 dr : ∀ w : World, E w { w with drawn := w.drawn + 1 }
instance : EOk Ext := ⟨fun w => Ext.rfl' w, fun w => Ext.drew' w⟩
def AddsE (E : World → World → Prop) (P : Program) (o : Oper) (a : Act) (w : World) (v : Value) : Prop := o.wp P a w (fun b w' => ∃ v', b = a.put o.dst v' ∧ v' = v ∧ E w w') QF
def FlOk (ops : Array Oper) (m : Nat) (J : World → Prop) : List (Nat × (World → Prop)) → Prop
 | [] => True
 | f :: l => (cond (ahead ops f.1 m) True (∀ w, J w → f.2 w)) ∧ FlOk ops m J l
def tied (ops : Array Oper) (mem : List Nat) (i : Nat) : List (Nat × Oper) → Bool
 | [] => true
 | x :: l => cond (mem.contains x.1) (ahead ops i x.1) (tied ops mem i l)
def DWE (E : World → World → Prop) (P : Program) (ops : Array Oper) (mem : List Nat) (R : Act → World → Prop) : List (Nat × Oper) → List (Nat × (World → Prop)) → (World → Prop) → Act → Prop
 | [], _, J, a => ∀ w, J w → R a w
 | x :: is, Fl, J, a =>
  (Region.wanted x.2 (yielded ops a.tmps) = false ∧ DWE E P ops mem R is Fl J (a.put x.2.dst undef)) ∨ (Region.wanted x.2 (yielded ops a.tmps) = true ∧
  if mem.contains x.1 = true then ∀ w, J w → x.2.wp P a w (fun b w' => ∃ v, b = a.put x.2.dst v ∧ ∃ J' : World → Prop, (∀ w w', J' w → E w w' → J' w') ∧ J' w' ∧ FlOk ops x.1 J' Fl ∧ DWE E P ops mem R is Fl J' (a.put x.2.dst v)) QF
  else ∃ v, ((∀ w, AddsE E P x.2 a w v) ∧ DWE E P ops mem R is Fl J (a.put x.2.dst v)) ∨ ((∀ w, J w → AddsE E P x.2 a w v) ∧ tied ops mem x.1 is = true ∧ DWE E P ops mem R is Fl J (a.put x.2.dst v)) ∨
   ∃ f : World → Prop, (∀ w, f w → AddsE E P x.2 a w v) ∧ (∀ w, J w → f w) ∧ DWE E P ops mem R is ((x.1, f) :: Fl) J (a.put x.2.dst v))
@[reducible] def Adds (P : Program) (o : Oper) (a : Act) (w : World) (v : Value) : Prop := AddsE Ext P o a w v
@[reducible] def DW (P : Program) (ops : Array Oper) (mem : List Nat) (R : Act → World → Prop) (is : List (Nat × Oper)) (Fl : List (Nat × (World → Prop))) (J : World → Prop) (a : Act) : Prop := DWE Ext P ops mem R is Fl J a
def pm (ops : Array Oper) (l : List Nat) : List (Nat × Oper) := l.map fun i => (i, ops.getD i default)
def notSel (o : Oper) : Bool := match o.op with | .select _ _ => false | _ => true
def pwOk (ops : Array Oper) (mem : List Nat) : List Nat → Bool
 | [] => true
 | x :: l => l.all (fun y => !ahead ops y x && (!mem.contains x || ahead ops x y)) && pwOk ops mem l
def lookOk (ops : Array Oper) : Bool := ops.toList.zipIdx.all fun x => (x.1.looksAt ops).all fun t => ops.toList.zipIdx.all fun y => y.1.dst != some t || (y.2 == x.2 || (ahead ops y.2 x.2 || ahead ops x.2 y.2))
def okDW (ops : Array Oper) (mem perm : List Nat) (k : Nat) : Bool :=
 backward ops && (onceDst ops && (fitsDst ops k && (ops.all notSel && (decide perm.Nodup && (decide (perm.length = ops.size) && (perm.all (· < ops.size) && (pwOk ops mem perm && lookOk ops)))))))
structure Tk (ops : Array Oper) (L : Nat → Prop) (val : Nat → Value) (a0 a : Act) : Prop where
 defers : a.defers = a0.defers
 size : a.tmps.size = a0.tmps.size
 val : ∀ (q : Nat) (o : Oper) (d : Tmp), L q → ops[q]? = some o → o.dst = some d → a.tmps.getD d undef = val q
 keep : ∀ t, (∀ (q : Nat) (o : Oper), ops[q]? = some o → o.dst = some t → ¬ L q) → a.tmps.getD t undef = a0.tmps.getD t undef
section
variable {P : Program} {ops : Array Oper} {a0 a a' : Act} {L L' : Nat → Prop} {val val' : Nat → Value} {w w' : World} {o : Oper}
theorem Tk.start : Tk ops (fun _ => False) val a0 a0 := ⟨rfl, rfl, fun _ _ _ h => h.elim, fun _ _ => rfl⟩
theorem Tk.iff (T : Tk ops L val a0 a) (h : ∀ q, L q ↔ L' q) (hv : ∀ q, L q → val q = val' q) : Tk ops L' val' a0 a :=
 ⟨T.defers, T.size, fun q o d hl ho hd => (T.val q o d ((h q).2 hl) ho hd).trans (hv q ((h q).2 hl)), fun t ht => T.keep t fun q o ho hd hl => ht q o ho hd ((h q).1 hl)⟩
theorem Tk.put (hnd : onceDst ops = true) (hfit : ∀ (j : Nat) (o : Oper) (d : Tmp), ops[j]? = some o → o.dst = some d → d < a0.tmps.size) (T : Tk ops L val a0 a) {i : Nat} (hi : ops[i]? = some o) (hl : ¬ L i) {v : Value} (hv : val i = v) :
  Tk ops (fun q => q = i ∨ L q) val a0 (a.put o.dst v) := by
 refine ⟨by rw [put_defers]; exact T.defers, by rw [put_size]; exact T.size, fun q oq d hq ho hd => ?_, fun t ht => ?_⟩
 ·rcases hq with rfl | hq
  ·rw [hi] at ho; cases ho;rw [hd, put_getD_same _ _ _ (by rw [T.size]; exact hfit _ _ _ hi hd), hv]
  rw [put_getD _ _ _ _ (fun e => ?_)]
  ·exact T.val q oq d hq ho hd
  have := nodup_dst (of_decide_eq_true hnd) i q o oq d (by simpa using hi) (by simpa using ho) e hd;subst this; exact hl hq
 rw [put_getD _ _ _ _ (fun e => ht i o hi e (.inl rfl))];exact T.keep t fun q oq ho hd hq => ht q oq ho hd (.inr hq)
theorem Tk.agree (T : Tk ops L val a0 a) (T' : Tk ops L' val a0 a') (t : Tmp) (h : ∀ (q : Nat) (o : Oper), ops[q]? = some o → o.dst = some t → (L q ↔ L' q)) : a.tmps.getD t undef = a'.tmps.getD t undef := by
 by_cases hq : ∃ q, ∃ o : Oper, ops[q]? = some o ∧ o.dst = some t ∧ L q
 ·obtain ⟨q, o, h1, h2, h3⟩ := hq;rw [T.val q o t h3 h1 h2, T'.val q o t ((h q o h1 h2).1 h3) h1 h2]
 rw [T.keep t (fun q o h1 h2 h3 => hq ⟨q, o, h1, h2, h3⟩), T'.keep t (fun q o h1 h2 h3 => hq ⟨q, o, h1, h2, (h q o h1 h2).2 h3⟩)]
theorem getq {x y : Array Value} (hs : x.size = y.size) {t : Nat} (h : x.getD t undef = y.getD t undef) : x[t]? = y[t]? := by
 simp only [Array.getD_eq_getD_getElem?] at h;by_cases ht : t < x.size
 ·rw [Array.getElem?_eq_getElem ht, Array.getElem?_eq_getElem (by omega)] at h ⊢
  simpa using h
 rw [Array.getElem?_eq_none (by omega), Array.getElem?_eq_none (by omega)]
theorem same_of (hs : a.tmps.size = a'.tmps.size) (hn : notSel o = true) (h : ∀ t ∈ o.looksAt ops, a.tmps.getD t undef = a'.tmps.getD t undef) :
  execOp a.eval o = execOp a'.eval o ∧ Region.wanted o (yielded ops a.tmps) = Region.wanted o (yielded ops a'.tmps) := by
 refine ⟨execOp_congr o (fun cs b e => by unfold notSel at hn; rw [e] at hn; cases hn) fun x hx => ?_, ?_⟩
 ·cases x with
  | tmp t => exact h t (List.mem_append_left _ (List.mem_filterMap.2 ⟨.tmp t, by simpa using hx, rfl⟩))
  | _ => rfl
 unfold Region.wanted;cases hg : o.guard with
 | none => rfl
 | some gw =>
  obtain ⟨g, want⟩ := gw;have hy : yielded ops a.tmps g = yielded ops a'.tmps g := by
   unfold yielded;cases ht : (ops[g]?).bind (·.dst) with
   | none => rfl
   | some t =>
    have h1 := getq hs (h t (by simp [Oper.looksAt, hg, ht]));simp only [Option.bind_some, h1]
  simp only [hy]
theorem put_same (hs : a.tmps.size = a'.tmps.size) {x : Option Tmp} {v u : Value} (h : a.put x v = a.put x u) : a'.put x v = a'.put x u := by
 cases x with
 | none => rfl
 | some d =>
  by_cases hd : d < a.tmps.size
  ·have h1 := put_getD_same a d v hd;rw [h, put_getD_same a d u hd] at h1;rw [h1]
  have h1 : a'.tmps.size ≤ d := by rw [← hs]; exact Nat.le_of_not_lt hd
  simp only [Act.put];rw [Array.setIfInBounds_eq_of_size_le h1, Array.setIfInBounds_eq_of_size_le h1]
theorem wp_move {Q : Exit → Act → World → Prop} {K : Value → World → Prop} (he : execOp a.eval o = execOp a'.eval o) (hs : a.tmps.size = a'.tmps.size) (h : o.wp P a w (fun b w' => ∃ v, b = a.put o.dst v ∧ K v w') QF) :
  o.wp P a' w (fun b w' => ∃ v, b = a'.put o.dst v ∧ K v w') Q := by
 have hm : ∀ v w', (∃ u, a.put o.dst v = a.put o.dst u ∧ K u w') → ∃ u, a'.put o.dst v = a'.put o.dst u ∧ K u w' := fun v w' ⟨u, h1, h2⟩ => ⟨u, put_same hs h1, h2⟩
 unfold Oper.wp at *;rw [he] at h
 generalize (execOp a'.eval o).run P w = r at *
 cases r with
 | ok n w' =>
  cases n <;> simp only [Oper.upon] at h ⊢
  case value v => exact hm _ _ h
  case skip => exact hm _ _ h
  case enter f args => exact Calls.mono h (fun e w'' he => by cases e <;> first | exact hm _ _ he | exact he.elim | (exfalso; obtain ⟨_, _, h⟩ := he; exact h))
  case row => exact Rows.mono h (fun _ _ he => hm _ _ he)
  case defer d =>
   obtain ⟨v, h1, -⟩ := h;have := congrArg Act.defers h1;simp only [Pm.put_defers] at this;exact absurd (congrArg List.length this) (by simp)
 | halt x w' => cases x <;> simp only [Oper.upon] at h ⊢ <;> exact h.elim
end
def PendE (E : World → World → Prop) (P : Program) (ops : Array Oper) (mem : List Nat) (a0 : Act) (val : Nat → Value) (pre is : List Nat) (Fl : List (Nat × (World → Prop))) (J : World → Prop) (i : Nat) : Prop :=
 ∃ (o : Oper) (ai : Act) (L : Nat → Prop), ops[i]? = some o ∧ Tk ops L val a0 ai ∧ (∀ q, ahead ops q i = true → L q) ∧ (∀ q, L q → q ≠ i ∧ ahead ops i q = false) ∧ (∀ q, L q → q ∈ pre) ∧
  ((Region.wanted o (yielded ops ai.tmps) = false ∧ val i = undef) ∨ (Region.wanted o (yielded ops ai.tmps) = true ∧
   ((∀ w, AddsE E P o ai w (val i)) ∨ ((∀ w, J w → AddsE E P o ai w (val i)) ∧ tied ops mem i (pm ops is) = true) ∨ ∃ f : World → Prop, (i, f) ∈ Fl ∧ ∀ w, f w → AddsE E P o ai w (val i))))
structure DIE (E : World → World → Prop) (P : Program) (ops : Array Oper) (mem : List Nat) (R : Act → World → Prop) (a0 : Act) (perm : List Nat) (listed : Array Bool) (a : Act) (w : World) (pre is : List Nat) (val : Nat → Value) (Fl : List (Nat × (World → Prop))) (J : World → Prop) (aS : Act) : Prop where
 lsize : listed.size = ops.size
 closed : ∀ (j : Nat) (o : Oper), ops[j]? = some o → listed.getD j false = true → ∀ k, binder o k = true → listed.getD k false = true
 tk : Tk ops (fun q => listed.getD q false = true) val a0 a
 perm : perm = pre ++ is
 tkS : Tk ops (· ∈ pre) val a0 aS
 dw : DWE E P ops mem R (pm ops is) Fl J aS
 st : ∀ w w', J w → E w w' → J w'
 inv : J w
 fl : ∀ f ∈ Fl, listed.getD f.1 false = false → ∀ w, J w → f.2 w
 sub : ∀ q, listed.getD q false = true → q ∈ pre
 memd : ∀ q, q ∈ mem → q ∈ pre → listed.getD q false = true
 pend : ∀ i, i ∈ pre → listed.getD i false = false → PendE E P ops mem a0 val pre is Fl J i
@[reducible] def DI (P : Program) (ops : Array Oper) (mem : List Nat) (R : Act → World → Prop) (a0 : Act) (perm : List Nat) (listed : Array Bool) (a : Act) (w : World) (pre is : List Nat) (val : Nat → Value) (Fl : List (Nat × (World → Prop))) (J : World → Prop) (aS : Act) : Prop := DIE Ext P ops mem R a0 perm listed a w pre is val Fl J aS
theorem pwOk_at {ops : Array Oper} {mem : List Nat} : ∀ {pre is : List Nat} {i : Nat}, pwOk ops mem (pre ++ i :: is) = true → ∀ q ∈ is, ahead ops q i = false ∧ (i ∈ mem → ahead ops i q = true)
 | [], is, i, h, q, hq => by
  simp only [List.nil_append, pwOk, Bool.and_eq_true] at h;have h1 := List.all_eq_true.1 h.1 q hq;simp only [Bool.and_eq_true, Bool.not_eq_true', Bool.or_eq_true] at h1;refine ⟨h1.1, fun hi => ?_⟩;rcases h1.2 with h2 | h2
  ·simp [hi] at h2
  exact h2
 | x :: pre, is, i, h, q, hq => by
  simp only [List.cons_append, pwOk, Bool.and_eq_true] at h;exact pwOk_at h.2 q hq
theorem pwOk_suffix {ops : Array Oper} {mem : List Nat} : ∀ {s is : List Nat}, pwOk ops mem (s ++ is) = true → pwOk ops mem is = true
 | [], _, h => h
 | x :: s, is, h => by
  simp only [List.cons_append, pwOk, Bool.and_eq_true] at h;exact pwOk_suffix h.2
theorem pwOk_ord {ops : Array Oper} {mem : List Nat} : ∀ {l : List Nat}, pwOk ops mem l = true → pwOk ops [] l = true
 | [], _ => rfl
 | x :: l, h => by
  simp only [pwOk, Bool.and_eq_true] at h ⊢;refine ⟨List.all_eq_true.2 fun y hy => ?_, pwOk_ord h.2⟩;have := List.all_eq_true.1 h.1 y hy;simp only [Bool.and_eq_true] at this ⊢;exact ⟨this.1, by simp⟩
section
variable {E : World → World → Prop} {P : Program} {ops : Array Oper} {mem perm : List Nat} {R : Act → World → Prop} {a0 : Act}
theorem DIE.advance (hnd : onceDst ops = true) (hfit : ∀ (j : Nat) (o : Oper) (d : Tmp), ops[j]? = some o → o.dst = some d → d < a0.tmps.size) (hno : ∀ i, ahead ops i i = false)
  (hnp : perm.Nodup) (hlt : ∀ i ∈ perm, i < ops.size) (hpw : pwOk ops [] perm = true) (hpre : ∀ i q, i ∈ perm → ahead ops q i = true → q ∈ perm) {listed : Array Bool} {a : Act} {w : World} {J : World → Prop} :
  ∀ (is pre : List Nat) (val : Nat → Value) (Fl : List (Nat × (World → Prop))) (aS : Act), DIE E P ops mem R a0 perm listed a w pre is val Fl J aS →
  ∃ pre' is' val' Fl' aS', DIE E P ops mem R a0 perm listed a w pre' is' val' Fl' J aS' ∧ (is' = [] ∨ ∃ m r, is' = m :: r ∧ m ∈ mem) ∧ ∃ s, is = s ++ is' := by
 intro is
 induction is with
 | nil => intro pre val Fl aS I; exact ⟨pre, [], val, Fl, aS, I, .inl rfl, [], rfl⟩
 | cons i is ih =>
  intro pre val Fl aS I;by_cases hm : i ∈ mem
  ·exact ⟨pre, i :: is, val, Fl, aS, I, .inr ⟨i, is, rfl, hm⟩, [], rfl⟩
  have hp := I.perm;have hip : i ∈ perm := by rw [hp]; simp
  have hi := hlt i hip;have hnd2 : (pre ++ i :: is).Nodup := hp ▸ hnp;have hipre : i ∉ pre := fun h => by
   rw [List.nodup_append] at hnd2;exact hnd2.2.2 i h i (by simp) rfl
  have hio : ops[i]? = some (ops.getD i default) := by simp [Array.getD, hi]
  have hpa : ∀ q, ahead ops q i = true → q ∈ pre := by
   intro q hq;have hqp := hpre i q hip hq;rw [hp] at hqp;rcases List.mem_append.1 hqp with h | h
   ·exact h
   rcases List.mem_cons.1 h with h | h
   ·subst h; rw [hno] at hq; cases hq
   have := (pwOk_at (hp ▸ hpw) q h).1;rw [this] at hq; cases hq
  have hpb : ∀ q, q ∈ pre → q ≠ i ∧ ahead ops i q = false := by
   intro q hq;refine ⟨fun e => hipre (e ▸ hq), ?_⟩;obtain ⟨p1, p2, rfl⟩ := List.append_of_mem hq;have h2 := hp ▸ hpw;rw [List.append_assoc, List.cons_append] at h2;exact (pwOk_at h2 i (by simp)).1
  have hli : listed.getD i false = false := by
   cases h : listed.getD i false with
   | false => rfl
   | true => exact (hipre (I.sub i h)).elim
  have next : ∀ v Fl', (∀ f ∈ Fl, f ∈ Fl') → (∀ f ∈ Fl', f ∈ Fl ∨ ∀ w, J w → f.2 w) → DWE E P ops mem R (pm ops is) Fl' J (aS.put (ops.getD i default).dst v) →
    ((Region.wanted (ops.getD i default) (yielded ops aS.tmps) = false ∧ v = undef) ∨ (Region.wanted (ops.getD i default) (yielded ops aS.tmps) = true ∧
     ((∀ w, AddsE E P (ops.getD i default) aS w v) ∨ ((∀ w, J w → AddsE E P (ops.getD i default) aS w v) ∧ tied ops mem i (pm ops is) = true) ∨ ∃ f : World → Prop, (i, f) ∈ Fl' ∧ ∀ w, f w → AddsE E P (ops.getD i default) aS w v))) →
    ∃ pre' is' val' Fl' aS', DIE E P ops mem R a0 perm listed a w pre' is' val' Fl' J aS' ∧ (is' = [] ∨ ∃ m r, is' = m :: r ∧ m ∈ mem) ∧ ∃ s, i :: is = s ++ is' := by
   intro v Fl' hF1 hF2 hdw hob;have hval : ∀ q, q ∈ pre → val q = if q = i then v else val q := fun q hq => by rw [if_neg (hpb q hq).1]
   refine (fun ⟨p9, i9, v9, f9, a9, h1, h2, s9, h3⟩ => ⟨p9, i9, v9, f9, a9, h1, h2, i :: s9, by rw [h3]; rfl⟩) (ih (pre ++ [i]) (fun q => if q = i then v else val q) Fl' _ ⟨I.lsize, I.closed, I.tk.iff (fun _ => Iff.rfl) (fun q hq => hval q (I.sub q hq)), by rw [hp]; simp, ?_, hdw, I.st, I.inv, ?_, fun q hq => by simp [I.sub q hq], ?_, ?_⟩)
   ·refine (Tk.put hnd hfit (I.tkS.iff (fun _ => Iff.rfl) hval) hio hipre (if_pos rfl)).iff (fun q => ?_) (fun _ _ => rfl)
    simp [or_comm]
   ·intro f hf hlf;rcases hF2 f hf with h | h
    ·exact I.fl f h hlf
    exact h
   ·intro q hq hqp;rcases List.mem_append.1 hqp with h | h
    ·exact I.memd q hq h
    rw [List.mem_singleton.1 h] at hq; exact (hm hq).elim
   intro q hq hlq;rcases List.mem_append.1 hq with h | h
   ·obtain ⟨o, ai, L, h1, h2, h3, h4, h5, h6⟩ := I.pend q h hlq;have hqv := hval q h;refine ⟨o, ai, L, h1, h2.iff (fun _ => Iff.rfl) (fun r hr => hval r (h5 r hr)), h3, h4, fun r hr => by simp [h5 r hr], ?_⟩;simp only [← hqv];rcases h6 with h6 | ⟨h6, h7⟩
    ·exact .inl h6
    refine .inr ⟨h6, ?_⟩;rcases h7 with h7 | ⟨h7, h8⟩ | ⟨f, h7, h8⟩
    ·exact .inl h7
    ·refine .inr (.inl ⟨h7, ?_⟩);simp only [pm, List.map_cons, tied] at h8;rw [show mem.contains i = false by simpa using hm] at h8;exact h8
    exact .inr (.inr ⟨f, hF1 _ h7, h8⟩)
   have := List.mem_singleton.1 h;subst this;refine ⟨_, aS, (· ∈ pre), hio, I.tkS.iff (fun _ => Iff.rfl) hval, hpa, hpb, fun r hr => by simp [hr], ?_⟩
   simpa using hob
  have hdw := I.dw;simp only [pm, List.map_cons, DWE] at hdw;rw [if_neg (by simpa using hm)] at hdw;rcases hdw with ⟨h1, h2⟩ | ⟨h1, v, ⟨h2, h3⟩ | ⟨h2, h3, h4⟩ | ⟨f, h2, h3, h4⟩⟩
  ·exact next undef Fl (fun _ h => h) (fun _ h => .inl h) h2 (.inl ⟨h1, rfl⟩)
  ·exact next v Fl (fun _ h => h) (fun _ h => .inl h) h3 (.inr ⟨h1, .inl h2⟩)
  ·exact next v Fl (fun _ h => h) (fun _ h => .inl h) h4 (.inr ⟨h1, .inr (.inl ⟨h2, h3⟩)⟩)
  refine next v ((i, f) :: Fl) (fun _ h => List.mem_cons_of_mem _ h) (fun g hg => ?_) h4 (.inr ⟨h1, .inr (.inr ⟨f, by simp, h2⟩)⟩);rcases List.mem_cons.1 hg with rfl | hg
  ·exact .inr h3
  exact .inl hg
theorem FlOk.at {m : Nat} {J : World → Prop} : ∀ {l : List (Nat × (World → Prop))}, FlOk ops m J l → ∀ f ∈ l, ahead ops f.1 m = false → ∀ w, J w → f.2 w
 | g :: l, h, f, hf, ha => by
  rcases List.mem_cons.1 hf with rfl | hf
  ·have := h.1; rw [ha] at this; exact this
  exact FlOk.at h.2 f hf ha
theorem any_walk [EOk E] {Q : Exit → Act → World → Prop} (hbk : backward ops = true) (hnd : onceDst ops = true) (hfit : ∀ (j : Nat) (o : Oper) (d : Tmp), ops[j]? = some o → o.dst = some d → d < a0.tmps.size)
  (hsel : ∀ (j : Nat) (o : Oper), ops[j]? = some o → notSel o = true) (hlook : ∀ (i : Nat) (o : Oper), ops[i]? = some o → ∀ t ∈ o.looksAt ops, ∀ (q : Nat) (o' : Oper), ops[q]? = some o' → o'.dst = some t → q = i ∨ ahead ops q i = true ∨ ahead ops i q = true)
  (hno : ∀ i, ahead ops i i = false) (hnp : perm.Nodup) (hlt : ∀ i, i ∈ perm ↔ i < ops.size) (hpw : pwOk ops [] perm = true)
  (hfin : ∀ a w, R a w → Q .normal a w) :
  ∀ (fuel : Nat) (listed : Array Bool) (a : Act) (w : World) (pre is : List Nat) (val : Nat → Value) (Fl : List (Nat × (World → Prop))) (J : World → Prop) (aS : Act), toCome ops listed ≤ fuel → DIE E P ops mem R a0 perm listed a w pre is val Fl J aS → pwOk ops mem is = true → wpAny P .any ops Q fuel listed a w := by
 have hpre : ∀ i q, i ∈ perm → ahead ops q i = true → q ∈ perm := by
  intro i q _ hq;refine (hlt q).2 ?_;have hr := ahead_reach hq;have back : ∀ (p k : Nat) (o : Oper), ops[p]? = some o → binder o k = true → k < ops.size := by
   intro p k o hp hk;have hpl := (Array.getElem?_eq_some_iff.1 hp).1;unfold binder at hk;obtain ⟨e, he, hb⟩ := List.any_eq_true.1 hk;rw [Bool.and_eq_true] at hb;have h1 := List.all_eq_true.1 hbk (o, p) (by rw [List.mem_iff_getElem?]; exact ⟨p, by simp [hp]⟩);have h2 := List.all_eq_true.1 h1 e he;rw [hb.1] at h2;have h3 : e.on = k := by simpa using hb.2
   simp at h2
   omega
  clear hq
  induction hr with
  | one h hb => exact back _ _ _ h hb
  | step h hb _ ih => exact ih ((hlt _).2 (back _ _ _ h hb))
 have adv := @DIE.advance E P ops mem perm R a0 hnd hfit hno hnp (fun i h => (hlt i).1 h) hpw hpre;have fin : ∀ listed a w pre is val Fl J aS, DIE E P ops mem R a0 perm listed a w pre is val Fl J aS → Region.ready .any ops listed = [] → Q .normal a w := by
  intro listed a w pre is val Fl J aS I hr;have hall := all_listed hbk I.lsize hr;have his : is = [] := by
   cases is with
   | nil => rfl
   | cons i is =>
    have hip : i ∈ perm := by rw [I.perm]; simp
    have := I.sub i (hall i ((hlt i).1 hip));have hn2 : (pre ++ i :: is).Nodup := I.perm ▸ hnp;rw [List.nodup_append] at hn2;exact (hn2.2.2 i this i (by simp) rfl).elim
  subst his;have hdw := I.dw;simp only [pm, List.map_nil, DWE] at hdw;have heq : a = aS := act_ext (by rw [I.tk.size, I.tkS.size]) (by rw [I.tk.defers, I.tkS.defers]) fun t => I.tk.agree I.tkS t fun q o hq _ =>
   ⟨I.sub q, fun _ => hall q (Array.getElem?_eq_some_iff.1 hq).1⟩
  rw [heq];exact hfin _ _ (hdw w I.inv)
 intro fuel
 induction fuel with
 | zero =>
  intro listed a w pre is val Fl J aS hc I _;have hr : Region.ready .any ops listed = [] := by
   rw [List.eq_nil_iff_forall_not_mem];intro i hi;obtain ⟨o, _, hi2, hl, _⟩ := mem_ready hi;have := toCome_set hi2 hl;omega
  exact ⟨hr, fin _ _ _ _ _ _ _ _ _ I hr⟩
 | succ fuel ih =>
  intro listed a w pre is val Fl J aS hc I hpm;obtain ⟨pre, is, val, Fl, aS, I, hhead, s9, hs9⟩ := adv is pre val Fl aS I;rw [hs9] at hpm;replace hpm := pwOk_suffix hpm;refine ⟨fin _ _ _ _ _ _ _ _ _ I, fun i hi => ?_⟩;obtain ⟨o, ho, hi2, hl, hpr⟩ := mem_ready hi;have hlf : listed.getD i false = false := by
   simp only [Array.getD_eq_getD_getElem?] at hl ⊢;rw [Array.getElem?_eq_getElem (by rw [I.lsize]; exact hi2)] at hl ⊢
   simpa using hl
  have hprT : ∀ j, ahead ops j i = true → listed.getD j false = true := by
   intro j hj;cases ahead_reach hj with
   | one h hb => rw [ho] at h; cases h; exact hpr _ hb
   | step h hb hr => rw [ho] at h; cases h; exact hr.listed I.closed (hpr _ hb)
  have hnot : ∀ q, ahead ops i q = true → listed.getD q false = false := by
   intro q hq;cases hlq : listed.getD q false with
   | false => rfl
   | true => rw [(ahead_reach hq).listed I.closed hlq] at hlf; cases hlf
  have hct : toCome ops (listed.setIfInBounds i true) ≤ fuel := by have := toCome_set hi2 hl; omega
  have hls : ∀ q, (listed.setIfInBounds i true).getD q false = true ↔ q = i ∨ listed.getD q false = true := by
   intro q
   constructor
   ·exact getD_false_set
   rintro (rfl | h)
   ·simp only [Array.getD_eq_getD_getElem?];rw [Array.getElem?_setIfInBounds_self_of_lt (by rw [I.lsize]; exact hi2)]
    rfl
   exact getD_set_true h
  have hclosed : ∀ (j : Nat) (oj : Oper), ops[j]? = some oj → (listed.setIfInBounds i true).getD j false = true → ∀ k, binder oj k = true → (listed.setIfInBounds i true).getD k false = true := by
   intro j oj hj hlj k hk;rcases (hls j).1 hlj with e | e
   ·subst e; rw [ho] at hj; cases hj;exact (hls k).2 (.inr (hpr k hk))
   exact (hls k).2 (.inr (I.closed j oj hj e k hk))
  have hlf2 : ∀ q, (listed.setIfInBounds i true).getD q false = false → q ≠ i ∧ listed.getD q false = false := by
   intro q hq;refine ⟨fun e => ?_, ?_⟩
   ·rw [(hls q).2 (.inl e)] at hq; cases hq
   cases h : listed.getD q false with
   | false => rfl
   | true => rw [(hls q).2 (.inr h)] at hq; cases hq
  have agr : ∀ (ai : Act) (L : Nat → Prop), Tk ops L val a0 ai → (∀ q, ahead ops q i = true → L q) → (∀ q, L q → q ≠ i ∧ ahead ops i q = false) → execOp ai.eval o = execOp a.eval o ∧ Region.wanted o (yielded ops ai.tmps) = Region.wanted o (yielded ops a.tmps) := by
   intro ai L hT h1 h2;refine same_of (by rw [hT.size, I.tk.size]) (hsel i o ho) fun t ht => hT.agree I.tk t fun q o' hq hd => ?_
   rcases hlook i o ho t ht q o' hq hd with h | h | h
   ·subst h;exact ⟨fun h => ((h2 _ h).1 rfl).elim, fun h => by rw [hlf] at h; cases h⟩
   ·exact ⟨fun _ => hprT q h, fun _ => h1 q h⟩
   exact ⟨fun h3 => (by rw [(h2 q h3).2] at h; cases h), fun h3 => by rw [hnot q h] at h3; cases h3⟩
  unfold wpOp;rw [ho];simp only [];by_cases hip : i ∈ pre
  ·obtain ⟨o', ai, L, h1, h2, h3, h4, h5, h6⟩ := I.pend i hip hlf;rw [ho] at h1; cases h1;obtain ⟨he, hw⟩ := agr ai L h2 h3 h4;have next : ∀ w', E w w' → DIE E P ops mem R a0 perm (listed.setIfInBounds i true) (a.put o.dst (val i)) w' pre is val Fl J aS := by
    intro w' hx;refine ⟨by simpa using I.lsize, hclosed, (Tk.put hnd hfit I.tk ho (by rw [hlf]; decide) rfl).iff (fun q => (hls q).symm) (fun _ _ => rfl), I.perm, I.tkS, I.dw, I.st, I.st _ _ I.inv hx, fun f hf hq => I.fl f hf (hlf2 _ hq).2, fun q hq => ?_, fun q hq hqp => (hls q).2 (.inr (I.memd q hq hqp)), fun q hq hlq => I.pend q hq (hlf2 q hlq).2⟩;rcases (hls q).1 hq with h | h
    ·subst h; exact hip
    exact I.sub q h
   rcases h6 with ⟨h6, h7⟩ | ⟨h6, h7⟩
   ·rw [← hw, h6];simp only [Bool.false_eq_true, if_false];have := next w (EOk.rf _);rw [h7] at this;exact ih _ _ _ _ _ _ _ _ _ hct this hpm
   rw [← hw, h6];simp only [if_true];have hA : AddsE E P o ai w (val i) := by
    rcases h7 with h7 | ⟨h7, -⟩ | ⟨f, h7, h8⟩
    ·exact h7 w
    ·exact h7 w I.inv
    exact h8 w (I.fl _ h7 hlf w I.inv)
   refine .inl (Oper.wp_mono (fun a' w' ⟨v, ha, hv, hx⟩ => ?_) (wp_move he (by rw [h2.size, I.tk.size]) hA));rw [ha, hv];exact ih _ _ _ _ _ _ _ _ _ hct (next w' hx) hpm
  have hin : i ∈ is := by
   have := (hlt i).2 hi2;rw [I.perm] at this;rcases List.mem_append.1 this with h | h
   ·exact (hip h).elim
   exact h
  rcases hhead with h | ⟨m, r, h, hm⟩
  ·rw [h] at hin; cases hin
  subst h;have hnp2 : (pre ++ m :: r).Nodup := I.perm ▸ hnp;have hpw2 : pwOk ops [] (pre ++ m :: r) = true := I.perm ▸ hpw;have hmp2 : m ∉ pre := fun h => by
   rw [List.nodup_append] at hnp2;exact hnp2.2.2 m h m (by simp) rfl
  have him : i = m := by
   rcases List.mem_cons.1 hin with h | h
   ·exact h
   exact (hmp2 (I.sub m (hprT m ((pwOk_at (pre := []) hpm i h).2 hm)))).elim
  subst him;have hpb : ∀ q, q ∈ pre → q ≠ i ∧ ahead ops i q = false := by
   intro q hq;refine ⟨fun e => hmp2 (e ▸ hq), ?_⟩;obtain ⟨p1, p2, rfl⟩ := List.append_of_mem hq;rw [List.append_assoc, List.cons_append] at hpw2;exact (pwOk_at hpw2 i (by simp)).1
  obtain ⟨he, hw⟩ := agr aS (· ∈ pre) I.tkS (fun q hq => I.sub q (hprT q hq)) hpb;have hdw := I.dw;simp only [pm, List.map_cons, DWE] at hdw;rw [if_pos (by simpa using hm)] at hdw;have hoo : ops.getD i default = o := by simp [Array.getD_eq_getD_getElem?, ho]
  rw [hoo] at hdw
  suffices nx : ∀ v J' w', (∀ w w', J' w → E w w' → J' w') → J' w' → (∀ f ∈ Fl, ahead ops f.1 i = false → ∀ w, listed.getD f.1 false = false → J' w → f.2 w) → DWE E P ops mem R (pm ops r) Fl J' (aS.put o.dst v) → wpAny P .any ops Q fuel (listed.setIfInBounds i true) (a.put o.dst v) w' by
   rcases hdw with ⟨h1, h2⟩ | ⟨h1, h2⟩
   ·rw [← hw, h1];simp only [Bool.false_eq_true, if_false];exact nx undef J w I.st I.inv (fun f hf _ w hl hJ => I.fl f hf hl w hJ) h2
   rw [← hw, h1];simp only [if_true];refine .inl (Oper.wp_mono (fun a' w' ⟨v, ha, J', hst, hJ', hfl, hdw'⟩ => ?_) (wp_move he (by rw [I.tkS.size, I.tk.size]) (h2 w I.inv)));rw [ha];exact nx v J' w' hst hJ' (fun f hf ha w _ => hfl.at f hf ha w) hdw'
  intro v J' w' hst hJ' hfl hdw';have hval : ∀ q, q ∈ pre → val q = if q = i then v else val q := fun q hq => by rw [if_neg (hpb q hq).1]
  refine ih _ _ _ (pre ++ [i]) r (fun q => if q = i then v else val q) Fl J' (aS.put o.dst v) hct ⟨by simpa using I.lsize, hclosed, ?_, by rw [I.perm]; simp, ?_, hdw', hst, hJ', ?_, ?_, ?_, ?_⟩ (pwOk_suffix (s := [i]) hpm)
  ·exact (Tk.put hnd hfit (I.tk.iff (fun _ => Iff.rfl) fun q hq => hval q (I.sub q hq)) ho (by rw [hlf]; decide) (if_pos rfl)).iff (fun q => (hls q).symm) (fun _ _ => rfl)
  ·refine (Tk.put hnd hfit (I.tkS.iff (fun _ => Iff.rfl) hval) ho hmp2 (if_pos rfl)).iff (fun q => ?_) (fun _ _ => rfl)
   simp [or_comm]
  ·intro f hf hq;refine fun w => hfl f hf ?_ w (hlf2 _ hq).2
   cases ha : ahead ops f.1 i with
   | false => rfl
   | true => have h9 := (hlf2 _ hq).2; rw [hprT _ ha] at h9; cases h9
  ·intro q hq;rcases (hls q).1 hq with h | h
   ·subst h; simp
   simp [I.sub q h]
  ·intro q hq hqp;rcases List.mem_append.1 hqp with h | h
   ·exact (hls q).2 (.inr (I.memd q hq h))
   exact (hls q).2 (.inl (List.mem_singleton.1 h))
  intro q hq hlq;obtain ⟨hqi, hlq⟩ := hlf2 q hlq;have hqp : q ∈ pre := by
   rcases List.mem_append.1 hq with h | h
   ·exact h
   exact (hqi (List.mem_singleton.1 h)).elim
  obtain ⟨o2, ai, L, h1, h2, h3, h4, h5, h6⟩ := I.pend q hqp hlq;have hqv := hval q hqp;refine ⟨o2, ai, L, h1, h2.iff (fun _ => Iff.rfl) (fun r hr => hval r (h5 r hr)), h3, h4, fun r hr => by simp [h5 r hr], ?_⟩;simp only [← hqv];rcases h6 with h6 | ⟨h6, h7⟩
  ·exact .inl h6
  refine .inr ⟨h6, ?_⟩;rcases h7 with h7 | ⟨h7, h8⟩ | ⟨f, h7, h8⟩
  ·exact .inl h7
  ·exfalso;simp only [pm, List.map_cons, tied] at h8;rw [show mem.contains i = true by simpa using hm] at h8;rw [hprT q h8] at hlq; cases hlq
  exact .inr (.inr ⟨f, h7, h8⟩)
end
theorem ahead_lt {ops : Array Oper} (hbk : backward ops = true) {i p : Nat} (h : ahead ops i p = true) : i < p := by
 have hr := ahead_reach h;have back : ∀ (p k : Nat) (o : Oper), ops[p]? = some o → binder o k = true → k < p := by
  intro p k o hp hk;unfold binder at hk;obtain ⟨e, he, hb⟩ := List.any_eq_true.1 hk;rw [Bool.and_eq_true] at hb;have h1 := List.all_eq_true.1 hbk (o, p) (by rw [List.mem_iff_getElem?]; exact ⟨p, by simp [hp]⟩);have h2 := List.all_eq_true.1 h1 e he;rw [hb.1] at h2;have h3 : e.on = k := by simpa using hb.2
  simp at h2
  omega
 clear h
 induction hr with
 | one h hb => exact back _ _ _ h hb
 | step h hb _ ih => exact Nat.lt_trans ih (back _ _ _ h hb)
section
variable {E : World → World → Prop} {n : Nat} {P : Program} {ops : Array Oper} {Q : Exit → Act → World → Prop} {a0 : Act} {w0 : World} {B : Base} {H : List Res}
theorem any_w [EOk E] {J : World → Prop} (mem perm : List Nat) (k : Nat) (hsize : a0.tmps.size = k) (hck : okDW ops mem perm k = true) (hst : ∀ w w', J w → E w w' → J w') (hv : J w0)
  (h : DWE E P ops mem (Q .normal) (pm ops perm) [] J a0) : wpAny P .any ops Q ops.size (Array.replicate ops.size false) a0 { w0 with drawn := w0.drawn + 1 } := by
 unfold okDW at hck;simp only [Bool.and_eq_true] at hck;obtain ⟨hbk, hnd, hft, hns, hnp, hpl, hpa, hpw, hlk⟩ := hck;have hnp := of_decide_eq_true hnp;have hpl := of_decide_eq_true hpl;have hlt : ∀ i, i ∈ perm → i < ops.size := fun i hi => by simpa using List.all_eq_true.1 hpa i hi
 have hall : ∀ i, i ∈ perm ↔ i < ops.size := fun i => ⟨hlt i, fun hi => by
  have hsub : perm ⊆ List.range ops.size := fun x hx => List.mem_range.2 (hlt x hx)
  exact Classical.byContradiction fun hni => by
   have h1 : (i :: perm).Nodup := List.nodup_cons.2 ⟨hni, hnp⟩;have h2 : (i :: perm).length ≤ (List.range ops.size).length := List.Nodup.length_le_of_subset h1 (fun x hx => by
    rcases List.mem_cons.1 hx with rfl | hx
    ·exact List.mem_range.2 hi
    exact hsub hx)
   simp at h2
   omega⟩
 have hfit : ∀ (j : Nat) (o : Oper) (d : Tmp), ops[j]? = some o → o.dst = some d → d < a0.tmps.size := by
  intro j o d hj hd;have := List.all_eq_true.1 hft o (by rw [List.mem_iff_getElem?]; exact ⟨j, by simpa using hj⟩);rw [hd] at this;rw [hsize]
  simpa using this
 have hnl : ∀ j, (Array.replicate ops.size false).getD j false = true → False := by
  intro j hl;simp only [Array.getD_eq_getD_getElem?] at hl;by_cases h : j < ops.size <;> simp [h] at hl
 refine any_walk (E := E) (R := Q .normal) hbk hnd hfit (fun j o hj => ?_) (fun i o hi t ht q o' hq hd => ?_) (fun i => ?_) hnp hall (pwOk_ord hpw) (fun _ _ h => h) _ _ _ _ [] perm (fun _ => undef) [] J a0 ?_ ?_ hpw
 ·obtain ⟨hj2, rfl⟩ := Array.getElem?_eq_some_iff.1 hj;exact (Array.all_eq_true.1 hns) j hj2
 ·have h1 := List.all_eq_true.1 hlk (o, i) (by rw [List.mem_iff_getElem?]; exact ⟨i, by simp [hi]⟩);have h2 := List.all_eq_true.1 h1 t ht;have h3 := List.all_eq_true.1 h2 (o', q) (by rw [List.mem_iff_getElem?]; exact ⟨q, by simp [hq]⟩)
  simpa [hd] using h3
 ·cases h : ahead ops i i with
  | false => rfl
  | true => have := ahead_lt hbk h; omega
 ·unfold toCome;exact Nat.le_trans (List.countP_le_length) (by simp)
 exact ⟨by simp, fun j o hj hl => (hnl j hl).elim, (Tk.start (val := fun _ => undef)).iff (fun q => ⟨False.elim, hnl q⟩) (fun _ _ => rfl), rfl, (Tk.start (val := fun _ => undef)).iff (fun q => by simp) (fun _ _ => rfl), h, hst, hst _ _ hv (EOk.dr w0), fun f hf => (by cases hf), fun q hq => (hnl q hq).elim, fun q _ hq => (by cases hq), fun i hi => (by cases hi)⟩
def opAt : List Oper → Nat → Oper
 | [], _ => default
 | o :: _, 0 => o
 | _ :: l, i + 1 => opAt l i
def qm (l : List Oper) : List Nat → List (Nat × Oper)
 | [] => []
 | i :: is => (i, opAt l i) :: qm l is
theorem opAt_get (l : List Oper) (i : Nat) : opAt l i = l.toArray.getD i default := by
 induction l generalizing i with
 | nil => simp [opAt]
 | cons o l ih => cases i with
  | zero => simp [opAt, Array.getD_eq_getD_getElem?]
  | succ i => rw [opAt, ih]; simp [Array.getD_eq_getD_getElem?]
theorem qm_pm (l : List Oper) (is : List Nat) : qm l is = pm l.toArray is := by
 induction is with
 | nil => rfl
 | cons i is ih => rw [qm, ih, opAt_get]; rfl
theorem yP {n : Nat} {P : Program} {ops : Array Oper} {Q : Exit → Act → World → Prop} {a : Act} {w : World} {rest : List Oper} {o : Oper} (hw : Region.wanted o (yielded ops a.tmps) = false) (h : wpListIn Fence.wide n P ops Q rest (a.put o.dst undef) w) : wpListIn Fence.wide n P ops Q (o :: rest) a w := wpi_not (fun _ => trivial) hw h
theorem yN {n : Nat} {P : Program} {ops : Array Oper} {Q : Exit → Act → World → Prop} {a : Act} {w : World} {rest : List Oper} {o : Oper} (hw : (Region.wanted o (yielded ops a.tmps), a.put o.dst undef) = (false, a)) (h : wpListIn Fence.wide n P ops Q rest a w) : wpListIn Fence.wide n P ops Q (o :: rest) a w :=
 yP (Prod.mk.inj hw).1 ((Prod.mk.inj hw).2.symm ▸ h)
theorem rWE [EOk E] {J : World → Prop} {l : List Oper} {id : Nat} (hm : P.follows .mixedOrders = true) (mem perm : List Nat) (k : Nat) (hsize : a0.tmps.size = k) (hck : okDW l.toArray mem perm k = true) (hst : ∀ w w', J w → E w w' → J w') (hv : J w0)
  (h : DWE E P l.toArray mem (Q .normal) (qm l perm) [] J a0) : (Code.region id l.toArray true).wpIn Fence.wide n P Q a0 w0 :=
 wpIn_wide.2 (wp_region_any hm (any_w mem perm k hsize hck hst hv (qm_pm l perm ▸ h)))
theorem rW {l : List Oper} {id : Nat} (hm : P.follows .mixedOrders = true) (mem perm : List Nat) (k : Nat) (hsize : a0.tmps.size = k) (hck : okDW l.toArray mem perm k = true) (hv : Inv B H w0)
  (h : DW P l.toArray mem (Q .normal) (qm l perm) [] (Inv B H) a0) : (Code.region id l.toArray true).wpIn Fence.wide n P Q a0 w0 :=
 wpIn_wide.2 (wp_region_any hm (any_w mem perm k hsize hck (fun _ _ h he => h.ext he) hv (qm_pm l perm ▸ h)))
end
section
variable {E : World → World → Prop} {P : Program} {ops : Array Oper} {mem : List Nat} {R : Act → World → Prop} {i : Nat} {o : Oper} {is : List (Nat × Oper)} {Fl : List (Nat × (World → Prop))} {J : World → Prop} {a : Act} {v : Value} {x y z : Operand} {B : Base} {H : List Res} {w w' : World}
theorem Ex.addsv [EOk E] (h : Ex P a o w v w) : AddsE E P o a w v := by
 unfold AddsE Oper.wp;unfold Ex at h;rw [h];exact ⟨v, rfl, rfl, EOk.rf _⟩
theorem dE (h : ∀ w, J w → R a w) : DWE E P ops mem R [] Fl J a := h
theorem dP (hw : Region.wanted o (yielded ops a.tmps) = false) (h : DWE E P ops mem R is Fl J (a.put o.dst undef)) : DWE E P ops mem R ((i, o) :: is) Fl J a := by
 unfold DWE; exact .inl ⟨hw, h⟩
theorem dN (hw : (Region.wanted o (yielded ops a.tmps), a.put o.dst undef) = (false, a)) (h : DWE E P ops mem R is Fl J a) : DWE E P ops mem R ((i, o) :: is) Fl J a :=
 dP (Prod.mk.inj hw).1 ((Prod.mk.inj hw).2.symm ▸ h)
theorem dG [EOk E] (v : Value) (hw : (mem.contains i, Region.wanted o (yielded ops a.tmps)) = (false, true)) (hr : ∀ {w}, Ex P a o w v w) (h : DWE E P ops mem R is Fl J (a.put o.dst v)) : DWE E P ops mem R ((i, o) :: is) Fl J a := by
 obtain ⟨h1, h2⟩ := Prod.mk.inj hw;unfold DWE; refine .inr ⟨h2, ?_⟩;rw [if_neg (by simp only [h1]; decide)];exact ⟨v, .inl ⟨fun w => hr.addsv, h⟩⟩
theorem dL [EOk E] (v : Value) (hw : (mem.contains i, Region.wanted o (yielded ops a.tmps), tied ops mem i is) = (false, true, true)) (hr : ∀ {w}, J w → Ex P a o w v w) (h : DWE E P ops mem R is Fl J (a.put o.dst v)) : DWE E P ops mem R ((i, o) :: is) Fl J a := by
 obtain ⟨h1, h2⟩ := Prod.mk.inj hw;obtain ⟨h2, h3⟩ := Prod.mk.inj h2;unfold DWE; refine .inr ⟨h2, ?_⟩;rw [if_neg (by simp only [h1]; decide)];exact ⟨v, .inr (.inl ⟨fun w hJ => (hr hJ).addsv, h3, h⟩)⟩
theorem dF [EOk E] (v : Value) (hw : (mem.contains i, Region.wanted o (yielded ops a.tmps)) = (false, true)) (hr : ∀ {w}, J w → Ex P a o w v w) (h : ∀ f : World → Prop, (∀ w, Ex P a o w v w → f w) → DWE E P ops mem R is ((i, f) :: Fl) J (a.put o.dst v)) : DWE E P ops mem R ((i, o) :: is) Fl J a := by
 obtain ⟨h1, h2⟩ := Prod.mk.inj hw;unfold DWE; refine .inr ⟨h2, ?_⟩;rw [if_neg (by simp only [h1]; decide)];exact ⟨v, .inr (.inr ⟨fun w => Ex P a o w v w, fun w hx => hx.addsv, fun w hJ => hr hJ, h _ fun _ hx => hx⟩)⟩
theorem dM [EOk E] (v : Value) (hw : (mem.contains i, Region.wanted o (yielded ops a.tmps), o.op, a.eval x) = (false, true, .move x, v)) (h : DWE E P ops mem R is Fl J (a.put o.dst v)) : DWE E P ops mem R ((i, o) :: is) Fl J a := by
 simp only [Prod.mk.injEq] at hw;exact dG v (by rw [hw.1, hw.2.1]) (ex_move hw.2.2.1 hw.2.2.2) h
theorem dA [EOk E] (v : Value) (hw : (mem.contains i, Region.wanted o (yielded ops a.tmps), o.op, a.eval x) = (false, true, .assign x, v)) (h : DWE E P ops mem R is Fl J (a.put o.dst v)) : DWE E P ops mem R ((i, o) :: is) Fl J a := by
 simp only [Prod.mk.injEq] at hw;exact dG v (by rw [hw.1, hw.2.1]) (ex_assign hw.2.2.1 hw.2.2.2) h
theorem dK [EOk E] (b : Bool) (v : Value) (hw : (mem.contains i, Region.wanted o (yielded ops a.tmps), o.op, a.eval x, a.eval (cond b y z)) = (false, true, .pick x y z, .bool b, v)) (h : DWE E P ops mem R is Fl J (a.put o.dst v)) : DWE E P ops mem R ((i, o) :: is) Fl J a := by
 simp only [Prod.mk.injEq] at hw;exact dG v (by rw [hw.1, hw.2.1]) (ex_pick (b := b) hw.2.2.1 hw.2.2.2.1 (by cases b <;> exact hw.2.2.2.2)) h
def JNE (E : World → World → Prop) (P : Program) (ops : Array Oper) (mem : List Nat) (R : Act → World → Prop) (i : Nat) (o : Oper) (is : List (Nat × Oper)) (Fl : List (Nat × (World → Prop))) (a : Act) (vs : List Value) (w : World) : Prop :=
 ∃ v, vs = [v] ∧ ∃ J' : World → Prop, (∀ w w', J' w → E w w' → J' w') ∧ J' w ∧ FlOk ops i J' Fl ∧ DWE E P ops mem R is Fl J' (a.put o.dst v)
theorem dS (hw : (mem.contains i, Region.wanted o (yielded ops a.tmps)) = (true, true)) (hs : ∀ w, J w → StepMem P ops (JNE E P ops mem R i o is Fl a) QF o a w []) : DWE E P ops mem R ((i, o) :: is) Fl J a := by
 obtain ⟨h1, h2⟩ := Prod.mk.inj hw;unfold DWE; refine .inr ⟨h2, ?_⟩;rw [if_pos h1];intro w hJ;have := hs w hJ;unfold StepMem at this;rw [if_pos h2] at this;exact Oper.wp_mono (fun b w' ⟨v, hb, u, hu, J', h⟩ => by cases hu; exact ⟨v, hb, J', h⟩) this
theorem fN : FlOk ops i J [] := trivial
theorem fK {j : Nat} {f : World → Prop} (h : ahead ops j i = true) (t : FlOk ops i J Fl) : FlOk ops i J ((j, f) :: Fl) := ⟨by rw [h]; trivial, t⟩
theorem fC {j : Nat} {f : World → Prop} (h : ∀ w, J w → f w) (t : FlOk ops i J Fl) : FlOk ops i J ((j, f) :: Fl) := ⟨by cases ahead ops j i <;> first | trivial | exact h, t⟩
theorem dW (hv : Inv B H w') (h : DW P ops mem R is [] (Inv B H) (a.put o.dst v)) : JNE Ext P ops mem R i o is [] a ([] ++ [v]) w' := ⟨v, rfl, Inv B H, fun _ _ h he => h.ext he, hv, trivial, h⟩
theorem dV (hv : Inv B H w') (hf : FlOk ops i (Inv B H) Fl) (h : DW P ops mem R is Fl (Inv B H) (a.put o.dst v)) : JNE Ext P ops mem R i o is Fl a ([] ++ [v]) w' := ⟨v, rfl, Inv B H, fun _ _ h he => h.ext he, hv, hf, h⟩
end
theorem ok_full {b n : Nat} (h : n ≤ 1000000000000) : SliceOk (some ⟨b, 0, none⟩) n n := ⟨Nat.le_refl _, by unfold maxLen; omega, fun h => by cases h⟩
theorem rd_all {w : World} {b : Nat} {L : List Value} {t : TypeId} (h : Blk w b L t) : Src w (some ⟨b, 0, none⟩) L := src_mid (pre := []) (post := []) (by simpa using h) rfl
theorem Inv.cellRow {B : Base} {b n c size : Nat} {L : List Value} {e : TypeId} {H : List Res} {w : World} (hv : Inv B (Res.cell b L e :: H) w) (hL : L.length = c * size) (hn : n ≤ c) (hm : c ≤ maxLen) : Inv B (Res.row e size (.slice (some ⟨b, 0, none⟩) n c) n (L.take (n * size)) :: H) w := by
 have hle : n * size ≤ c * size := Nat.mul_le_mul_right _ hn;refine hv.as (Res.row e size (.slice (some ⟨b, 0, none⟩) n c) n (L.take (n * size))) ⟨by rw [List.length_take, hL]; omega, .inr ⟨b, c, L.toArray, rfl, Nat.zero_le _, hv.head, hn, hm, ?_, rfl⟩⟩ ?_
 ·simp [hL]
 simp [Value.ownBlock]
theorem Inv.rowCell {B : Base} {n c size b : Nat} {e : TypeId} {xs : List Value} {H : List Res} {w : World} (hv : Inv B (Res.row e size (.slice (some ⟨b, 0, none⟩) n c) n xs :: H) w) :
  ∃ L : List Value, L.length = c * size ∧ L.take (n * size) = xs ∧ n ≤ c ∧ c ≤ maxLen ∧ Inv B (Res.cell b L e :: H) w := by
 have hr : w.ownsRow 0 e size (.slice (some ⟨b, 0, none⟩) n c) n xs := hv.head;rcases hr.2 with ⟨h1, h2⟩ | ⟨g, cap, cur, h1, hb, hg, hnc, hcm, hcs, htake⟩
 ·cases h1
 simp only [Value.slice.injEq, Option.some.injEq, Addr.mk.injEq] at h1;obtain ⟨⟨rfl, -, -⟩, -, rfl⟩ := h1;exact ⟨cur.toList, by simpa using hcs, htake, hnc, hcm, hv.as (Res.cell b cur.toList e) (by simpa using hg) (by simp [Value.ownBlock])⟩
theorem Inv.rowNil {B : Base} {H : List Res} {w : World} (hv : Inv B H w) (e : TypeId) (size : Nat) : Inv B (Res.row e size (.slice none 0 0) 0 [] :: H) w :=
 hv.new (Ext.rfl' _) (Res.row e size (.slice none 0 0) 0 []) (World.ownsRow_nil _ _ _ _) (fun b hb => by simp [Value.ownBlock] at hb) (by simp [Value.ownBlock])
section
variable {F : Fence} {n : Nat} {P : Program} {ops : Array Oper} {Q : Exit → Act → World → Prop} {a : Act} {w : World} {rest : List Oper} {o : Oper} {v zv : Value} {B : Base} {H : List Res} {t e u : TypeId} {x y : Operand} {bytes size : Nat}
theorem sl_row0 (hF : ∀ f, F.fn f) (hg : Region.wanted o (yielded ops a.tmps) = true) (ho : o.op = .buildSlice t 0 #[]) (hv : Inv B H w)
  (hr : ∀ w, (Instr.buildSlice t 0 #[]).run P w = .ok (.slice (some ⟨w.heap.size, 0, none⟩) 0 0) (w.alloc (.cells ([] : List Value).toArray e)))
  (h : ∀ b w', Inv B (Res.row e size (.slice (some ⟨b, 0, none⟩) 0 0) 0 [] :: H) w' → wpListIn F n P ops Q rest (a.put o.dst (.slice (some ⟨b, 0, none⟩) 0 0)) w') : wpListIn F n P ops Q (o :: rest) a w :=
 wpi_exG hF hg (by unfold isDefer; rw [ho]) (by unfold Ex; simp [execOp, ho, hr]) (h w.heap.size (w.alloc (.cells ([] : List Value).toArray e)) (by
  have := (hv.alloc [] e).cellRow (n := 0) (c := 0) (size := size) (by simp) (Nat.le_refl _) (Nat.zero_le _)
  simpa using this))
theorem sl_makeRow {cap : Nat} (hF : ∀ f, F.fn f) (hg : Region.wanted o (yielded ops a.tmps) = true) (ho : o.op = .makeSlice t x y) (hx : a.eval x = .int .i64 0) (hy : a.eval y = .int .i64 (cap : Int)) (E : Elem P t e zv size bytes) (hcm : cap ≤ maxLen) (hby : cap * bytes ≤ 140737488355328) (hv : Inv B H w)
  (h : ∀ b w', Inv B (Res.row e size (.slice (some ⟨b, 0, none⟩) 0 cap) 0 [] :: H) w' → wpListIn F n P ops Q rest (a.put o.dst (.slice (some ⟨b, 0, none⟩) 0 cap)) w') : wpListIn F n P ops Q (o :: rest) a w := by
 obtain ⟨i, hi, hz, hs, hb⟩ := E.hi;refine sl_make (len := 0) hF hg ho hx hy E.ht hi hz (Nat.zero_le _) hcm (by rw [hb]; exact hby) hv (fun b w' hi' => h b w' ?_);have := hi'.cellRow (n := 0) (c := cap) (size := size) (by rw [hs]; simp [madeCells]) (Nat.zero_le _) hcm
 simpa using this
theorem ex_slnil {pa : Option Addr} {l c : Nat} {b : Bool} (ht : P.underlying t = some (.slice e)) (ho : o.op = .binOp .eql t x y u) (hx : a.eval x = .slice pa l c) (hy : a.eval y = .slice none 0 0) (hb : pa.isNone = b) : Ex P a o w (.bool b) w := by
 have hg : (eqGuard .eql t x y (.slice pa l c) (.slice none 0 0)).run P w = .ok () w := by
  simp [eqGuard]
 have hr := Go.run_eql_slice_nil w t e pa l c ht;subst hb; unfold Ex; simp [execOp, ho, hx, hy, hg, hr]
theorem ex_makeFunc {f : FuncId} {p c : Array Operand} {c' : Array Value} (ho : o.op = .makeFunc (.func f) p c) (hp : p.map a.eval = #[]) (hc : c.map a.eval = c') : Ex P a o w (.func (.func f) #[] c') w := by
 unfold Ex; simp [execOp, ho, Instr.makeFunc, hp, hc]
theorem ex_sgeq {s s' : List UInt8} {b : Bool} (ho : o.op = .binOp .geq t x y u) (hx : a.eval x = .string ⟨s.toArray⟩) (hy : a.eval y = .string ⟨s'.toArray⟩) (hb : (!Op.bytesLess s s') = b) : Ex P a o w (.bool b) w := by
 subst hb; unfold Ex; simp [execOp, ho, hx, hy, eqGuard, binOp, Op.stringOp]
theorem ex_slss {s s' : List UInt8} {b : Bool} (ho : o.op = .binOp .lss t x y u) (hx : a.eval x = .string ⟨s.toArray⟩) (hy : a.eval y = .string ⟨s'.toArray⟩) (hb : Op.bytesLess s s' = b) : Ex P a o w (.bool b) w := by
 subst hb; unfold Ex; simp [execOp, ho, hx, hy, eqGuard, binOp, Op.stringOp]
theorem wpi_callV {f : FuncId} {xs : Array Operand} {ts : Array TypeId} {args cb : Array Value} (hf : Callable P f) (hF : ∀ f, F.fn f) (hC : ∀ (f : FuncId) (args : Array Value) (w : World) (R : Ending → World → Prop), Calls P f args w R → CallsIn F (n - 1) P f args w R) (hdp : F.depth = none) (hg : Region.wanted o (yielded ops a.tmps) = true)
  (ho : o.op = .call { callee := .value x, args := xs, argTypes := ts }) (hfx : a.eval x = .func (.func f) #[] cb) (hx : xs.map a.eval = args) (hc : Calls P f (args ++ cb) w fun e w' => ∃ v, e = .returned v ∧ wpListIn F n P ops Q rest (a.put o.dst v) w') : wpListIn F n P ops Q (o :: rest) a w := by
 refine wpListIn_step fun K hK => ?_
 rw [if_pos hg];refine ⟨fun f _ => hF f, ?_⟩;have hd : isDefer o = false := by unfold isDefer; rw [ho]
 obtain ⟨fn, h1, h2, h3⟩ := hf;have : execOp a.eval o = callFunc f (#[] ++ xs.map a.eval ++ cb) := by
  obtain ⟨d, op, ty, pos, af, gd⟩ := o;simp only at ho;subst ho;simp only [execOp, resolve, hfx]
  rfl
 have hb : ¬ fn.body = none := by intro h; rw [h] at h3; cases h3
 have hn : ¬ fn.name = "runtime.NumGoroutine" := by simpa using h2
 have hr : (execOp a.eval o).run P w = .ok (.enter f (args ++ cb)) w := by rw [this, hx]; simp [callFunc, h1, hn, hb]
 rw [Oper.semAt_eq _ _ _ (not_defer hd), hr, Oper.uponIn_enter];refine ⟨fun e => by simp [hdp] at e, hC _ _ _ _ (hc.mono ?_)⟩;rintro e w' ⟨v, rfl, hh⟩;exact hK _ _ hh
end
abbrev Ent := List UInt8 × Value
theorem row1_reads {B : Base} {R : List Res} {xs : List Value} {ad : Option Addr} {i : Nat} {v : Value} (hr : RdW B R ad xs) (h : xs[i]? = some v) : ∃ b off, ad = some ⟨b, off, none⟩ ∧ Reads B R b (off + i) [v] := by
 have hi := (List.getElem?_eq_some_iff.1 h).1;refine rdW_reads (k := i) (m := 1) hr (by omega) (by decide) rfl (fun j hj => ?_)
 match j, hj with
 | 0, _ => exact h.symm
theorem lt_irrefl (a : List UInt8) : Op.bytesLess a a = false := by
 induction a with
 | nil => rfl
 | cons x l ih => simp [Op.bytesLess, ih]
theorem lt_trans : ∀ (a b c : List UInt8), Op.bytesLess a b = true → Op.bytesLess b c = true → Op.bytesLess a c = true
 | _, _, [], _, h => by cases ‹List UInt8› <;> simp [Op.bytesLess] at h
 | _, [], _ :: _, h, _ => by cases ‹List UInt8› <;> simp [Op.bytesLess] at h
 | [], _ :: _, _ :: _, _, _ => rfl
 | x :: a, y :: b, z :: c, h, k => by
  simp only [Op.bytesLess, Bool.or_eq_true, Bool.and_eq_true, decide_eq_true_eq, beq_iff_eq] at h k ⊢;rcases h with h | ⟨rfl, h⟩
  ·rcases k with k | ⟨rfl, k⟩
   ·exact .inl (UInt8.lt_trans h k)
   exact .inl h
  rcases k with k | ⟨rfl, k⟩
  ·exact .inl k
  exact .inr ⟨rfl, lt_trans a b c h k⟩
theorem lt_total : ∀ (a b : List UInt8), Op.bytesLess a b = false → Op.bytesLess b a = false → a = b
 | [], [], _, _ => rfl
 | [], _ :: _, h, _ => by simp [Op.bytesLess] at h
 | _ :: _, [], _, h => by simp [Op.bytesLess] at h
 | x :: a, y :: b, h, k => by
  simp only [Op.bytesLess, Bool.or_eq_false_iff, Bool.and_eq_false_iff, decide_eq_false_iff_not, beq_eq_false_iff_ne] at h k;have e : x = y := by
   rcases Nat.lt_trichotomy x.toNat y.toNat with e | e | e
   ·exact absurd (UInt8.lt_iff_toNat_lt.2 e) h.1
   ·exact UInt8.toNat_inj.1 e
   exact absurd (UInt8.lt_iff_toNat_lt.2 e) k.1
  subst e;rw [lt_total a b (by rcases h.2 with h | h; exact absurd rfl h; exact h) (by rcases k.2 with h | h; exact absurd rfl h; exact h)]
theorem lt_asymm {a b : List UInt8} (h : Op.bytesLess a b = true) : Op.bytesLess b a = false := by
 cases e : Op.bytesLess b a with
 | false => rfl
 | true => have := lt_trans a b a h e; rw [lt_irrefl] at this; cases this
theorem gt_eq (a b : List UInt8) : (!(Op.bytesLess a b || a == b)) = Op.bytesLess b a := by
 cases h1 : Op.bytesLess a b with
 | true => rw [lt_asymm h1]; rfl
 | false =>
  cases h2 : Op.bytesLess b a with
  | true =>
   have : (a == b) = false := beq_eq_false_iff_ne.2 fun e => by subst e; rw [lt_irrefl] at h2; cases h2
   rw [this]; rfl
  | false => rw [lt_total a b h1 h2]; simp
section
variable {α : Type}
end
section
variable {P : Program} {a : Act} {w : World} {o : Oper} {t u : TypeId} {x y : Operand}
theorem ex_sgtr {s s' : List UInt8} {b : Bool} (ho : o.op = .binOp .gtr t x y u) (hx : a.eval x = .string ⟨s.toArray⟩) (hy : a.eval y = .string ⟨s'.toArray⟩) (hb : Op.bytesLess s' s = b) : Ex P a o w (.bool b) w := by
 rw [← gt_eq] at hb;subst hb; unfold Ex; simp [execOp, ho, hx, hy, eqGuard, binOp, Op.stringOp]
end
abbrev Model := List (List UInt8 × List Ver)
section
variable {B : Base} {l : List Ent} {M : Model} {key : List UInt8} {k : Nat} {ok : Bool}
end
section
variable {P : Program} {t e : TypeId} {w : World}
theorem run_fromAny {ad : Option Addr} {n c l size : Nat} (ht : P.underlying t = some (.slice (P.elem t))) (hs : ∀ w, (sizeOf (P.elem t)).run P w = .ok size w) (h1 : l ≤ n) :
  (Instr.sliceAt t (.slice ad n c) (some (.int .i64 (l : Int))) none none).run P w = .ok (sliced ad l n c size) w := by
 rw [run_sliceAt_slice w t _ _ _ _ ht, run_slice_l w t _ n c ht .i64 l (by omega) (by omega), hs];simp only [Result.andThen, Int.toNat_natCast]
theorem run_hi {g off n c h size : Nat} (ht : P.underlying t = some (.slice (P.elem t))) (hs : ∀ w, (sizeOf (P.elem t)).run P w = .ok size w) (h1 : h ≤ c) :
  (Instr.sliceAt t (.slice (some ⟨g, off, none⟩) n c) none (some (.int .i64 (h : Int))) none).run P w = .ok (.slice (some ⟨g, off, none⟩) h c) w := by
 rw [run_sliceAt_slice w t _ _ _ _ ht, run_slice_h w t _ n c ht .i64 h (by omega) (by omega), hs];simp only [Result.andThen, sliced, Int.toNat_natCast, Option.map_some, addr_add, Nat.zero_mul, Nat.add_zero, Nat.sub_zero, ite_self]
end
theorem row_load {w : World} {e : TypeId} {size n c b j : Nat} {xs : List Value} {v : Value} (h : w.ownsRow 0 e size (.slice (some ⟨b, 0, none⟩) n c) n xs) (hj : xs[j]? = some v) : w.cell? ⟨b, 0 + j, none⟩ = some v := by
 rcases h.2 with ⟨h1, -⟩ | ⟨g, cap, cur, h1, -, hg, -, -, -, htake⟩
 ·cases h1
 simp only [Value.slice.injEq, Option.some.injEq, Addr.mk.injEq] at h1;obtain ⟨⟨rfl, -, -⟩, -, -⟩ := h1;rw [cell_of_row w b (0 + j) cur e (0, 0) hg, Nat.zero_add];have hjl : j < n * size := by have := (List.getElem?_eq_some_iff.1 hj).1; have := h.1; omega
 rw [← htake, List.getElem?_take_of_lt hjl] at hj;rw [← Array.getElem?_toList]; exact hj
theorem row_some {w : World} {e : TypeId} {size n c : Nat} {ad : Option Addr} {xs : List Value} (h : w.ownsRow 0 e size (.slice ad n c) n xs) (hn : 0 < n) : ∃ b, ad = some ⟨b, 0, none⟩ := by
 rcases h.2 with ⟨-, h2⟩ | ⟨g, cap, cur, h1, -⟩
 ·omega
 simp only [Value.slice.injEq] at h1;exact ⟨g, h1.1⟩
theorem rdW_cell {B : Base} {b : Nat} {L : List Value} {t : TypeId} : RdW B [Res.cell b L t] (some ⟨b, 0, none⟩) L := fun i hi =>
 ⟨b, 0, rfl, fun _ _ _ _ hR hv => by rw [Blk.cell (hv.own _ (hR _ (List.mem_singleton.2 rfl)) : Blk _ b L t), Nat.zero_add, List.getElem?_eq_getElem hi]⟩
theorem Inv.storeRow {B : Base} {e : TypeId} {size n c b j : Nat} {xs : List Value} {v : Value} {H : List Res} {w : World} (hv : Inv B (Res.row e size (.slice (some ⟨b, 0, none⟩) n c) n xs :: H) w) (hj : j < xs.length) :
  ∃ L : List Value, Blk w b L e ∧ j < L.length ∧ Inv B (Res.row e size (.slice (some ⟨b, 0, none⟩) n c) n (xs.set j v) :: H) (setBlk w b (L.set j v)) := by
 have hlen := (hv.head : World.ownsRow _ _ _ _ _ _ _).1;obtain ⟨L, h1, h2, h3, h4, hc⟩ := hv.rowCell;have hle : n * size ≤ c * size := Nat.mul_le_mul_right _ h3;refine ⟨L, hc.head, by omega, ?_⟩;have := (hc.put (L.set j v)).cellRow (n := n) (c := c) (size := size) (by rw [List.length_set, h1]) h3 h4;rw [List.take_set, h2] at this;exact this
section
variable {F : Fence} {n : Nat} {P : Program} {ops : Array Oper} {Q : Exit → Act → World → Prop} {a : Act} {w : World} {rest : List Oper} {o : Oper} {v zv : Value} {B : Base} {H : List Res} {t e u : TypeId} {x y : Operand} {bytes size : Nat} {J : List Value → World → Prop} {vals : List Value}
theorem sl_storeRow {b c m j : Nat} {xs : List Value} (hF : ∀ f, F.fn f) (hg : Region.wanted o (yielded ops a.tmps) = true) (ho : o.op = .store t x y) (hx : a.eval x = .pointer (some ⟨b, j, none⟩)) (hy : a.eval y = v) (hv : Inv B (Res.row e size (.slice (some ⟨b, 0, none⟩) m c) m xs :: H) w) (hz : (P.info? t).map (·.size) = some 1)
  (hj : j < xs.length) (hc : v.cells = #[v]) (h1 : v.oneCell' = true) (h : ∀ w', Inv B (Res.row e size (.slice (some ⟨b, 0, none⟩) m c) m (xs.set j v) :: H) w' → wpListIn F n P ops Q rest (a.put o.dst undef) w') : wpListIn F n P ops Q (o :: rest) a w := by
 obtain ⟨L, h2, h3, h4⟩ := hv.storeRow (v := v) hj;exact wpi_exUG hF hg (by unfold isDefer; rw [ho]) (ex_store ho hx hy (run_store1 hz h2 h3 hc h1)) (h _ h4)
theorem mem_storeRow {b c m j : Nat} {xs : List Value} (hg : Region.wanted o (yielded ops a.tmps) = true) (ho : o.op = .store t x y) (hx : a.eval x = .pointer (some ⟨b, j, none⟩)) (hy : a.eval y = v) (hv : Inv B (Res.row e size (.slice (some ⟨b, 0, none⟩) m c) m xs :: H) w) (hz : (P.info? t).map (·.size) = some 1)
  (hj : j < xs.length) (hc : v.cells = #[v]) (h1 : v.oneCell' = true) (h : ∀ w', Inv B (Res.row e size (.slice (some ⟨b, 0, none⟩) m c) m (xs.set j v) :: H) w' → J (vals ++ [undef]) w') : StepMem P ops J Q o a w vals := by
 obtain ⟨L, h2, h3, h4⟩ := hv.storeRow (v := v) hj;exact ExU.mem (ex_store ho hx hy (run_store1 hz h2 h3 hc h1)) hg (h _ h4)
theorem mem_rowAgg {L : List Value} (hg : Region.wanted o (yielded ops a.tmps) = true) (ho : o.op = .buildSlice t 1 #[(0, x)]) (hx : a.eval x = .agg L.toArray) (hv : Inv B H w) (E : Elem P t e zv size bytes) (hL : L.length = size) (hk : size * 1 ≤ 16777216)
  (h : ∀ b w', Inv B (Res.cell b L e :: H) w' → J (vals ++ [.slice (some ⟨b, 0, none⟩) 1 1]) w') : StepMem P ops J Q o a w vals :=
 Ex.mem (ex_row1 ho hx (run_row1 E L hL hk)) hg (h _ _ (hv.alloc L e))
theorem mem_row2 {v1 v2 : Value} (hg : Region.wanted o (yielded ops a.tmps) = true) (ho : o.op = .buildSlice t 2 #[(0, x), (1, y)]) (hx : a.eval x = v1) (hy : a.eval y = v2) (hv : Inv B H w)
  (hr : ∀ w, (Instr.buildSlice t 2 #[(0, v1), (1, v2)]).run P w = .ok (.slice (some ⟨w.heap.size, 0, none⟩) 2 2) (w.alloc (.cells [v1, v2].toArray e)))
  (h : ∀ b w', Inv B (Res.cell b [v1, v2] e :: H) w' → J (vals ++ [.slice (some ⟨b, 0, none⟩) 2 2]) w') : StepMem P ops J Q o a w vals :=
 Ex.mem (by unfold Ex; simp [execOp, ho, hx, hy, hr]) hg (h _ _ (hv.alloc [v1, v2] e))
theorem sl_clearAt (i : Nat) {g off m c : Nat} {pre mid post : List Value} (hF : ∀ f, F.fn f) (hg : Region.wanted o (yielded ops a.tmps) = true) (ho : o.op = .call { callee := .builtin .clear, args := #[x], argTypes := #[t] }) (hx : a.eval x = .slice (some ⟨g, off, none⟩) m c) (E : Elem P t u zv size bytes) (hz1 : ∀ v ∈ zv.cells.toList, v.oneCell' = true)
  (hv : Inv B H w) {L : List Value} (hi : H[i]? = some (Res.cell g L e)) (hL : L = pre ++ mid ++ post) (hoff : pre.length = off) (hm : mid.length = m * size)
  (h : ∀ zs w', zs.length = mid.length → Inv B (H.set i (Res.cell g (pre ++ zs ++ post) e)) w' → wpListIn F n P ops Q rest (a.put o.dst (.tuple #[])) w') : wpListIn F n P ops Q (o :: rest) a w := by
 subst hL hoff;obtain ⟨ht, ⟨inf, hinf, hz, hs, hby⟩, hzs, hpos⟩ := E;cases m with
 | zero =>
  have hmid : mid = [] := List.eq_nil_of_length_eq_zero (by simpa using hm);have hex : Ex P a o w (.tuple #[]) w := by
   unfold Ex; simp [execOp, ho, resolve, invoke, builtin, hx, Builtin.clear_, run_underlying ht]
  refine wpi_exG hF hg (by unfold isDefer; rw [ho]) hex (h mid w rfl ?_);have := hv.putAt i hi (pre ++ mid ++ post);have e1 : setBlk w g (pre ++ mid ++ post) = w := setRow_self w g _ e (0, 0) (hv.get i hi : Blk _ _ _ _);rw [e1] at this;exact this
 | succ m =>
  have hzc : (Builtin.zeroCells zv.cells (m + 1)).toList.length = mid.length := by
   rw [Array.length_toList, size_zeroCells, hzs, hm]
  have hone : ∀ v ∈ (Builtin.zeroCells zv.cells (m + 1)).toList, v.oneCell' = true := by
   intro v hvm;simp only [Builtin.zeroCells, Array.toList_map, List.mem_map] at hvm;obtain ⟨k, -, rfl⟩ := hvm;have hk : k % zv.cells.size < zv.cells.size := Nat.mod_lt _ (by omega);rw [getElem!_pos zv.cells (k % zv.cells.size) hk];exact hz1 _ (by simp)
  have hst := run_storeCells_at P g pre.length e (Builtin.zeroCells zv.cells (m + 1)).toList 0 _ w (hv.get i hi : Blk _ _ _ _) (by rw [hzc]; simp) hone;have e1 : ((pre ++ mid ++ post).take (pre.length + 0)) ++ (Builtin.zeroCells zv.cells (m + 1)).toList ++ ((pre ++ mid ++ post).drop (pre.length + 0 + (Builtin.zeroCells zv.cells (m + 1)).toList.length)) = pre ++ (Builtin.zeroCells zv.cells (m + 1)).toList ++ post := by
   rw [hzc, List.append_assoc pre mid post]
   simp
  have hst' : (storeCells ⟨g, pre.length, none⟩ (Builtin.zeroCells zv.cells (m + 1)).toList 0).run P w = .ok () (setBlk w g (pre ++ (Builtin.zeroCells zv.cells (m + 1)).toList ++ post)) := by
   rw [hst];simp only [setBlk];rw [e1]
  have hex : Ex P a o w (.tuple #[]) (setBlk w g (pre ++ (Builtin.zeroCells zv.cells (m + 1)).toList ++ post)) := by
   unfold Ex
   simp [execOp, ho, resolve, invoke, builtin, hx, Builtin.clear_, run_underlying ht, zeroValue, typeInfo, hinf, hz, hst']
  exact wpi_exG hF hg (by unfold isDefer; rw [ho]) hex (h _ _ hzc (hv.putAt i hi _))
end
def Res.star (K : List Res) : Res where
 fp := K.flatMap Res.fp
 holds w := (∀ r ∈ K, r.holds w) ∧ (K.flatMap Res.fp).Nodup
 stab w w' h hw := ⟨fun r hr => r.stab w w' (fun b hb => h b (List.mem_flatMap.2 ⟨r, hr, hb⟩)) (hw.1 r hr), hw.2⟩
theorem Inv.star {B : Base} {K H : List Res} {w : World} (hv : Inv B (K ++ H) w) : Inv B (Res.star K :: H) w := by
 have hd := hv.dis;rw [List.flatMap_append, List.nodup_append] at hd;refine ⟨hv.base, fun r hr => ?_, fun r hr b hb => ?_, ?_, fun r hr b hb => ?_⟩
 ·rcases List.mem_cons.1 hr with rfl | hr
  ·exact ⟨fun r hr => hv.own r (List.mem_append_left _ hr), hd.1⟩
  exact hv.own r (List.mem_append_right _ hr)
 ·rcases List.mem_cons.1 hr with rfl | hr
  ·obtain ⟨q, h1, h2⟩ := List.mem_flatMap.1 hb;exact hv.lt q (List.mem_append_left _ h1) b h2
  exact hv.lt r (List.mem_append_right _ hr) b hb
 ·rw [List.flatMap_cons];exact List.nodup_append.2 hd
 rcases List.mem_cons.1 hr with rfl | hr
 ·obtain ⟨q, h1, h2⟩ := List.mem_flatMap.1 hb;exact hv.out q (List.mem_append_left _ h1) b h2
 exact hv.out r (List.mem_append_right _ hr) b hb
theorem Inv.unstar {B : Base} {K H : List Res} {w : World} (hv : Inv B (Res.star K :: H) w) : Inv B (K ++ H) w := by
 have hd := hv.dis;rw [List.flatMap_cons] at hd;have hh := hv.head;refine ⟨hv.base, fun r hr => ?_, fun r hr b hb => ?_, ?_, fun r hr b hb => ?_⟩
 ·rcases List.mem_append.1 hr with hr | hr
  ·exact hh.1 r hr
  exact hv.own r (List.mem_cons_of_mem _ hr)
 ·rcases List.mem_append.1 hr with hr | hr
  ·exact hv.lt _ List.mem_cons_self b (List.mem_flatMap.2 ⟨r, hr, hb⟩)
  exact hv.lt r (List.mem_cons_of_mem _ hr) b hb
 ·rw [List.flatMap_append];exact hd
 rcases List.mem_append.1 hr with hr | hr
 ·exact hv.out _ List.mem_cons_self b (List.mem_flatMap.2 ⟨r, hr, hb⟩)
 exact hv.out r (List.mem_cons_of_mem _ hr) b hb
section
variable {ti tb te : TypeId} {p : Nat} {v : Value} {n : Int} {X : List (List Ent)} {bvs : List Value} {B : Base} {H : List Res} {w : World}
end
section
variable {B : Base} {X X' : List (List Ent)} {M : Model} {key : List UInt8} {i j : Nat} {l : List Ver} {q : Value}
end
theorem Only.putObjL (w : World) (l : Nat) (o : Obj) : Only [l] w (w.putObj l o) :=
 ⟨rfl, rfl, rfl, by simp [World.putObj], fun k _ hk => World.putObj_heap_other (fun e => hk (by simp [e]))⟩
def Res.keys (b : Nat) (ks : List (List UInt8)) (m : Int) : Res where
 fp := [b]
 holds w := ∃ (es : Array MapEntry) (clock : Nat), w.heap[b]? = some (.map es clock) ∧ es.toList.map (·.key) = ks.map strV ∧ ∀ e ∈ es.toList, ∃ c : Int, e.val = .int .i64 c ∧ 0 ≤ c ∧ c ≤ m
 stab w w' h := by
  rintro ⟨es, clock, h1, h2, h3⟩;exact ⟨es, clock, (h b (by simp)).trans h1, h2, h3⟩
theorem strV_beq (a b : List UInt8) : ((⟨a.toArray⟩ : ByteArray) == ⟨b.toArray⟩) = decide (a = b) := by
 show (a.toArray == b.toArray) = _;by_cases h : a = b
 ·subst h; simp
 rw [decide_eq_false h];exact beq_eq_false_iff_ne.2 fun e => h (by simpa using e)
theorem findNow_str (k : List UInt8) : ∀ (es : List MapEntry) (ks : List (List UInt8)) (n : Nat), es.map (·.key) = ks.map strV →
  (k ∉ ks ∧ Instr.findNow .string (strV k) es n = some none) ∨ (k ∈ ks ∧ ∃ i e, es[i]? = some e ∧ e.key = strV k ∧ Instr.findNow .string (strV k) es n = some (some (n + i, e.val)))
 | [], [], n, _ => .inl ⟨by simp, rfl⟩
 | e :: es, k' :: ks, n, h => by
  simp only [List.map_cons, List.cons.injEq] at h;obtain ⟨h1, h2⟩ := h;have hs : Instr.sameNow .string (strV k) e.key = some (decide (k = k')) := by
   rw [h1];show some ((⟨k.toArray⟩ : ByteArray) == ⟨k'.toArray⟩) = _;rw [strV_beq]
  by_cases hk : k = k'
  ·subst hk;refine .inr ⟨List.mem_cons_self, 0, e, rfl, h1, ?_⟩
   simp [Instr.findNow, hs]
  rcases findNow_str k es ks (n + 1) h2 with ⟨h3, h4⟩ | ⟨h3, i, e', h4, h5, h6⟩
  ·exact .inl ⟨by simp [hk, h3], by simp [Instr.findNow, hs, hk, h4]⟩
  exact .inr ⟨List.mem_cons_of_mem _ h3, i + 1, e', by simpa using h4, h5, by
   simp only [Instr.findNow, hs, hk, decide_false, h6];rw [show n + 1 + i = n + (i + 1) by omega]⟩
 | [], _ :: _, _, h => by simp at h
 | _ :: _, [], _, h => by simp at h
def addKey (ks : List (List UInt8)) (k : List UInt8) : List (List UInt8) := if k ∈ ks then ks else ks ++ [k]
section
variable {P : Program} {t kt et : TypeId} {w : World} {b : Nat} {ks : List (List UInt8)} {m : Int} {k : List UInt8}
theorem check_succ (hk : P.underlying kt = some .string) (n : Nat) (e : Bool) (s : ByteArray) (w : World) : (Instr.checkKey e (n + 1) kt (.string s)).run P w = .ok () w := by
 simp [Instr.checkKey, run_underlying hk]
theorem run_checkStr (hk : P.underlying kt = some .string) (e : Bool) (s : ByteArray) (w : World) : (Instr.checkKey e 10000 kt (.string s)).run P w = .ok () w := by
 exact check_succ hk 9999 e s w
theorem run_findStr (hk : P.underlying kt = some .string) (es : List MapEntry) (r : Option (Nat × Value)) (h : Instr.findNow .string (strV k) es 0 = some r) (w : World) : (Instr.findKey kt (strV k) es).run P w = .ok r w := by
 simp [Instr.findKey, run_underlying hk, h]
theorem run_updStr (ht : P.underlying t = some (.map kt et)) (hk : P.underlying kt = some .string) (h : (Res.keys b ks m).holds w) {c m' : Int} (hc : 0 ≤ c ∧ c ≤ m') (hm : m ≤ m') : ∃ w', (Instr.mapUpdate t (.map (some b)) (strV k) (.int .i64 c)).run P w = .ok () w' ∧ Only [b] w w' ∧ (Res.keys b (addKey ks k) m').holds w' := by
 obtain ⟨es, clock, h1, h2, h3⟩ := h;have hset : ∀ o : Obj, (setObj b o).run P w = .ok () (w.putObj b o) := fun o => by
  simp [setObj, Sem.run, h1, World.putObj]
 have hnew : ∀ o : Obj, (w.putObj b o).heap[b]? = some o := fun o => by
  have hb := (Array.getElem?_eq_some_iff.1 h1).1
  simp [World.putObj, hb]
 rcases findNow_str k es.toList ks 0 h2 with ⟨h4, h5⟩ | ⟨h4, i, e, h6, h7, h5⟩
 ·refine ⟨_, ?_, Only.putObjL w b (.map (es.push { key := strV k, val := .int .i64 c, born := clock }) (clock + 1)), es.push { key := strV k, val := .int .i64 c, born := clock }, clock + 1, hnew _, ?_, ?_⟩
  ·simp [Instr.mapUpdate, run_underlying ht, getObj, Sem.run, h1, run_checkStr hk, run_findStr hk _ _ h5, hset]
  ·simp [addKey, h4, h2]
  intro e he;simp only [Array.toList_push, List.mem_append, List.mem_singleton] at he;rcases he with he | he
  ·obtain ⟨c', q1, q2, q3⟩ := h3 e he;exact ⟨c', q1, q2, Int.le_trans q3 hm⟩
  exact ⟨c, by rw [he], hc.1, hc.2⟩
 have hi := (List.getElem?_eq_some_iff.1 h6).1;have hsame : (Instr.keyThatStays e.key (strV k)).run P w = .ok (strV k) w := by
  have hb : Instr.sameBits 10000 (strV k) (strV k) = true := by
   show ((⟨k.toArray⟩ : ByteArray) == ⟨k.toArray⟩) = true;rw [strV_beq]; simp
  rw [h7];simp only [Instr.keyThatStays, hb, if_true]
  rfl
 have hget : ((es[i]?).map (·.key)).getD (strV k) = e.key := by
  rw [← Array.getElem?_toList, h6]; rfl
 refine ⟨_, ?_, Only.putObjL w b (.map (es.modify i fun e => { e with key := strV k, val := .int .i64 c }) clock), es.modify i fun e => { e with key := strV k, val := .int .i64 c }, clock, hnew _, ?_, ?_⟩
 ·rw [Nat.zero_add] at h5;simp only [Instr.mapUpdate, Sem.run_bind, run_underlying ht, Result.andThen_ok]
  simp [getObj, Sem.run, h1, run_checkStr hk, run_findStr hk _ _ h5, hget, hsame, hset]
 ·rw [addKey, if_pos h4, ← h2];apply List.ext_getElem?;intro j;simp only [Array.toList_modify, List.getElem?_map, List.getElem?_modify];by_cases hj : i = j
  ·subst hj;rw [h6]; simp [h7]
  simp [hj]
 intro e' he';obtain ⟨j, hj⟩ := List.mem_iff_getElem?.1 he';simp only [Array.toList_modify, List.getElem?_modify] at hj;by_cases hij : i = j
 ·subst hij;rw [h6] at hj
  simp at hj
  exact ⟨c, by rw [← hj], hc.1, hc.2⟩
 simp [hij] at hj
 obtain ⟨c', q1, q2, q3⟩ := h3 e' (List.mem_of_getElem? (by rw [← Array.getElem?_toList] at hj; exact hj));exact ⟨c', q1, q2, Int.le_trans q3 hm⟩
end
section
variable {F : Fence} {n : Nat} {P : Program} {ops : Array Oper} {Q : Exit → Act → World → Prop} {a : Act} {w : World} {rest : List Oper} {o : Oper} {B : Base} {H : List Res} {t kt et : TypeId} {x y z : Operand} {b : Nat} {ks : List (List UInt8)} {m : Int} {k : List UInt8}
theorem sl_makeMap (hF : ∀ f, F.fn f) (hg : Region.wanted o (yielded ops a.tmps) = true) (ho : o.op = .makeMap t (some x)) (hx : a.eval x = .int .i64 m) (ht : P.underlying t = some (.map kt et)) (hv : Inv B H w)
  (h : ∀ b w', Inv B (Res.keys b [] 0 :: H) w' → wpListIn F n P ops Q rest (a.put o.dst (.map (some b))) w') : wpListIn F n P ops Q (o :: rest) a w := by
 have hr : (Instr.makeMap t (some (.int .i64 m))).run P w = .ok (.map (some w.heap.size)) (w.alloc (.map #[] 0)) := by
  simp [Instr.makeMap, run_underlying ht, asInt, asIntOf, newObj, Sem.run]
 have hex : Ex P a o w (.map (some w.heap.size)) (w.alloc (.map #[] 0)) := by
  unfold Ex; simp [execOp, ho, hx, hr]
 have hnew : (w.alloc (.map #[] 0)).heap[w.heap.size]? = some (.map #[] 0) := heap_alloc_new w _;refine wpi_exG hF hg (by unfold isDefer; rw [ho]) hex (h _ _ (hv.new ((Below.refl _ _).alloc (Nat.le_refl _) _) (Res.keys w.heap.size [] 0) ⟨#[], 0, hnew, rfl, fun e he => by simp at he⟩ (fun b hb => ?_) (by simp [Res.keys])));have : b = w.heap.size := by simpa [Res.keys] using hb
 subst this;exact ⟨Nat.le_refl _, (Array.getElem?_eq_some_iff.1 hnew).1⟩
theorem sl_updStr {c m' : Int} (hF : ∀ f, F.fn f) (hg : Region.wanted o (yielded ops a.tmps) = true) (ho : o.op = .mapUpdate t x y z) (hx : a.eval x = .map (some b)) (hy : a.eval y = strV k) (hz : a.eval z = .int .i64 c) (ht : P.underlying t = some (.map kt et)) (hk : P.underlying kt = some .string) (hv : Inv B (Res.keys b ks m :: H) w) (hc : 0 ≤ c ∧ c ≤ m') (hm : m ≤ m')
  (h : ∀ w', Inv B (Res.keys b (addKey ks k) m' :: H) w' → wpListIn F n P ops Q rest (a.put o.dst undef) w') : wpListIn F n P ops Q (o :: rest) a w := by
 obtain ⟨w', h1, h2, h3⟩ := run_updStr (k := k) ht hk hv.head hc hm;refine wpi_exUG hF hg (by unfold isDefer; rw [ho]) (by unfold ExU; simp [execOp, ho, hx, hy, hz, h1]) (h w' (hv.upd (Res.keys b (addKey ks k) m') h2 h3 (fun b' hb => .inl hb) (fun b' hb => ?_) (by simp [Res.keys])));exact Nat.lt_of_lt_of_le (hv.headLt b' hb) h2.size
theorem ex_lenMap (i : Nat) (ht : P.underlying t = some (.map kt et)) (ho : o.op = .call { callee := .builtin .len, args := #[x], argTypes := #[t] }) (hx : a.eval x = .map (some b)) (hv : Inv B H w) (hi : H[i]? = some (Res.keys b ks m)) : Ex P a o w (.int .i64 (ks.length : Int)) w := by
 obtain ⟨es, clock, h1, h2, -⟩ := (hv.get i hi : (Res.keys b ks m).holds w);have hl : es.size = ks.length := by have := congrArg List.length h2; simpa using this
 unfold Ex
 simp [execOp, ho, hx, resolve, invoke, builtin, Builtin.len_, run_underlying ht, getObj, Sem.run, h1, goInt, hl]
end
def keysOf (l : List (List UInt8)) : List (List UInt8) := l.foldl addKey []
theorem keysOf_snoc (l : List (List UInt8)) (k : List UInt8) : keysOf (l ++ [k]) = addKey (keysOf l) k := by simp [keysOf]
theorem keysOf_mem (l : List (List UInt8)) : ∀ k, k ∈ keysOf l ↔ k ∈ l := by
 refine snocInd (p := fun l => ∀ k, k ∈ keysOf l ↔ k ∈ l) (fun k => Iff.rfl) (fun l c ih k => ?_) l;rw [keysOf_snoc, addKey]
 split
 ·rename_i h
  rw [ih] at h;rw [ih, List.mem_append, List.mem_singleton]
  constructor
  ·exact .inl
  rintro (h2 | rfl)
  ·exact h2
  exact h
 rw [List.mem_append, List.mem_append, ih]
theorem keysOf_len (l : List (List UInt8)) : (keysOf l).length ≤ l.length ∧ ((keysOf l).length = l.length ↔ l.Nodup) := by
 refine snocInd (p := fun l => (keysOf l).length ≤ l.length ∧ ((keysOf l).length = l.length ↔ l.Nodup)) ⟨Nat.le_refl _, by simp [keysOf]⟩ (fun l c ih => ?_) l;have hn : (l ++ [c]).Nodup ↔ l.Nodup ∧ c ∉ l := by
  rw [List.nodup_append]
  constructor
  ·rintro ⟨h1, -, h2⟩; exact ⟨h1, fun h => h2 c h c (by simp) rfl⟩
  rintro ⟨h1, h2⟩; exact ⟨h1, by simp, fun a ha b hb => by simp at hb; subst hb; intro e; subst e; exact h2 ha⟩
 rw [keysOf_snoc, addKey, List.length_append, hn]
 split
 ·rename_i h
  rw [keysOf_mem] at h;refine ⟨by simp; omega, ?_⟩
  constructor
  ·intro h2; simp at h2; have := ih.1; omega
  rintro ⟨-, h2⟩; exact absurd h h2
 rename_i h
 rw [keysOf_mem] at h;rw [List.length_append];refine ⟨by simp; exact ih.1, ?_⟩;simp only [List.length_cons, List.length_nil, Nat.zero_add, Nat.add_right_cancel_iff, ih.2, h, not_false_iff, and_true]
def lookA {α : Type} : List (List UInt8 × α) → List UInt8 → Option α
 | [], _ => none
 | e :: l, k => if e.1 = k then some e.2 else lookA l k
def updA {α : Type} : List (List UInt8 × α) → List UInt8 → α → List (List UInt8 × α)
 | [], k, v => [(k, v)]
 | e :: l, k, v => if e.1 = k then (k, v) :: l else e :: updA l k v
theorem look_upd {α : Type} : ∀ (l : List (List UInt8 × α)) (k k' : List UInt8) (v : α), lookA (updA l k v) k' = if k = k' then some v else lookA l k'
 | [], k, k', v => by simp [updA, lookA]
 | e :: l, k, k', v => by
  unfold updA;by_cases h : e.1 = k
  ·rw [if_pos h];by_cases h2 : k = k'
   ·simp [lookA, h2]
   simp [lookA, h2, h]
  rw [if_neg h];by_cases h2 : k = k'
  ·subst h2; simp [lookA, h, look_upd l k k v]
  by_cases h3 : e.1 = k'
  ·simp [lookA, h3, h2]
  simp [lookA, h3, h2, look_upd l k k' v]
theorem look_none {α : Type} : ∀ (l : List (List UInt8 × α)) (k : List UInt8), lookA l k = none ↔ k ∉ l.map (·.1)
 | [], k => by simp [lookA]
 | e :: l, k => by
  by_cases h : e.1 = k
  ·simp [lookA, h]
  simp [lookA, h, look_none l k, Ne.symm h]
theorem updA_keys {α : Type} : ∀ (l : List (List UInt8 × α)) (k : List UInt8) (v : α), (updA l k v).map (·.1) = addKey (l.map (·.1)) k
 | [], k, v => rfl
 | e :: l, k, v => by
  unfold updA addKey;by_cases h : e.1 = k
  ·simp [h]
  have ih := updA_keys l k v;unfold addKey at ih;simp only [h, if_false, List.map_cons, ih, List.mem_cons, Ne.symm h, false_or]
  split <;> rfl
theorem addKey_len (l : List (List UInt8)) (k : List UInt8) : (addKey l k).length ≤ l.length + 1 := by
 unfold addKey; split <;> simp
theorem updA_len {α : Type} (l : List (List UInt8 × α)) (k : List UInt8) (v : α) : (updA l k v).length ≤ l.length + 1 := by
 have h := congrArg List.length (updA_keys l k v);have h2 := addKey_len (l.map (·.1)) k;simp only [List.length_map] at h h2;omega
theorem updA_mem {α : Type} : ∀ (l : List (List UInt8 × α)) (k : List UInt8) (v : α) (x : List UInt8 × α), x ∈ updA l k v → x = (k, v) ∨ x ∈ l
 | [], k, v, x, h => by simp [updA] at h; exact .inl h
 | e :: l, k, v, x, h => by
  unfold updA at h
  split at h
  ·rcases List.mem_cons.1 h with rfl | h
   ·exact .inl rfl
   exact .inr (List.mem_cons_of_mem _ h)
  rcases List.mem_cons.1 h with rfl | h
  ·exact .inr List.mem_cons_self
  rcases updA_mem l k v x h with h | h
  ·exact .inl h
  exact .inr (List.mem_cons_of_mem _ h)
def kv (x : List UInt8 × Value) : Value × Value := (strV x.1, x.2)
def Res.vmap (b : Nat) (es : List (List UInt8 × Value)) : Res where
 fp := [b]
 holds w := ∃ (E : Array MapEntry) (clock : Nat), w.heap[b]? = some (.map E clock) ∧ MapKept.Stamped E clock ∧ E.toList.map (fun e => (e.key, e.val)) = es.map kv
 stab w w' h := by
  rintro ⟨E, clock, h1, h2, h3⟩;exact ⟨E, clock, (h b (by simp)).trans h1, h2, h3⟩
theorem strV_inj {a b : List UInt8} (h : strV a = strV b) : a = b := by simpa [strV] using h
theorem find_assoc (k : List UInt8) : ∀ (E : List MapEntry) (es : List (List UInt8 × Value)) (n : Nat), E.map (fun e => (e.key, e.val)) = es.map kv →
  (lookA es k = none ∧ (∀ v, updA es k v = es ++ [(k, v)]) ∧ Instr.findNow .string (strV k) E n = some none) ∨
  (∃ i e, E[i]? = some e ∧ e.key = strV k ∧ lookA es k = some e.val ∧ (∀ v, updA es k v = es.set i (k, v)) ∧ Instr.findNow .string (strV k) E n = some (some (n + i, e.val)))
 | [], [], n, _ => .inl ⟨rfl, fun _ => rfl, rfl⟩
 | e :: E, x :: es, n, h => by
  simp only [List.map_cons, List.cons.injEq, kv, Prod.mk.injEq] at h;obtain ⟨⟨h1, h1'⟩, h2⟩ := h;have hs : Instr.sameNow .string (strV k) e.key = some (decide (k = x.1)) := by
   rw [h1];show some ((⟨k.toArray⟩ : ByteArray) == ⟨x.1.toArray⟩) = _;rw [strV_beq]
  by_cases hk : x.1 = k
  ·refine .inr ⟨0, e, rfl, by rw [h1, hk], by simp [lookA, hk, h1'], fun v => by simp [updA, hk], ?_⟩
   simp [Instr.findNow, hs, hk]
  have hk' : ¬ k = x.1 := fun e => hk e.symm
  rcases find_assoc k E es (n + 1) h2 with ⟨h3, h4, h5⟩ | ⟨i, e', h4, h5, h6, h7, h8⟩
  ·exact .inl ⟨by simp [lookA, hk, h3], fun v => by simp [updA, hk, h4], by simp [Instr.findNow, hs, hk', h5]⟩
  exact .inr ⟨i + 1, e', by simpa using h4, h5, by simp [lookA, hk, h6], fun v => by simp [updA, hk, h7], by
   simp only [Instr.findNow, hs, hk', decide_false, h8];rw [show n + 1 + i = n + (i + 1) by omega]⟩
 | [], _ :: _, _, h => by simp at h
 | _ :: _, [], _, h => by simp at h
section
variable {P : Program} {t kt et : TypeId} {w : World} {b : Nat} {es : List (List UInt8 × Value)} {k : List UInt8} {z v : Value}
theorem run_lookV (ok : Bool) (ht : P.underlying t = some (.map kt et)) (hk : P.underlying kt = some .string) (hz : ∀ w, (zeroValue et).run P w = .ok z w) (h : (Res.vmap b es).holds w) :
  (Instr.lookup t (.map (some b)) (strV k) ok).run P w = .ok (if ok then .tuple #[(lookA es k).getD z, .bool (lookA es k).isSome] else (lookA es k).getD z) w := by
 obtain ⟨E, clock, h1, -, h2⟩ := h;rcases find_assoc k E.toList es 0 h2 with ⟨h3, -, h5⟩ | ⟨i, e, -, -, h3, -, h5⟩
 ·cases ok <;> simp [Instr.lookup, run_underlying ht, getObj, Sem.run, h1, run_checkStr hk, run_findStr hk _ _ h5, hz, h3]
 cases ok <;> simp [Instr.lookup, run_underlying ht, getObj, Sem.run, h1, run_checkStr hk, run_findStr hk _ _ h5, h3]
theorem run_updV (ht : P.underlying t = some (.map kt et)) (hk : P.underlying kt = some .string) (h : (Res.vmap b es).holds w) (v : Value) : ∃ w', (Instr.mapUpdate t (.map (some b)) (strV k) v).run P w = .ok () w' ∧ Only [b] w w' ∧ (Res.vmap b (updA es k v)).holds w' := by
 obtain ⟨E, clock, h1, hst, h2⟩ := h;have hset : ∀ o : Obj, (setObj b o).run P w = .ok () (w.putObj b o) := fun o => by
  simp [setObj, Sem.run, h1, World.putObj]
 have hnew : ∀ o : Obj, (w.putObj b o).heap[b]? = some o := fun o => by
  have hb := (Array.getElem?_eq_some_iff.1 h1).1
  simp [World.putObj, hb]
 rcases find_assoc k E.toList es 0 h2 with ⟨h3, h4, h5⟩ | ⟨i, e, h6, h7, h3, h4, h5⟩
 ·refine ⟨_, ?_, Only.putObjL w b (.map (E.push { key := strV k, val := v, born := clock }) (clock + 1)), E.push { key := strV k, val := v, born := clock }, clock + 1, hnew _, MapKept.stamped_push hst (fun x hx e => ?_), ?_⟩
  ·simp [Instr.mapUpdate, run_underlying ht, getObj, Sem.run, h1, run_checkStr hk, run_findStr hk _ _ h5, hset]
  ·rw [look_none] at h3;obtain ⟨j, hj⟩ := List.mem_iff_getElem?.1 hx;have h9 := congrArg (fun l => l[j]?) h2;simp only [List.getElem?_map, hj, Option.map_some] at h9;cases hx2 : es[j]? with
   | none => rw [hx2] at h9; simp at h9
   | some y =>
    rw [hx2] at h9;simp only [Option.map_some, kv, Option.some.injEq, Prod.mk.injEq] at h9;exact h3 (List.mem_map.2 ⟨y, List.mem_of_getElem? hx2, strV_inj (h9.1.symm.trans e)⟩)
  rw [h4]; simp [h2, kv]
 have hsame : (Instr.keyThatStays e.key (strV k)).run P w = .ok (strV k) w := by
  have hb : Instr.sameBits 10000 (strV k) (strV k) = true := by
   show ((⟨k.toArray⟩ : ByteArray) == ⟨k.toArray⟩) = true;rw [strV_beq]; simp
  rw [h7];simp only [Instr.keyThatStays, hb, if_true]
  rfl
 have hget : ((E[i]?).map (·.key)).getD (strV k) = e.key := by
  rw [← Array.getElem?_toList, h6]; rfl
 refine ⟨_, ?_, Only.putObjL w b (.map (E.modify i fun e => { e with key := strV k, val := v }) clock), E.modify i fun e => { e with key := strV k, val := v }, clock, hnew _, ?_, ?_⟩
 ·rw [Nat.zero_add] at h5;simp only [Instr.mapUpdate, Sem.run_bind, run_underlying ht, Result.andThen_ok]
  simp [getObj, Sem.run, h1, run_checkStr hk, run_findStr hk _ _ h5, hget, hsame, hset]
 ·refine MapKept.stamped_modify hst i _ (fun _ _ => rfl) (fun e' _ he' => ?_);rw [← Array.getElem?_toList, h6] at he';cases he';exact h7.symm
 rw [h4];apply List.ext_getElem?;intro j;have hj9 := congrArg (fun l => l[j]?) h2;simp only [List.getElem?_map] at hj9;simp only [Array.toList_modify, List.getElem?_map, List.getElem?_modify, List.getElem?_set];by_cases hj : i = j
 ·subst hj;have hl : i < es.length := by
   have := (List.getElem?_eq_some_iff.1 h6).1;have h9 := congrArg List.length h2;simp only [List.length_map] at h9;omega
  rw [h6]; simp [hl, kv]
 simp only [hj, if_false];rw [← hj9];cases E.toList[j]? <;> rfl
end
section
variable {F : Fence} {n : Nat} {P : Program} {ops : Array Oper} {Q : Exit → Act → World → Prop} {a : Act} {w : World} {rest : List Oper} {o : Oper} {B : Base} {H : List Res} {t kt et : TypeId} {x y u : Operand} {b : Nat} {es : List (List UInt8 × Value)} {k : List UInt8} {z v : Value} {r r' : Res}
theorem vmap_new (hv : Inv B H w) : Inv B (Res.vmap w.heap.size [] :: H) (w.alloc (.map #[] 0)) := by
 have hnew : (w.alloc (.map #[] 0)).heap[w.heap.size]? = some (.map #[] 0) := heap_alloc_new w _;refine hv.new ((Below.refl _ _).alloc (Nat.le_refl _) _) (Res.vmap w.heap.size []) ⟨#[], 0, hnew, MapKept.stamped_empty 0, rfl⟩ (fun b hb => ?_) (by simp [Res.vmap]);have : b = w.heap.size := by simpa [Res.vmap] using hb
 subst this;exact ⟨Nat.le_refl _, (Array.getElem?_eq_some_iff.1 hnew).1⟩
theorem sl_newMapV (hF : ∀ f, F.fn f) (hg : Region.wanted o (yielded ops a.tmps) = true) (ho : o.op = .makeMap t none) (hv : Inv B H w)
  (h : ∀ b w', Inv B (Res.vmap b [] :: H) w' → wpListIn F n P ops Q rest (a.put o.dst (.map (some b))) w') : wpListIn F n P ops Q (o :: rest) a w := by
 have hr : (Instr.makeMap t none).run P w = .ok (.map (some w.heap.size)) (w.alloc (.map #[] 0)) := by
  simp [Instr.makeMap, newObj, Sem.run]
 have hex : Ex P a o w (.map (some w.heap.size)) (w.alloc (.map #[] 0)) := by
  unfold Ex; simp [execOp, ho, hr]
 exact wpi_exG hF hg (by unfold isDefer; rw [ho]) hex (h _ _ (vmap_new hv))
theorem ex_lookV (i : Nat) {ok : Bool} (ho : o.op = .lookup t x y ok) (hx : a.eval x = .map (some b)) (hy : a.eval y = strV k) (ht : P.underlying t = some (.map kt et)) (hk : P.underlying kt = some .string) (hz : ∀ w, (zeroValue et).run P w = .ok z w) (hv : Inv B H w) (hi : H[i]? = some (Res.vmap b es)) :
  Ex P a o w (if ok then .tuple #[(lookA es k).getD z, .bool (lookA es k).isSome] else (lookA es k).getD z) w := by
 unfold Ex
 simp [execOp, ho, hx, hy, run_lookV ok ht hk hz (hv.get i hi)]
theorem vmap_set : ∀ (i : Nat) (H : List Res), H[i]? = some r → (r' :: H.eraseIdx i).Perm (H.set i r')
 | 0, y :: H, h => by simp
 | i + 1, y :: H, h => by
  simp only [List.getElem?_cons_succ] at h;simp only [List.eraseIdx_cons_succ, List.set_cons_succ];exact (List.Perm.swap _ _ _).trans ((vmap_set i H h).cons y)
 | _, [], h => by simp at h
theorem mem_updV {J : List Value → World → Prop} {vals : List Value} (i : Nat) (hg : Region.wanted o (yielded ops a.tmps) = true) (ho : o.op = .mapUpdate t x y u) (hx : a.eval x = .map (some b)) (hy : a.eval y = strV k) (hz : a.eval u = v) (ht : P.underlying t = some (.map kt et)) (hk : P.underlying kt = some .string) (hv : Inv B H w) (hi : H[i]? = some (Res.vmap b es))
  (h : ∀ w', Inv B (H.set i (Res.vmap b (updA es k v))) w' → J (vals ++ [undef]) w') : StepMem P ops J Q o a w vals := by
 have hv' := hv.front i hi;obtain ⟨w', h1, h2, h3⟩ := run_updV (k := k) ht hk hv'.head v;have h9 : Inv B (Res.vmap b (updA es k v) :: H.eraseIdx i) w' := hv'.upd (Res.vmap b (updA es k v)) h2 h3 (fun b' hb => .inl hb) (fun b' hb => Nat.lt_of_lt_of_le (hv'.headLt b' hb) h2.size) (by simp [Res.vmap]);exact ExU.mem (by unfold ExU; simp [execOp, ho, hx, hy, hz, h1]) hg (h _ (h9.perm (vmap_set i H hi)))
theorem ex_lookS (i : Nat) (ho : o.op = .lookup t x y true) (hx : a.eval x = .map (some b)) (hy : a.eval y = strV k) (ht : P.underlying t = some (.map kt et)) (hk : P.underlying kt = some .string) (hz : ∀ w, (zeroValue et).run P w = .ok z w) (hv : Inv B H w) (hi : H[i]? = some (Res.vmap b es)) (hl : lookA es k = some v) :
  Ex P a o w (.tuple #[v, .bool true]) w := by
 have h := ex_lookV i ho hx hy ht hk hz hv hi;rw [hl] at h; exact h
theorem ex_lookN (i : Nat) (ho : o.op = .lookup t x y true) (hx : a.eval x = .map (some b)) (hy : a.eval y = strV k) (ht : P.underlying t = some (.map kt et)) (hk : P.underlying kt = some .string) (hz : ∀ w, (zeroValue et).run P w = .ok z w) (hv : Inv B H w) (hi : H[i]? = some (Res.vmap b es)) (hl : lookA es k = none) :
  Ex P a o w (.tuple #[z, .bool false]) w := by
 have h := ex_lookV i ho hx hy ht hk hz hv hi;rw [hl] at h; exact h
theorem sl_updV (hF : ∀ f, F.fn f) (hg : Region.wanted o (yielded ops a.tmps) = true) (ho : o.op = .mapUpdate t x y u) (hx : a.eval x = .map (some b)) (hy : a.eval y = strV k) (hz : a.eval u = v) (ht : P.underlying t = some (.map kt et)) (hk : P.underlying kt = some .string) (hv : Inv B (Res.vmap b es :: H) w)
  (h : ∀ w', Inv B (Res.vmap b (updA es k v) :: H) w' → wpListIn F n P ops Q rest (a.put o.dst undef) w') : wpListIn F n P ops Q (o :: rest) a w := by
 obtain ⟨w', h1, h2, h3⟩ := run_updV (k := k) ht hk hv.head v;refine wpi_exUG hF hg (by unfold isDefer; rw [ho]) (by unfold ExU; simp [execOp, ho, hx, hy, hz, h1]) (h w' (hv.upd (Res.vmap b (updA es k v)) h2 h3 (fun b' hb => .inl hb) (fun b' hb => ?_) (by simp [Res.vmap])));exact Nat.lt_of_lt_of_le (hv.headLt b' hb) h2.size
theorem ex_psame {tt : TypeId} {ad : Addr} (ht : P.underlying t = some (.pointer et)) (hi : (P.info? et).isSome = true) (ho : o.op = .binOp .eql t x y tt) (hx : a.eval x = .pointer (some ad)) (hy : a.eval y = .pointer (some ad)) : Ex P a o w (.bool true) w := by
 have hg : (eqGuard .eql t x y (.pointer (some ad)) (.pointer (some ad))).run P w = .ok () w := by simp [eqGuard]
 obtain ⟨j, hi⟩ := Option.isSome_iff_exists.1 hi;have hr := run_eql_ptr_same w ad ht hi;unfold Ex; simp [execOp, ho, hx, hy, hg, hr]
theorem ex_lenV (i : Nat) (ht : P.underlying t = some (.map kt et)) (ho : o.op = .call { callee := .builtin .len, args := #[x], argTypes := #[t] }) (hx : a.eval x = .map (some b)) (hv : Inv B H w) (hi : H[i]? = some (Res.vmap b es)) : Ex P a o w (.int .i64 (es.length : Int)) w := by
 obtain ⟨E, clock, h1, -, h2⟩ := (hv.get i hi : (Res.vmap b es).holds w);have hl : E.size = es.length := by have := congrArg List.length h2; simpa using this
 unfold Ex
 simp [execOp, ho, hx, resolve, invoke, builtin, Builtin.len_, run_underlying ht, getObj, Sem.run, h1, goInt, hl]
end
open Go.ChangeMaps Go.MapKept
abbrev Ents := List (List UInt8 × Value)
def Res.mit (it b : Nat) (es done : Ents) : Res where
 fp := [it, b]
 holds w := it ≠ b ∧ ∃ (E : Array MapEntry) (clock : Nat) (D : List MapEntry), w.heap[b]? = some (.map E clock) ∧ MapKept.Stamped E clock ∧ E.toList.map (fun e => (e.key, e.val)) = es.map kv ∧
  w.heap[it]? = some (.mapIter (some b) clock (D.map (·.born)).toArray clock) ∧ (∀ e ∈ D, e ∈ E.toList) ∧ (D.map (·.born)).Nodup ∧ D.map (fun e => (e.key, e.val)) = done.map kv
 stab w w' h := by
  rintro ⟨h0, E, clock, D, h1, h2, h3, h4, h5⟩;exact ⟨h0, E, clock, D, (h b (by simp)).trans h1, h2, h3, (h it (by simp)).trans h4, h5⟩
theorem kv_inj : ∀ {x y : List UInt8 × Value}, kv x = kv y → x = y
 | (a, b), (c, d), h => by
  simp only [kv, Prod.mk.injEq] at h;obtain ⟨h1, h2⟩ := h;rw [strV_inj h1, h2]
theorem kv_mem {E : List MapEntry} {es : Ents} (h : E.map (fun e => (e.key, e.val)) = es.map kv) {e : MapEntry} (he : e ∈ E) : ∃ x ∈ es, kv x = (e.key, e.val) := by
 have h1 : (e.key, e.val) ∈ E.map (fun e => (e.key, e.val)) := List.mem_map.2 ⟨e, he, rfl⟩;rw [h] at h1;exact List.mem_map.1 h1
theorem mem_kv {E : List MapEntry} {es : Ents} (h : E.map (fun e => (e.key, e.val)) = es.map kv) {x : List UInt8 × Value} (hx : x ∈ es) : ∃ e ∈ E, kv x = (e.key, e.val) := by
 have h1 : kv x ∈ es.map kv := List.mem_map.2 ⟨x, hx, rfl⟩;rw [← h] at h1;obtain ⟨e, he, h2⟩ := List.mem_map.1 h1;exact ⟨e, he, h2.symm⟩
theorem kv_keys {E : List MapEntry} {es : Ents} (h : E.map (fun e => (e.key, e.val)) = es.map kv) (hn : (E.map (·.key)).Nodup) : (es.map (·.1)).Nodup := by
 have h2 : (es.map (·.1)).map strV = E.map (·.key) := by
  rw [List.map_map, show strV ∘ (fun x : List UInt8 × Value => x.1) = Prod.fst ∘ kv from rfl, ← List.map_map, ← h, List.map_map]; rfl
 rw [← h2] at hn;exact List.Pairwise.imp (fun h9 e => h9 (by rw [e])) (List.pairwise_map.1 hn)
theorem nodup_fst {l : Ents} (h : (l.map (·.1)).Nodup) : l.Nodup := List.Pairwise.imp (fun h9 e => h9 (by rw [e])) (List.pairwise_map.1 h)
section
variable {P : Program} {t kt et : TypeId} {w : World} {it b : Nat} {es done : Ents} {k : List UInt8} {z v : Value}
theorem vmap_keys (h : (Res.vmap b es).holds w) : (es.map (·.1)).Nodup := by
 obtain ⟨E, clock, -, h2, h3⟩ := h;exact kv_keys h3 h2.2.2
theorem mit_facts (h : (Res.mit it b es done).holds w) : (es.map (·.1)).Nodup ∧ (done.map (·.1)).Nodup ∧ ∀ x ∈ done, x ∈ es := by
 obtain ⟨h0, E, clock, D, h1, h2, h3, h4, h6, h7, h8⟩ := h;have hk := ((MapKept.stamped_iff E clock).1 h2).2.2;refine ⟨kv_keys h3 h2.2.2, kv_keys h8 (List.pairwise_map.2 ?_), fun x hx => ?_⟩
 ·exact (List.pairwise_map.1 h7).imp_of_mem fun {e f} he hf hne heq => hne (by rw [entry_eq_of_key hk (h6 e he) (h6 f hf) heq])
 obtain ⟨e, he, hxe⟩ := mem_kv h8 hx;obtain ⟨y, hy, hye⟩ := kv_mem h3 (h6 e he);rw [kv_inj (hxe.trans hye.symm)];exact hy
theorem mit_lt (h : (Res.mit it b es done).holds w) : done.length ≤ es.length := by
 obtain ⟨-, h2, h3⟩ := mit_facts h;exact (nodup_fst h2).length_le_of_subset h3
theorem mit_left (h : (Res.mit it b es done).holds w) : w.rangeLeft b it + done.length = es.length := by
 obtain ⟨h0, E, clock, D, h1, h2, h3, h4, h6, h7, h8⟩ := h;have e1 : w.rangeLeft b it = (leftOf E (D.map (·.born)).toArray).size := by simp only [World.rangeLeft, h1, h4]
 have e2 : (leftOf E (D.map (·.born)).toArray).size = (E.toList.filter fun e => !(D.map (·.born)).contains e.born).length := by
  unfold leftOf;rw [← Array.length_toList, Array.toList_filter]
  simp
 have hEn : E.toList.Nodup := List.Pairwise.imp (fun h9 e => h9 (by rw [e])) (List.pairwise_map.1 h2.2.1);have hDn : D.Nodup := List.Pairwise.imp (fun h9 e => h9 (by rw [e])) (List.pairwise_map.1 h7);have hp : (D ++ E.toList.filter fun e => !(D.map (·.born)).contains e.born).Perm E.toList := by
  refine (List.perm_ext_iff_of_nodup (List.nodup_append.2 ⟨hDn, List.Pairwise.sublist List.filter_sublist hEn, fun a ha c hc e => ?_⟩) hEn).2 fun e => ?_
  ·subst e;have := (List.mem_filter.1 hc).2;simp only [List.contains_eq_mem, Bool.not_eq_true', decide_eq_false_iff_not] at this;exact this (List.mem_map.2 ⟨a, ha, rfl⟩)
  simp only [List.mem_append, List.mem_filter, List.contains_eq_mem, Bool.not_eq_true', decide_eq_false_iff_not]
  constructor
  ·rintro (h | h)
   ·exact h6 e h
   exact h.1
  intro he;by_cases hb : e.born ∈ D.map (·.born)
  ·obtain ⟨d, hd, hde⟩ := List.mem_map.1 hb;rw [born_inj h2.2.1 (h6 d hd) he hde] at hd;exact .inl hd
  exact .inr ⟨he, hb⟩
 have l1 := hp.length_eq;have l2 := congrArg List.length h3;have l3 := congrArg List.length h8;simp only [List.length_append, List.length_map] at l1 l2 l3;omega
theorem only_draw {w w1 : World} {it : Nat} {o : Obj} (h : w1 = w ∨ w1 = w.drew) : Only [it] w (setBlock w1 it o) := by
 rcases h with rfl | rfl
 ·exact ⟨rfl, rfl, rfl, by simp [setBlock], fun i _ hi => by simp only [setBlock]; rw [Array.getElem?_setIfInBounds_ne (fun e => hi (by simp [e]))]⟩
 exact ⟨rfl, rfl, rfl, by simp only [setBlock, Array.size_setIfInBounds]; exact Nat.le_refl _, fun i _ hi => by simp only [setBlock]; exact Array.getElem?_setIfInBounds_ne (fun e => hi (by simp [e]))⟩
theorem run_nextV (ty : TypeId) (h : (Res.mit it b es done).holds w) : (done.Perm es ∧ (Instr.next (.pointer (some ⟨it, 0, none⟩)) false ty).run P w = .ok (.tuple #[.bool false]) w) ∨
  ∃ x ∈ es, done.length < es.length ∧ x ∉ done ∧ ∃ w', (Instr.next (.pointer (some ⟨it, 0, none⟩)) false ty).run P w = .ok (.tuple #[.bool true, strV x.1, x.2]) w' ∧ Only [it] w w' ∧ (Res.mit it b es (done ++ [x])).holds w' := by
 have hf := mit_facts h;obtain ⟨h0, E, clock, D, h1, h2, h3, h4, h6, h7, h8⟩ := h;rcases run_next_at (P := P) w ty it b clock clock _ E clock h4 h1 h2.1 (Nat.le_refl _) with ⟨hz, hrun⟩ | ⟨e, he, w1, hal, hrun⟩
 ·refine .inl ⟨(List.perm_ext_iff_of_nodup (nodup_fst hf.2.1) (nodup_fst hf.1)).2 fun x => ⟨hf.2.2 x, fun hx => ?_⟩, hrun⟩;obtain ⟨e, he, hxe⟩ := mem_kv h3 hx;have h9 := all_seen E _ hz e he;have h9 : e.born ∈ D.map (·.born) := by simpa using h9
  obtain ⟨d, hd, hde⟩ := List.mem_map.1 h9;rw [born_inj h2.2.1 (h6 d hd) he hde] at hd;obtain ⟨y, hy, hye⟩ := kv_mem h8 hd;rw [kv_inj (hxe.trans hye.symm)];exact hy
 obtain ⟨hem, hes⟩ := mem_left he;have hes : e.born ∉ D.map (·.born) := by simpa using hes
 obtain ⟨x, hx, hxe⟩ := kv_mem h3 hem;have hx1 : e.key = strV x.1 := (congrArg Prod.fst hxe).symm;have hx2 : e.val = x.2 := (congrArg Prod.snd hxe).symm;rw [hx1, hx2] at hrun;have h41 : w1.heap[it]? = some (.mapIter (some b) clock (D.map (·.born)).toArray clock) := by rcases hal with rfl | rfl <;> exact h4
 have h11 : w1.heap[b]? = some (.map E clock) := by rcases hal with rfl | rfl <;> exact h1
 have hset := heap_set (o' := .mapIter (some b) clock ((D.map (·.born)).toArray.push e.born) clock) h41;have hm : (Res.mit it b es (done ++ [x])).holds (setBlock w1 it (.mapIter (some b) clock ((D.map (·.born)).toArray.push e.born) clock)) := by
  refine ⟨h0, E, clock, D ++ [e], (hset.2 b (fun e1 => h0 e1.symm)).trans h11, h2, h3, hset.1.trans ?_, fun d hd => ?_, ?_, ?_⟩
  ·simp
  ·rcases List.mem_append.1 hd with hd | hd
   ·exact h6 d hd
   rw [List.mem_singleton.1 hd]; exact hem
  ·rw [List.map_append, List.nodup_append];exact ⟨h7, by simp, fun a ha c hc => by rw [List.map_singleton, List.mem_singleton] at hc; intro e9; rw [e9, hc] at ha; exact hes ha⟩
  rw [List.map_append, List.map_append, h8, List.map_singleton, List.map_singleton, hxe]
 have hl := mit_lt hm;rw [List.length_append, List.length_singleton] at hl;have hd := (mit_facts hm).2.1;rw [List.map_append, List.nodup_append] at hd;exact .inr ⟨x, hx, by omega, fun h9 => hd.2.2 _ (List.mem_map.2 ⟨x, h9, rfl⟩) _ (by simp) rfl, _, hrun, only_draw hal, hm⟩
theorem run_entryV {x : List UInt8 × Value} (h : (Res.mit it b es (done ++ [x])).holds w) : (Instr.entry (.pointer (some ⟨it, 0, none⟩))).run P w = .ok (.tuple #[strV x.1, x.2]) w := by
 obtain ⟨h0, E, clock, D, h1, h2, h3, h4, h6, h7, h8⟩ := h;rcases List.eq_nil_or_concat D with rfl | ⟨D, e, rfl⟩
 ·rw [List.map_nil] at h8; exact absurd (congrArg List.length h8) (by simp)
 rw [List.map_concat, List.map_append, List.map_singleton, ← List.concat_eq_append, List.concat_inj] at h8;have h9 := run_entry_at (P := P) w it b clock (D.map (·.born)).toArray E clock e (by rw [h4]; simp) h1 (h6 e (by simp)) h2.2.1;have e1 : e.key = strV x.1 := congrArg Prod.fst h8.2;have e2 : e.val = x.2 := congrArg Prod.snd h8.2;rw [h9, e1, e2]
theorem find_del (k : List UInt8) : ∀ (E : List MapEntry) (es : Ents) (n : Nat), E.map (fun e => (e.key, e.val)) = es.map kv → (es.map (·.1)).Nodup →
  (es.filter (fun e => decide (e.1 ≠ k)) = es ∧ Instr.findNow .string (strV k) E n = some none) ∨
  (∃ i v, i < E.length ∧ es.filter (fun e => decide (e.1 ≠ k)) = es.eraseIdx i ∧ Instr.findNow .string (strV k) E n = some (some (n + i, v)))
 | [], [], n, _, _ => .inl ⟨rfl, rfl⟩
 | e :: E, x :: es, n, h, hn => by
  simp only [List.map_cons, List.cons.injEq, kv, Prod.mk.injEq] at h;obtain ⟨⟨h1, h1'⟩, h2⟩ := h;rw [List.map_cons, List.nodup_cons] at hn;have hs : Instr.sameNow .string (strV k) e.key = some (decide (k = x.1)) := by
   rw [h1];show some ((⟨k.toArray⟩ : ByteArray) == ⟨x.1.toArray⟩) = _;rw [strV_beq]
  by_cases hk : x.1 = k
  ·refine .inr ⟨0, e.val, by simp, ?_, by simp [Instr.findNow, hs, hk]⟩;rw [List.filter_cons_of_neg (by simp [hk]), List.eraseIdx_zero, List.tail_cons];exact List.filter_eq_self.2 fun y hy => by
    rw [decide_eq_true_iff];intro h9;exact hn.1 (by rw [hk, ← h9]; exact List.mem_map.2 ⟨y, hy, rfl⟩)
  have hk' : ¬ k = x.1 := fun e => hk e.symm
  rw [List.filter_cons_of_pos (by simp [hk])];rcases find_del k E es (n + 1) h2 hn.2 with ⟨h3, h5⟩ | ⟨i, v, h4, h5, h8⟩
  ·exact .inl ⟨by rw [h3], by simp [Instr.findNow, hs, hk', h5]⟩
  exact .inr ⟨i + 1, v, by simp; omega, by rw [h5, List.eraseIdx_cons_succ], by
   simp only [Instr.findNow, hs, hk', decide_false, h8];rw [show n + 1 + i = n + (i + 1) by omega]⟩
 | [], _ :: _, _, h, _ => by simp at h
 | _ :: _, [], _, h, _ => by simp at h
theorem run_delV (ty : TypeId) (ht : P.underlying t = some (.map kt et)) (hk : P.underlying kt = some .string) (h : (Res.vmap b es).holds w) : ∃ w', (Builtin.delete_ #[t, kt] ty #[.map (some b), strV k]).run P w = .ok (.tuple #[]) w' ∧ Only [b] w w' ∧ (Res.vmap b (es.filter fun e => decide (e.1 ≠ k))).holds w' := by
 have hn := vmap_keys h;obtain ⟨E, clock, h1, hst, h2⟩ := h;have hb := (Array.getElem?_eq_some_iff.1 h1).1;rcases find_del k E.toList es 0 h2 hn with ⟨h3, h5⟩ | ⟨i, v, h4, h3, h5⟩
 ·refine ⟨setBlock w b (.map E clock), ?_, ⟨rfl, rfl, rfl, by simp [setBlock], fun i _ hi => by simp only [setBlock]; rw [Array.getElem?_setIfInBounds_ne (fun e => hi (by simp [e]))]⟩, ⟨E, clock, heap_setBlock_same h1 _, hst, by rw [h3]; exact h2⟩⟩
  simp [Builtin.delete_, run_underlying ht, MapKept.run_getObj_map h1, run_checkStr hk, run_findStr hk _ _ h5, MapKept.run_setObj_map _ h1, Result.andThen, setBlock]
 have hjs : i < E.size := by simpa using h4
 have hsub : (E.eraseIdxIfInBounds i).toList = E.toList.eraseIdx i := by
  unfold Array.eraseIdxIfInBounds;rw [dif_pos hjs]
  simp
 refine ⟨setBlock w b (.map (E.eraseIdxIfInBounds i) clock), ?_, ⟨rfl, rfl, rfl, by simp [setBlock], fun i _ hi => by simp only [setBlock]; rw [Array.getElem?_setIfInBounds_ne (fun e => hi (by simp [e]))]⟩, ⟨_, clock, heap_setBlock_same h1 _, stamped_erase hst i, ?_⟩⟩
 ·rw [Nat.zero_add] at h5
  simp [Builtin.delete_, run_underlying ht, MapKept.run_getObj_map h1, run_checkStr hk, run_findStr hk _ _ h5, MapKept.run_setObj_map _ h1, Result.andThen, setBlock]
 rw [h3, hsub, Go.ChangeMaps.map_eraseIdx, Go.ChangeMaps.map_eraseIdx, h2]
theorem run_rangeV (ht : P.underlying t = some (.map kt et)) (h : (Res.vmap b es).holds w) : ∃ w', (Instr.range t (.map (some b))).run P w = .ok (.pointer (some ⟨w.heap.size, 0, none⟩)) w' ∧ Only [b] w w' ∧ w'.heap.size = w.heap.size + 1 ∧ (Res.mit w.heap.size b es []).holds w' := by
 obtain ⟨E, clock, h1, h2, h3⟩ := h;have hb := (Array.getElem?_eq_some_iff.1 h1).1;exact ⟨_, run_range_map w t kt et b E clock ht h1, ⟨rfl, rfl, rfl, by simp, fun k hk _ => (MapKept.heap_alloc w _).2 k hk⟩, by simp, fun e => by omega, E, clock, [], ((MapKept.heap_alloc w _).2 b hb).trans h1, h2, h3, (MapKept.heap_alloc w _).1, fun e h => (by cases h), List.nodup_nil, rfl⟩
end
section
variable {F : Fence} {n : Nat} {P : Program} {ops : Array Oper} {Q : Exit → Act → World → Prop} {a : Act} {w : World} {rest : List Oper} {o : Oper} {B : Base} {H : List Res} {t kt et ty : TypeId} {x y u : Operand} {b it : Nat} {es done : Ents} {k : List UInt8}
theorem sl_rangeV (hF : ∀ f, F.fn f) (hg : Region.wanted o (yielded ops a.tmps) = true) (ho : o.op = .range t x) (hx : a.eval x = .map (some b)) (ht : P.underlying t = some (.map kt et)) (hv : Inv B (Res.vmap b es :: H) w)
  (h : ∀ it w', Inv B (Res.mit it b es [] :: H) w' → wpListIn F n P ops Q rest (a.put o.dst (.pointer (some ⟨it, 0, none⟩))) w') : wpListIn F n P ops Q (o :: rest) a w := by
 obtain ⟨w', h1, h2, h3, h4⟩ := run_rangeV ht hv.head;have hlt := hv.headLt b (by simp [Res.vmap]);refine wpi_exG hF hg (by unfold isDefer; rw [ho]) (by unfold Ex; simp [execOp, ho, hx, h1]) (h _ w' (hv.upd _ h2 h4 (fun c hc => ?_) (fun c hc => ?_) ?_))
 ·simp only [Res.mit, List.mem_cons, List.not_mem_nil, or_false] at hc;rcases hc with rfl | rfl
  ·exact .inr (Nat.le_refl _)
  exact .inl (by simp [Res.vmap])
 ·simp only [Res.mit, List.mem_cons, List.not_mem_nil, or_false] at hc;rcases hc with rfl | rfl <;> omega
 simp only [Res.mit, List.nodup_cons, List.mem_singleton, List.not_mem_nil, not_false_eq_true, List.nodup_nil, and_true];omega
theorem mit_upd {w' : World} {done' : Ents} (hv : Inv B (Res.mit it b es done :: H) w) (h2 : Only [it] w w') (h3 : (Res.mit it b es done').holds w') : Inv B (Res.mit it b es done' :: H) w' :=
 hv.upd _ (h2.mono fun c _ hc => by rw [List.mem_singleton.1 hc]; simp [Res.mit]) h3 (fun c hc => .inl hc) (fun c hc => Nat.lt_of_lt_of_le (hv.headLt c hc) h2.size) (by simp [Res.mit, h3.1])
theorem sl_nextV (hF : ∀ f, F.fn f) (hg : Region.wanted o (yielded ops a.tmps) = true) (ho : o.op = .next x false) (hx : a.eval x = .pointer (some ⟨it, 0, none⟩)) (hv : Inv B (Res.mit it b es done :: H) w)
  (h0 : done.Perm es → wpListIn F n P ops Q rest (a.put o.dst (.tuple #[.bool false])) w)
  (h : ∀ x w', x ∈ es → done.length < es.length → x ∉ done → Inv B (Res.mit it b es (done ++ [x]) :: H) w' → wpListIn F n P ops Q rest (a.put o.dst (.tuple #[.bool true, strV x.1, x.2])) w') : wpListIn F n P ops Q (o :: rest) a w := by
 rcases run_nextV (P := P) o.type hv.head with ⟨h1, h2⟩ | ⟨e, h1, h2, h3, w', h4, h5, h6⟩
 ·exact wpi_exG hF hg (by unfold isDefer; rw [ho]) (by unfold Ex; simp [execOp, ho, hx, h2]) (h0 h1)
 exact wpi_exG hF hg (by unfold isDefer; rw [ho]) (by unfold Ex; simp [execOp, ho, hx, h4]) (h e w' h1 h2 h3 (mit_upd hv h5 h6))
theorem ex_entryV (i : Nat) {e : List UInt8 × Value} (ho : o.op = .entry x) (hx : a.eval x = .pointer (some ⟨it, 0, none⟩)) (hv : Inv B H w) (hi : H[i]? = some (Res.mit it b es (done ++ [e]))) : Ex P a o w (.tuple #[strV e.1, e.2]) w := by
 unfold Ex; simp [execOp, ho, hx, run_entryV (hv.get i hi)]
theorem sl_delV (hF : ∀ f, F.fn f) (hg : Region.wanted o (yielded ops a.tmps) = true) (ho : o.op = .call { callee := .builtin .delete, args := #[x, y], argTypes := #[t, kt] }) (hx : a.eval x = .map (some b)) (hy : a.eval y = strV k) (ht : P.underlying t = some (.map kt et)) (hk : P.underlying kt = some .string) (hv : Inv B (Res.vmap b es :: H) w)
  (h : ∀ w', Inv B (Res.vmap b (es.filter fun e => decide (e.1 ≠ k)) :: H) w' → wpListIn F n P ops Q rest (a.put o.dst (.tuple #[])) w') : wpListIn F n P ops Q (o :: rest) a w := by
 obtain ⟨w', h1, h2, h3⟩ := run_delV (k := k) o.type ht hk hv.head;exact wpi_exG hF hg (by unfold isDefer; rw [ho]) (by unfold Ex; simp [execOp, ho, hx, hy, resolve, invoke, builtin, h1]) (h w' (hv.upd _ h2 h3 (fun c hc => .inl hc) (fun c hc => Nat.lt_of_lt_of_le (hv.headLt c hc) h2.size) (by simp [Res.vmap])))
end
def intE (g : List (List UInt8 × Int)) : Ents := g.map fun e => (e.1, .int .i64 e.2)
theorem lookA_int : ∀ (g : List (List UInt8 × Int)) (k : List UInt8), lookA (intE g) k = (lookA g k).map (Value.int .i64)
 | [], k => rfl
 | e :: g, k => by
  have ih := lookA_int g k;unfold intE at ih ⊢;rw [List.map_cons]; unfold lookA
  split
  ·rfl
  exact ih
theorem updA_int : ∀ (g : List (List UInt8 × Int)) (k : List UInt8) (n : Int), updA (intE g) k (.int .i64 n) = intE (updA g k n)
 | [], k, n => rfl
 | e :: g, k, n => by
  have ih := updA_int g k n;unfold intE at ih ⊢;rw [List.map_cons]; unfold updA
  split
  ·rfl
  rw [List.map_cons, ih]
theorem intE_len (g : List (List UInt8 × Int)) : (intE g).length = g.length := List.length_map ..
theorem intE_filter (p : List UInt8 → Bool) (g : List (List UInt8 × Int)) : (intE g).filter (fun e => p e.1) = intE (g.filter fun e => p e.1) := by
 unfold intE; rw [List.filter_map]; rfl
theorem intE_mem {g : List (List UInt8 × Int)} {x : List UInt8 × Value} (h : x ∈ intE g) : ∃ n, x = (x.1, .int .i64 n) ∧ (x.1, n) ∈ g := by
 obtain ⟨e, he, rfl⟩ := List.mem_map.1 h;exact ⟨e.2, rfl, he⟩
theorem intE_snoc (d : List (List UInt8 × Int)) (k : List UInt8) (n : Int) : intE d ++ [(k, .int .i64 n)] = intE (d ++ [(k, n)]) := by
 unfold intE; rw [List.map_append]; rfl
theorem intE_perm {a b : List (List UInt8 × Int)} (h : (intE a).Perm (intE b)) : a.Perm b := by
 have h1 := h.map (fun x : List UInt8 × Value => (x.1, match x.2 with | .int _ n => n | _ => 0));have e : ∀ l : List (List UInt8 × Int), (intE l).map (fun x : List UInt8 × Value => (x.1, match x.2 with | .int _ n => n | _ => 0)) = l := fun l => by
  unfold intE; rw [List.map_map]; exact List.map_id _
 rw [e, e] at h1;exact h1
theorem look_filter {α : Type} (p : List UInt8 → Bool) : ∀ (g : List (List UInt8 × α)) (k : List UInt8), lookA (g.filter fun e => p e.1) k = if p k = true then lookA g k else none
 | [], k => by simp [lookA]
 | e :: g, k => by
  have ih := look_filter p g k;by_cases h : p e.1 = true
  ·rw [List.filter_cons_of_pos (p := fun e : List UInt8 × α => p e.1) h]; unfold lookA;by_cases h2 : e.1 = k
   ·rw [if_pos h2, if_pos h2, if_pos (h2 ▸ h)]
   rw [if_neg h2, if_neg h2]; exact ih
  rw [List.filter_cons_of_neg (p := fun e : List UInt8 × α => p e.1) h, ih];by_cases h2 : e.1 = k
  ·rw [← h2, if_neg h, if_neg h]
  unfold lookA; rw [if_neg h2]; cases g <;> rfl
section
variable {F : Fence} {n : Nat} {P : Program} {ops : Array Oper} {Q : Exit → Act → World → Prop} {a : Act} {w : World} {rest : List Oper} {o : Oper} {B : Base} {H : List Res} {t kt et ty : TypeId} {x y u : Operand} {b it : Nat} {g d : List (List UInt8 × Int)} {es : Ents} {k : List UInt8} {vI m : Int} {z : Value}
theorem sl_makeMapV (hF : ∀ f, F.fn f) (hg : Region.wanted o (yielded ops a.tmps) = true) (ho : o.op = .makeMap t (some x)) (hx : a.eval x = .int .i64 m) (ht : P.underlying t = some (.map kt et)) (hv : Inv B H w)
  (h : ∀ b w', Inv B (Res.vmap b [] :: H) w' → wpListIn F n P ops Q rest (a.put o.dst (.map (some b))) w') : wpListIn F n P ops Q (o :: rest) a w := by
 have hr : (Instr.makeMap t (some (.int .i64 m))).run P w = .ok (.map (some w.heap.size)) (w.alloc (.map #[] 0)) := by
  simp [Instr.makeMap, run_underlying ht, asInt, asIntOf, newObj, Sem.run]
 have hex : Ex P a o w (.map (some w.heap.size)) (w.alloc (.map #[] 0)) := by
  unfold Ex; simp [execOp, ho, hx, hr]
 exact wpi_exG hF hg (by unfold isDefer; rw [ho]) hex (h _ _ (vmap_new hv))
theorem look_intV (g : List (List UInt8 × Int)) (k : List UInt8) : (lookA (intE g) k).getD (.int .i64 0) = .int .i64 ((lookA g k).getD 0) := by
 rw [lookA_int]; cases lookA g k <;> rfl
theorem ex_lookI1 (i : Nat) (ho : o.op = .lookup t x y true) (hx : a.eval x = .map (some b)) (hy : a.eval y = strV k) (ht : P.underlying t = some (.map kt et)) (hk : P.underlying kt = some .string) (hz : ∀ w, (zeroValue et).run P w = .ok (.int .i64 0) w) (hv : Inv B H w) (hi : H[i]? = some (Res.vmap b (intE g))) :
  Ex P a o w (.tuple #[.int .i64 ((lookA g k).getD 0), .bool (lookA g k).isSome]) w := by
 have h := ex_lookV i ho hx hy ht hk hz hv hi;rw [if_pos rfl, look_intV] at h;rw [show (lookA g k).isSome = (lookA (intE g) k).isSome by rw [lookA_int]; cases lookA g k <;> rfl];exact h
theorem ex_lookI0 (i : Nat) (ho : o.op = .lookup t x y false) (hx : a.eval x = .map (some b)) (hy : a.eval y = strV k) (ht : P.underlying t = some (.map kt et)) (hk : P.underlying kt = some .string) (hz : ∀ w, (zeroValue et).run P w = .ok (.int .i64 0) w) (hv : Inv B H w) (hi : H[i]? = some (Res.vmap b (intE g))) :
  Ex P a o w (.int .i64 ((lookA g k).getD 0)) w := by
 have h := ex_lookV i ho hx hy ht hk hz hv hi;rw [if_neg (by decide), look_intV] at h;exact h
theorem ex_lookB (i : Nat) (ho : o.op = .lookup t x y true) (hx : a.eval x = .map (some b)) (hy : a.eval y = strV k) (ht : P.underlying t = some (.map kt et)) (hk : P.underlying kt = some .string) (hz : ∀ w, (zeroValue et).run P w = .ok z w) (hv : Inv B H w) (hi : H[i]? = some (Res.vmap b es)) :
  Ex P a o w (.tuple #[(lookA es k).getD z, .bool (lookA es k).isSome]) w := by
 have h := ex_lookV i ho hx hy ht hk hz hv hi;rw [if_pos rfl] at h;exact h
theorem sl_updI (hF : ∀ f, F.fn f) (hg : Region.wanted o (yielded ops a.tmps) = true) (ho : o.op = .mapUpdate t x y u) (hx : a.eval x = .map (some b)) (hy : a.eval y = strV k) (hz : a.eval u = .int .i64 vI) (ht : P.underlying t = some (.map kt et)) (hk : P.underlying kt = some .string) (hv : Inv B (Res.vmap b (intE g) :: H) w)
  (h : ∀ w', Inv B (Res.vmap b (intE (updA g k vI)) :: H) w' → wpListIn F n P ops Q rest (a.put o.dst undef) w') : wpListIn F n P ops Q (o :: rest) a w :=
 sl_updV hF hg ho hx hy hz ht hk hv fun w' hv' => h w' (by rw [updA_int] at hv'; exact hv')
theorem ex_lenI (i : Nat) (ht : P.underlying t = some (.map kt et)) (ho : o.op = .call { callee := .builtin .len, args := #[x], argTypes := #[t] }) (hx : a.eval x = .map (some b)) (hv : Inv B H w) (hi : H[i]? = some (Res.vmap b (intE g))) : Ex P a o w (.int .i64 (g.length : Int)) w := by
 have h := ex_lenV i ht ho hx hv hi;rw [intE_len] at h;exact h
theorem sl_delI (hF : ∀ f, F.fn f) (hg : Region.wanted o (yielded ops a.tmps) = true) (ho : o.op = .call { callee := .builtin .delete, args := #[x, y], argTypes := #[t, kt] }) (hx : a.eval x = .map (some b)) (hy : a.eval y = strV k) (ht : P.underlying t = some (.map kt et)) (hk : P.underlying kt = some .string) (hv : Inv B (Res.vmap b (intE g) :: H) w)
  (h : ∀ w', Inv B (Res.vmap b (intE (g.filter fun e => decide (e.1 ≠ k))) :: H) w' → wpListIn F n P ops Q rest (a.put o.dst (.tuple #[])) w') : wpListIn F n P ops Q (o :: rest) a w :=
 sl_delV hF hg ho hx hy ht hk hv fun w' hv' => h w' (by rw [intE_filter (fun e => decide (e ≠ k))] at hv'; exact hv')
theorem sl_rangeI (hF : ∀ f, F.fn f) (hg : Region.wanted o (yielded ops a.tmps) = true) (ho : o.op = .range t x) (hx : a.eval x = .map (some b)) (ht : P.underlying t = some (.map kt et)) (hv : Inv B (Res.vmap b (intE g) :: H) w)
  (h : ∀ it w', Inv B (Res.mit it b (intE g) (intE []) :: H) w' → wpListIn F n P ops Q rest (a.put o.dst (.pointer (some ⟨it, 0, none⟩))) w') : wpListIn F n P ops Q (o :: rest) a w :=
 sl_rangeV hF hg ho hx ht hv h
theorem sl_nextI (hF : ∀ f, F.fn f) (hg : Region.wanted o (yielded ops a.tmps) = true) (ho : o.op = .next x false) (hx : a.eval x = .pointer (some ⟨it, 0, none⟩)) (hv : Inv B (Res.mit it b (intE g) (intE d) :: H) w)
  (h0 : d.Perm g → wpListIn F n P ops Q rest (a.put o.dst (.tuple #[.bool false])) w)
  (h : ∀ k v w', (k, v) ∈ g → d.length < g.length → Inv B (Res.mit it b (intE g) (intE (d ++ [(k, v)])) :: H) w' → wpListIn F n P ops Q rest (a.put o.dst (.tuple #[.bool true, strV k, .int .i64 v])) w') : wpListIn F n P ops Q (o :: rest) a w := by
 refine sl_nextV hF hg ho hx hv (fun h1 => h0 (intE_perm h1)) fun e w' h1 h2 h3 hv' => ?_
 obtain ⟨q, hq, hm⟩ := intE_mem h1;obtain ⟨ek, ev⟩ := e;simp only [Prod.mk.injEq, true_and] at hq;subst hq;rw [intE_snoc] at hv';exact h ek q w' hm (by simpa [intE_len] using h2) hv'
theorem ex_entryI (i : Nat) (ho : o.op = .entry x) (hx : a.eval x = .pointer (some ⟨it, 0, none⟩)) (hv : Inv B H w) (hi : H[i]? = some (Res.mit it b (intE g) (intE (d ++ [(k, vI)])))) : Ex P a o w (.tuple #[strV k, .int .i64 vI]) w :=
 ex_entryV (done := intE d) (e := (k, .int .i64 vI)) i ho hx hv (by rw [hi, ← intE_snoc])
end
theorem results_tmp4 {fn : Func} {t u v x : Nat} (h : fn.results = #[.tmp t, .tmp u, .tmp v, .tmp x]) (tmps : Array Value) (P : Program) (w : World) :
  (results fn tmps).run P w = .ok (.tuple #[tmps.getD t undef, tmps.getD u undef, tmps.getD v undef, tmps.getD x undef]) w := by
 simp [results, h]
theorem Inv.mid2 {B : Base} {K H : List Res} {r q : Res} {w : World} : Inv B (K ++ r :: q :: H) w ↔ Inv B (r :: q :: (K ++ H)) w :=
 ⟨fun h => h.perm (List.perm_middle.trans (List.Perm.cons _ List.perm_middle)), fun h => h.perm ((List.Perm.cons _ List.perm_middle.symm).trans List.perm_middle.symm)⟩
theorem Inv.mid3 {B : Base} {K H : List Res} {r q s : Res} {w : World} : Inv B (K ++ r :: q :: s :: H) w ↔ Inv B (r :: q :: s :: (K ++ H)) w :=
 ⟨fun h => h.perm (List.perm_middle.trans (List.Perm.cons _ (List.perm_middle.trans (List.Perm.cons _ List.perm_middle)))), fun h => h.perm (((List.Perm.cons _ ((List.Perm.cons _ List.perm_middle.symm).trans List.perm_middle.symm))).trans List.perm_middle.symm)⟩
section
variable {B : Base} {X X' : List (List Ent)} {M : Model} {key : List UInt8} {i j : Nat}
end
section
variable {ti tb te : TypeId} {p : Nat} {n : Int} {X : List (List Ent)} {bvs : List Value} {B : Base} {H : List Res} {w : World}
end
end Go.Pm
