/- A region that draws its order, walked in one order: what each operation yields serves every order. -/
import Derived.Test.YtffmbdagjpdieaaGreatStActsA
import Derived.Lib.LazyBuf
import Derived.Test.YtffmbdagjpdieaaGreatRows
set_option maxRecDepth 100000
namespace Go.Pm
open Go.RowKit
def QF : Exit → Act → World → Prop := fun _ _ _ => False
def Adds (P : Program) (o : Oper) (a : Act) (w : World) (v : Value) : Prop := o.wp P a w (fun b w' => ∃ v', b = a.put o.dst v' ∧ v' = v ∧ Ext w w') QF
def FlOk (ops : Array Oper) (m : Nat) (J : World → Prop) : List (Nat × (World → Prop)) → Prop
 | [] => True
 | f :: l => (cond (ahead ops f.1 m) True (∀ w, J w → f.2 w)) ∧ FlOk ops m J l
def tied (ops : Array Oper) (mem : List Nat) (i : Nat) : List (Nat × Oper) → Bool
 | [] => true
 | x :: l => cond (mem.contains x.1) (ahead ops i x.1) (tied ops mem i l)
def DW (P : Program) (ops : Array Oper) (mem : List Nat) (R : Act → World → Prop) : List (Nat × Oper) → List (Nat × (World → Prop)) → (World → Prop) → Act → Prop
 | [], _, J, a => ∀ w, J w → R a w
 | x :: is, Fl, J, a =>
  (Region.wanted x.2 (yielded ops a.tmps) = false ∧ DW P ops mem R is Fl J (a.put x.2.dst undef)) ∨ (Region.wanted x.2 (yielded ops a.tmps) = true ∧
  if mem.contains x.1 = true then ∀ w, J w → x.2.wp P a w (fun b w' => ∃ v, b = a.put x.2.dst v ∧ ∃ J' : World → Prop, (∀ w w', J' w → Ext w w' → J' w') ∧ J' w' ∧ FlOk ops x.1 J' Fl ∧ DW P ops mem R is Fl J' (a.put x.2.dst v)) QF
  else ∃ v, ((∀ w, Adds P x.2 a w v) ∧ DW P ops mem R is Fl J (a.put x.2.dst v)) ∨ ((∀ w, J w → Adds P x.2 a w v) ∧ tied ops mem x.1 is = true ∧ DW P ops mem R is Fl J (a.put x.2.dst v)) ∨
   ∃ f : World → Prop, (∀ w, f w → Adds P x.2 a w v) ∧ (∀ w, J w → f w) ∧ DW P ops mem R is ((x.1, f) :: Fl) J (a.put x.2.dst v))
def pm (ops : Array Oper) (l : List Nat) : List (Nat × Oper) := l.map fun i => (i, ops.getD i default)
def notSel (o : Oper) : Bool := match o.op with | .select _ _ => false | _ => true
def pwOk (ops : Array Oper) (mem : List Nat) : List Nat → Bool
 | [] => true
 | x :: l => l.all (fun y => !ahead ops y x && (!mem.contains x || ahead ops x y)) && pwOk ops mem l
def lookOk (ops : Array Oper) : Bool := ops.toList.zipIdx.all fun x => (x.1.looksAt ops).all fun t => ops.toList.zipIdx.all fun y => y.1.dst != some t || (y.2 == x.2 || (ahead ops y.2 x.2 || ahead ops x.2 y.2))
def okDW (ops : Array Oper) (mem perm : List Nat) (k : Nat) : Bool :=
 backward ops && (onceDst ops && (fitsDst ops k && (ops.all notSel && (decide perm.Nodup && (decide (perm.length = ops.size) && (perm.all (· < ops.size) && (pwOk ops mem perm && lookOk ops)))))))
structure Tk (ops : Array Oper) (L : Nat → Prop) (val : Nat → Value) (a0 a : Act) : Prop where
 defers : a.defers = a0.defers
 size : a.tmps.size = a0.tmps.size
 val : ∀ (q : Nat) (o : Oper) (d : Tmp), L q → ops[q]? = some o → o.dst = some d → a.tmps.getD d undef = val q
 keep : ∀ t, (∀ (q : Nat) (o : Oper), ops[q]? = some o → o.dst = some t → ¬ L q) → a.tmps.getD t undef = a0.tmps.getD t undef
section
variable {P : Program} {ops : Array Oper} {a0 a a' : Act} {L L' : Nat → Prop} {val val' : Nat → Value} {w w' : World} {o : Oper}
theorem Tk.start : Tk ops (fun _ => False) val a0 a0 := ⟨rfl, rfl, fun _ _ _ h => h.elim, fun _ _ => rfl⟩
theorem Tk.iff (T : Tk ops L val a0 a) (h : ∀ q, L q ↔ L' q) (hv : ∀ q, L q → val q = val' q) : Tk ops L' val' a0 a :=
 ⟨T.defers, T.size, fun q o d hl ho hd => (T.val q o d ((h q).2 hl) ho hd).trans (hv q ((h q).2 hl)), fun t ht => T.keep t fun q o ho hd hl => ht q o ho hd ((h q).1 hl)⟩
theorem Tk.put (hnd : onceDst ops = true) (hfit : ∀ (j : Nat) (o : Oper) (d : Tmp), ops[j]? = some o → o.dst = some d → d < a0.tmps.size) (T : Tk ops L val a0 a) {i : Nat} (hi : ops[i]? = some o) (hl : ¬ L i) {v : Value} (hv : val i = v) :
  Tk ops (fun q => q = i ∨ L q) val a0 (a.put o.dst v) := by
 refine ⟨by rw [put_defers]; exact T.defers, by rw [put_size]; exact T.size, fun q oq d hq ho hd => ?_, fun t ht => ?_⟩
 ·rcases hq with rfl | hq
  ·rw [hi] at ho; cases ho
   rw [hd, put_getD_same _ _ _ (by rw [T.size]; exact hfit _ _ _ hi hd), hv]
  rw [put_getD _ _ _ _ (fun e => ?_)]
  ·exact T.val q oq d hq ho hd
  have := nodup_dst (of_decide_eq_true hnd) i q o oq d (by simpa using hi) (by simpa using ho) e hd
  subst this; exact hl hq
 rw [put_getD _ _ _ _ (fun e => ht i o hi e (.inl rfl))]
 exact T.keep t fun q oq ho hd hq => ht q oq ho hd (.inr hq)
theorem Tk.agree (T : Tk ops L val a0 a) (T' : Tk ops L' val a0 a') (t : Tmp) (h : ∀ (q : Nat) (o : Oper), ops[q]? = some o → o.dst = some t → (L q ↔ L' q)) : a.tmps.getD t undef = a'.tmps.getD t undef := by
 by_cases hq : ∃ q, ∃ o : Oper, ops[q]? = some o ∧ o.dst = some t ∧ L q
 ·obtain ⟨q, o, h1, h2, h3⟩ := hq
  rw [T.val q o t h3 h1 h2, T'.val q o t ((h q o h1 h2).1 h3) h1 h2]
 rw [T.keep t (fun q o h1 h2 h3 => hq ⟨q, o, h1, h2, h3⟩), T'.keep t (fun q o h1 h2 h3 => hq ⟨q, o, h1, h2, (h q o h1 h2).2 h3⟩)]
theorem getq {x y : Array Value} (hs : x.size = y.size) {t : Nat} (h : x.getD t undef = y.getD t undef) : x[t]? = y[t]? := by
 simp only [Array.getD_eq_getD_getElem?] at h
 by_cases ht : t < x.size
 ·rw [Array.getElem?_eq_getElem ht, Array.getElem?_eq_getElem (by omega)] at h ⊢
  simpa using h
 rw [Array.getElem?_eq_none (by omega), Array.getElem?_eq_none (by omega)]
theorem same_of (hs : a.tmps.size = a'.tmps.size) (hn : notSel o = true) (h : ∀ t ∈ o.looksAt ops, a.tmps.getD t undef = a'.tmps.getD t undef) :
  execOp a.eval o = execOp a'.eval o ∧ Region.wanted o (yielded ops a.tmps) = Region.wanted o (yielded ops a'.tmps) := by
 refine ⟨execOp_congr o (fun cs b e => by unfold notSel at hn; rw [e] at hn; cases hn) fun x hx => ?_, ?_⟩
 ·cases x with
  | tmp t => exact h t (List.mem_append_left _ (List.mem_filterMap.2 ⟨.tmp t, by simpa using hx, rfl⟩))
  | _ => rfl
 unfold Region.wanted
 cases hg : o.guard with
 | none => rfl
 | some gw =>
  obtain ⟨g, want⟩ := gw
  have hy : yielded ops a.tmps g = yielded ops a'.tmps g := by
   unfold yielded
   cases ht : (ops[g]?).bind (·.dst) with
   | none => rfl
   | some t =>
    have h1 := getq hs (h t (by simp [Oper.looksAt, hg, ht]))
    simp only [Option.bind_some, h1]
  simp only [hy]
theorem put_same (hs : a.tmps.size = a'.tmps.size) {x : Option Tmp} {v u : Value} (h : a.put x v = a.put x u) : a'.put x v = a'.put x u := by
 cases x with
 | none => rfl
 | some d =>
  by_cases hd : d < a.tmps.size
  ·have h1 := put_getD_same a d v hd
   rw [h, put_getD_same a d u hd] at h1
   rw [h1]
  have h1 : a'.tmps.size ≤ d := by rw [← hs]; exact Nat.le_of_not_lt hd
  simp only [Act.put]
  rw [Array.setIfInBounds_eq_of_size_le h1, Array.setIfInBounds_eq_of_size_le h1]
theorem wp_move {Q : Exit → Act → World → Prop} {K : Value → World → Prop} (he : execOp a.eval o = execOp a'.eval o) (hs : a.tmps.size = a'.tmps.size) (h : o.wp P a w (fun b w' => ∃ v, b = a.put o.dst v ∧ K v w') QF) :
  o.wp P a' w (fun b w' => ∃ v, b = a'.put o.dst v ∧ K v w') Q := by
 have hm : ∀ v w', (∃ u, a.put o.dst v = a.put o.dst u ∧ K u w') → ∃ u, a'.put o.dst v = a'.put o.dst u ∧ K u w' := fun v w' ⟨u, h1, h2⟩ => ⟨u, put_same hs h1, h2⟩
 unfold Oper.wp at *
 rw [he] at h
 generalize (execOp a'.eval o).run P w = r at *
 cases r with
 | ok n w' =>
  cases n <;> simp only [Oper.upon] at h ⊢
  case value v => exact hm _ _ h
  case skip => exact hm _ _ h
  case enter f args => exact Calls.mono h (fun e w'' he => by cases e <;> first | exact hm _ _ he | exact he.elim | (exfalso; obtain ⟨_, _, h⟩ := he; exact h))
  case row => exact Rows.mono h (fun _ _ he => hm _ _ he)
  case defer d =>
   obtain ⟨v, h1, -⟩ := h
   have := congrArg Act.defers h1
   simp only [Pm.put_defers] at this
   exact absurd (congrArg List.length this) (by simp)
 | halt x w' => cases x <;> simp only [Oper.upon] at h ⊢ <;> exact h.elim
end
def Pend (P : Program) (ops : Array Oper) (mem : List Nat) (a0 : Act) (val : Nat → Value) (pre is : List Nat) (Fl : List (Nat × (World → Prop))) (J : World → Prop) (i : Nat) : Prop :=
 ∃ (o : Oper) (ai : Act) (L : Nat → Prop), ops[i]? = some o ∧ Tk ops L val a0 ai ∧ (∀ q, ahead ops q i = true → L q) ∧ (∀ q, L q → q ≠ i ∧ ahead ops i q = false) ∧ (∀ q, L q → q ∈ pre) ∧
  ((Region.wanted o (yielded ops ai.tmps) = false ∧ val i = undef) ∨ (Region.wanted o (yielded ops ai.tmps) = true ∧
   ((∀ w, Adds P o ai w (val i)) ∨ ((∀ w, J w → Adds P o ai w (val i)) ∧ tied ops mem i (pm ops is) = true) ∨ ∃ f : World → Prop, (i, f) ∈ Fl ∧ ∀ w, f w → Adds P o ai w (val i))))
structure DI (P : Program) (ops : Array Oper) (mem : List Nat) (R : Act → World → Prop) (a0 : Act) (perm : List Nat) (listed : Array Bool) (a : Act) (w : World) (pre is : List Nat) (val : Nat → Value) (Fl : List (Nat × (World → Prop))) (J : World → Prop) (aS : Act) : Prop where
 lsize : listed.size = ops.size
 closed : ∀ (j : Nat) (o : Oper), ops[j]? = some o → listed.getD j false = true → ∀ k, binder o k = true → listed.getD k false = true
 tk : Tk ops (fun q => listed.getD q false = true) val a0 a
 perm : perm = pre ++ is
 tkS : Tk ops (· ∈ pre) val a0 aS
 dw : DW P ops mem R (pm ops is) Fl J aS
 st : ∀ w w', J w → Ext w w' → J w'
 inv : J w
 fl : ∀ f ∈ Fl, listed.getD f.1 false = false → ∀ w, J w → f.2 w
 sub : ∀ q, listed.getD q false = true → q ∈ pre
 memd : ∀ q, q ∈ mem → q ∈ pre → listed.getD q false = true
 pend : ∀ i, i ∈ pre → listed.getD i false = false → Pend P ops mem a0 val pre is Fl J i
theorem pwOk_at {ops : Array Oper} {mem : List Nat} : ∀ {pre is : List Nat} {i : Nat}, pwOk ops mem (pre ++ i :: is) = true → ∀ q ∈ is, ahead ops q i = false ∧ (i ∈ mem → ahead ops i q = true)
 | [], is, i, h, q, hq => by
  simp only [List.nil_append, pwOk, Bool.and_eq_true] at h
  have h1 := List.all_eq_true.1 h.1 q hq
  simp only [Bool.and_eq_true, Bool.not_eq_true', Bool.or_eq_true] at h1
  refine ⟨h1.1, fun hi => ?_⟩
  rcases h1.2 with h2 | h2
  ·simp [hi] at h2
  exact h2
 | x :: pre, is, i, h, q, hq => by
  simp only [List.cons_append, pwOk, Bool.and_eq_true] at h
  exact pwOk_at h.2 q hq
section
variable {P : Program} {ops : Array Oper} {mem perm : List Nat} {R : Act → World → Prop} {a0 : Act}
theorem DI.advance (hnd : onceDst ops = true) (hfit : ∀ (j : Nat) (o : Oper) (d : Tmp), ops[j]? = some o → o.dst = some d → d < a0.tmps.size) (hno : ∀ i, ahead ops i i = false)
  (hnp : perm.Nodup) (hlt : ∀ i ∈ perm, i < ops.size) (hpw : pwOk ops mem perm = true) (hpre : ∀ i q, i ∈ perm → ahead ops q i = true → q ∈ perm) {listed : Array Bool} {a : Act} {w : World} {J : World → Prop} :
  ∀ (is pre : List Nat) (val : Nat → Value) (Fl : List (Nat × (World → Prop))) (aS : Act), DI P ops mem R a0 perm listed a w pre is val Fl J aS →
  ∃ pre' is' val' Fl' aS', DI P ops mem R a0 perm listed a w pre' is' val' Fl' J aS' ∧ (is' = [] ∨ ∃ m r, is' = m :: r ∧ m ∈ mem) := by
 intro is
 induction is with
 | nil => intro pre val Fl aS I; exact ⟨pre, [], val, Fl, aS, I, .inl rfl⟩
 | cons i is ih =>
  intro pre val Fl aS I
  by_cases hm : i ∈ mem
  ·exact ⟨pre, i :: is, val, Fl, aS, I, .inr ⟨i, is, rfl, hm⟩⟩
  have hp := I.perm
  have hip : i ∈ perm := by rw [hp]; simp
  have hi := hlt i hip
  have hnd2 : (pre ++ i :: is).Nodup := hp ▸ hnp
  have hipre : i ∉ pre := fun h => by
   rw [List.nodup_append] at hnd2
   exact hnd2.2.2 i h i (by simp) rfl
  have hio : ops[i]? = some (ops.getD i default) := by simp [Array.getD, hi]
  have hpa : ∀ q, ahead ops q i = true → q ∈ pre := by
   intro q hq
   have hqp := hpre i q hip hq
   rw [hp] at hqp
   rcases List.mem_append.1 hqp with h | h
   ·exact h
   rcases List.mem_cons.1 h with h | h
   ·subst h; rw [hno] at hq; cases hq
   have := (pwOk_at (hp ▸ hpw) q h).1
   rw [this] at hq; cases hq
  have hpb : ∀ q, q ∈ pre → q ≠ i ∧ ahead ops i q = false := by
   intro q hq
   refine ⟨fun e => hipre (e ▸ hq), ?_⟩
   obtain ⟨p1, p2, rfl⟩ := List.append_of_mem hq
   have h2 := hp ▸ hpw
   rw [List.append_assoc, List.cons_append] at h2
   exact (pwOk_at h2 i (by simp)).1
  have hli : listed.getD i false = false := by
   cases h : listed.getD i false with
   | false => rfl
   | true => exact (hipre (I.sub i h)).elim
  have next : ∀ v Fl', (∀ f ∈ Fl, f ∈ Fl') → (∀ f ∈ Fl', f ∈ Fl ∨ ∀ w, J w → f.2 w) → DW P ops mem R (pm ops is) Fl' J (aS.put (ops.getD i default).dst v) →
    ((Region.wanted (ops.getD i default) (yielded ops aS.tmps) = false ∧ v = undef) ∨ (Region.wanted (ops.getD i default) (yielded ops aS.tmps) = true ∧
     ((∀ w, Adds P (ops.getD i default) aS w v) ∨ ((∀ w, J w → Adds P (ops.getD i default) aS w v) ∧ tied ops mem i (pm ops is) = true) ∨ ∃ f : World → Prop, (i, f) ∈ Fl' ∧ ∀ w, f w → Adds P (ops.getD i default) aS w v))) →
    ∃ pre' is' val' Fl' aS', DI P ops mem R a0 perm listed a w pre' is' val' Fl' J aS' ∧ (is' = [] ∨ ∃ m r, is' = m :: r ∧ m ∈ mem) := by
   intro v Fl' hF1 hF2 hdw hob
   have hval : ∀ q, q ∈ pre → val q = if q = i then v else val q := fun q hq => by rw [if_neg (hpb q hq).1]
   refine ih (pre ++ [i]) (fun q => if q = i then v else val q) Fl' _ ⟨I.lsize, I.closed, I.tk.iff (fun _ => Iff.rfl) (fun q hq => hval q (I.sub q hq)), by rw [hp]; simp, ?_, hdw, I.st, I.inv, ?_, fun q hq => by simp [I.sub q hq], ?_, ?_⟩
   ·refine (Tk.put hnd hfit (I.tkS.iff (fun _ => Iff.rfl) hval) hio hipre (if_pos rfl)).iff (fun q => ?_) (fun _ _ => rfl)
    simp [or_comm]
   ·intro f hf hlf
    rcases hF2 f hf with h | h
    ·exact I.fl f h hlf
    exact h
   ·intro q hq hqp
    rcases List.mem_append.1 hqp with h | h
    ·exact I.memd q hq h
    rw [List.mem_singleton.1 h] at hq; exact (hm hq).elim
   intro q hq hlq
   rcases List.mem_append.1 hq with h | h
   ·obtain ⟨o, ai, L, h1, h2, h3, h4, h5, h6⟩ := I.pend q h hlq
    have hqv := hval q h
    refine ⟨o, ai, L, h1, h2.iff (fun _ => Iff.rfl) (fun r hr => hval r (h5 r hr)), h3, h4, fun r hr => by simp [h5 r hr], ?_⟩
    simp only [← hqv]
    rcases h6 with h6 | ⟨h6, h7⟩
    ·exact .inl h6
    refine .inr ⟨h6, ?_⟩
    rcases h7 with h7 | ⟨h7, h8⟩ | ⟨f, h7, h8⟩
    ·exact .inl h7
    ·refine .inr (.inl ⟨h7, ?_⟩)
     simp only [pm, List.map_cons, tied] at h8
     rw [show mem.contains i = false by simpa using hm] at h8
     exact h8
    exact .inr (.inr ⟨f, hF1 _ h7, h8⟩)
   have := List.mem_singleton.1 h
   subst this
   refine ⟨_, aS, (· ∈ pre), hio, I.tkS.iff (fun _ => Iff.rfl) hval, hpa, hpb, fun r hr => by simp [hr], ?_⟩
   simpa using hob
  have hdw := I.dw
  simp only [pm, List.map_cons, DW] at hdw
  rw [if_neg (by simpa using hm)] at hdw
  rcases hdw with ⟨h1, h2⟩ | ⟨h1, v, ⟨h2, h3⟩ | ⟨h2, h3, h4⟩ | ⟨f, h2, h3, h4⟩⟩
  ·exact next undef Fl (fun _ h => h) (fun _ h => .inl h) h2 (.inl ⟨h1, rfl⟩)
  ·exact next v Fl (fun _ h => h) (fun _ h => .inl h) h3 (.inr ⟨h1, .inl h2⟩)
  ·exact next v Fl (fun _ h => h) (fun _ h => .inl h) h4 (.inr ⟨h1, .inr (.inl ⟨h2, h3⟩)⟩)
  refine next v ((i, f) :: Fl) (fun _ h => List.mem_cons_of_mem _ h) (fun g hg => ?_) h4 (.inr ⟨h1, .inr (.inr ⟨f, by simp, h2⟩)⟩)
  rcases List.mem_cons.1 hg with rfl | hg
  ·exact .inr h3
  exact .inl hg
theorem FlOk.at {m : Nat} {J : World → Prop} : ∀ {l : List (Nat × (World → Prop))}, FlOk ops m J l → ∀ f ∈ l, ahead ops f.1 m = false → ∀ w, J w → f.2 w
 | g :: l, h, f, hf, ha => by
  rcases List.mem_cons.1 hf with rfl | hf
  ·have := h.1; rw [ha] at this; exact this
  exact FlOk.at h.2 f hf ha
theorem any_walk {Q : Exit → Act → World → Prop} (hbk : backward ops = true) (hnd : onceDst ops = true) (hfit : ∀ (j : Nat) (o : Oper) (d : Tmp), ops[j]? = some o → o.dst = some d → d < a0.tmps.size)
  (hsel : ∀ (j : Nat) (o : Oper), ops[j]? = some o → notSel o = true) (hlook : ∀ (i : Nat) (o : Oper), ops[i]? = some o → ∀ t ∈ o.looksAt ops, ∀ (q : Nat) (o' : Oper), ops[q]? = some o' → o'.dst = some t → q = i ∨ ahead ops q i = true ∨ ahead ops i q = true)
  (hno : ∀ i, ahead ops i i = false) (hnp : perm.Nodup) (hlt : ∀ i, i ∈ perm ↔ i < ops.size) (hpw : pwOk ops mem perm = true)
  (hfin : ∀ a w, R a w → Q .normal a w) :
  ∀ (fuel : Nat) (listed : Array Bool) (a : Act) (w : World) (pre is : List Nat) (val : Nat → Value) (Fl : List (Nat × (World → Prop))) (J : World → Prop) (aS : Act), toCome ops listed ≤ fuel → DI P ops mem R a0 perm listed a w pre is val Fl J aS → wpAny P .any ops Q fuel listed a w := by
 have hpre : ∀ i q, i ∈ perm → ahead ops q i = true → q ∈ perm := by
  intro i q _ hq
  refine (hlt q).2 ?_
  have hr := ahead_reach hq
  have back : ∀ (p k : Nat) (o : Oper), ops[p]? = some o → binder o k = true → k < ops.size := by
   intro p k o hp hk
   have hpl := (Array.getElem?_eq_some_iff.1 hp).1
   unfold binder at hk
   obtain ⟨e, he, hb⟩ := List.any_eq_true.1 hk
   rw [Bool.and_eq_true] at hb
   have h1 := List.all_eq_true.1 hbk (o, p) (by rw [List.mem_iff_getElem?]; exact ⟨p, by simp [hp]⟩)
   have h2 := List.all_eq_true.1 h1 e he
   rw [hb.1] at h2
   have h3 : e.on = k := by simpa using hb.2
   simp at h2
   omega
  clear hq
  induction hr with
  | one h hb => exact back _ _ _ h hb
  | step h hb _ ih => exact ih ((hlt _).2 (back _ _ _ h hb))
 have adv := @DI.advance P ops mem perm R a0 hnd hfit hno hnp (fun i h => (hlt i).1 h) hpw hpre
 have fin : ∀ listed a w pre is val Fl J aS, DI P ops mem R a0 perm listed a w pre is val Fl J aS → Region.ready .any ops listed = [] → Q .normal a w := by
  intro listed a w pre is val Fl J aS I hr
  have hall := all_listed hbk I.lsize hr
  have his : is = [] := by
   cases is with
   | nil => rfl
   | cons i is =>
    have hip : i ∈ perm := by rw [I.perm]; simp
    have := I.sub i (hall i ((hlt i).1 hip))
    have hn2 : (pre ++ i :: is).Nodup := I.perm ▸ hnp
    rw [List.nodup_append] at hn2
    exact (hn2.2.2 i this i (by simp) rfl).elim
  subst his
  have hdw := I.dw
  simp only [pm, List.map_nil, DW] at hdw
  have heq : a = aS := act_ext (by rw [I.tk.size, I.tkS.size]) (by rw [I.tk.defers, I.tkS.defers]) fun t => I.tk.agree I.tkS t fun q o hq _ =>
   ⟨I.sub q, fun _ => hall q (Array.getElem?_eq_some_iff.1 hq).1⟩
  rw [heq]
  exact hfin _ _ (hdw w I.inv)
 intro fuel
 induction fuel with
 | zero =>
  intro listed a w pre is val Fl J aS hc I
  have hr : Region.ready .any ops listed = [] := by
   rw [List.eq_nil_iff_forall_not_mem]
   intro i hi
   obtain ⟨o, _, hi2, hl, _⟩ := mem_ready hi
   have := toCome_set hi2 hl
   omega
  exact ⟨hr, fin _ _ _ _ _ _ _ _ _ I hr⟩
 | succ fuel ih =>
  intro listed a w pre is val Fl J aS hc I
  obtain ⟨pre, is, val, Fl, aS, I, hhead⟩ := adv is pre val Fl aS I
  refine ⟨fin _ _ _ _ _ _ _ _ _ I, fun i hi => ?_⟩
  obtain ⟨o, ho, hi2, hl, hpr⟩ := mem_ready hi
  have hlf : listed.getD i false = false := by
   simp only [Array.getD_eq_getD_getElem?] at hl ⊢
   rw [Array.getElem?_eq_getElem (by rw [I.lsize]; exact hi2)] at hl ⊢
   simpa using hl
  have hprT : ∀ j, ahead ops j i = true → listed.getD j false = true := by
   intro j hj
   cases ahead_reach hj with
   | one h hb => rw [ho] at h; cases h; exact hpr _ hb
   | step h hb hr => rw [ho] at h; cases h; exact hr.listed I.closed (hpr _ hb)
  have hnot : ∀ q, ahead ops i q = true → listed.getD q false = false := by
   intro q hq
   cases hlq : listed.getD q false with
   | false => rfl
   | true => rw [(ahead_reach hq).listed I.closed hlq] at hlf; cases hlf
  have hct : toCome ops (listed.setIfInBounds i true) ≤ fuel := by have := toCome_set hi2 hl; omega
  have hls : ∀ q, (listed.setIfInBounds i true).getD q false = true ↔ q = i ∨ listed.getD q false = true := by
   intro q
   constructor
   ·exact getD_false_set
   rintro (rfl | h)
   ·simp only [Array.getD_eq_getD_getElem?]
    rw [Array.getElem?_setIfInBounds_self_of_lt (by rw [I.lsize]; exact hi2)]
    rfl
   exact getD_set_true h
  have hclosed : ∀ (j : Nat) (oj : Oper), ops[j]? = some oj → (listed.setIfInBounds i true).getD j false = true → ∀ k, binder oj k = true → (listed.setIfInBounds i true).getD k false = true := by
   intro j oj hj hlj k hk
   rcases (hls j).1 hlj with e | e
   ·subst e; rw [ho] at hj; cases hj
    exact (hls k).2 (.inr (hpr k hk))
   exact (hls k).2 (.inr (I.closed j oj hj e k hk))
  have hlf2 : ∀ q, (listed.setIfInBounds i true).getD q false = false → q ≠ i ∧ listed.getD q false = false := by
   intro q hq
   refine ⟨fun e => ?_, ?_⟩
   ·rw [(hls q).2 (.inl e)] at hq; cases hq
   cases h : listed.getD q false with
   | false => rfl
   | true => rw [(hls q).2 (.inr h)] at hq; cases hq
  have agr : ∀ (ai : Act) (L : Nat → Prop), Tk ops L val a0 ai → (∀ q, ahead ops q i = true → L q) → (∀ q, L q → q ≠ i ∧ ahead ops i q = false) → execOp ai.eval o = execOp a.eval o ∧ Region.wanted o (yielded ops ai.tmps) = Region.wanted o (yielded ops a.tmps) := by
   intro ai L hT h1 h2
   refine same_of (by rw [hT.size, I.tk.size]) (hsel i o ho) fun t ht => hT.agree I.tk t fun q o' hq hd => ?_
   rcases hlook i o ho t ht q o' hq hd with h | h | h
   ·subst h
    exact ⟨fun h => ((h2 _ h).1 rfl).elim, fun h => by rw [hlf] at h; cases h⟩
   ·exact ⟨fun _ => hprT q h, fun _ => h1 q h⟩
   exact ⟨fun h3 => (by rw [(h2 q h3).2] at h; cases h), fun h3 => by rw [hnot q h] at h3; cases h3⟩
  unfold wpOp
  rw [ho]
  simp only []
  by_cases hip : i ∈ pre
  ·obtain ⟨o', ai, L, h1, h2, h3, h4, h5, h6⟩ := I.pend i hip hlf
   rw [ho] at h1; cases h1
   obtain ⟨he, hw⟩ := agr ai L h2 h3 h4
   have next : ∀ w', Ext w w' → DI P ops mem R a0 perm (listed.setIfInBounds i true) (a.put o.dst (val i)) w' pre is val Fl J aS := by
    intro w' hx
    refine ⟨by simpa using I.lsize, hclosed, (Tk.put hnd hfit I.tk ho (by rw [hlf]; decide) rfl).iff (fun q => (hls q).symm) (fun _ _ => rfl), I.perm, I.tkS, I.dw, I.st, I.st _ _ I.inv hx, fun f hf hq => I.fl f hf (hlf2 _ hq).2, fun q hq => ?_, fun q hq hqp => (hls q).2 (.inr (I.memd q hq hqp)), fun q hq hlq => I.pend q hq (hlf2 q hlq).2⟩
    rcases (hls q).1 hq with h | h
    ·subst h; exact hip
    exact I.sub q h
   rcases h6 with ⟨h6, h7⟩ | ⟨h6, h7⟩
   ·rw [← hw, h6]
    simp only [Bool.false_eq_true, if_false]
    have := next w (Ext.rfl' _)
    rw [h7] at this
    exact ih _ _ _ _ _ _ _ _ _ hct this
   rw [← hw, h6]
   simp only [if_true]
   have hA : Adds P o ai w (val i) := by
    rcases h7 with h7 | ⟨h7, -⟩ | ⟨f, h7, h8⟩
    ·exact h7 w
    ·exact h7 w I.inv
    exact h8 w (I.fl _ h7 hlf w I.inv)
   refine .inl (Oper.wp_mono (fun a' w' ⟨v, ha, hv, hx⟩ => ?_) (wp_move he (by rw [h2.size, I.tk.size]) hA))
   rw [ha, hv]
   exact ih _ _ _ _ _ _ _ _ _ hct (next w' hx)
  have hin : i ∈ is := by
   have := (hlt i).2 hi2
   rw [I.perm] at this
   rcases List.mem_append.1 this with h | h
   ·exact (hip h).elim
   exact h
  rcases hhead with h | ⟨m, r, h, hm⟩
  ·rw [h] at hin; cases hin
  subst h
  have hnp2 : (pre ++ m :: r).Nodup := I.perm ▸ hnp
  have hpw2 : pwOk ops mem (pre ++ m :: r) = true := I.perm ▸ hpw
  have hmp2 : m ∉ pre := fun h => by
   rw [List.nodup_append] at hnp2
   exact hnp2.2.2 m h m (by simp) rfl
  have him : i = m := by
   rcases List.mem_cons.1 hin with h | h
   ·exact h
   exact (hmp2 (I.sub m (hprT m ((pwOk_at hpw2 i h).2 hm)))).elim
  subst him
  have hpb : ∀ q, q ∈ pre → q ≠ i ∧ ahead ops i q = false := by
   intro q hq
   refine ⟨fun e => hmp2 (e ▸ hq), ?_⟩
   obtain ⟨p1, p2, rfl⟩ := List.append_of_mem hq
   rw [List.append_assoc, List.cons_append] at hpw2
   exact (pwOk_at hpw2 i (by simp)).1
  obtain ⟨he, hw⟩ := agr aS (· ∈ pre) I.tkS (fun q hq => I.sub q (hprT q hq)) hpb
  have hdw := I.dw
  simp only [pm, List.map_cons, DW] at hdw
  rw [if_pos (by simpa using hm)] at hdw
  have hoo : ops.getD i default = o := by simp [Array.getD_eq_getD_getElem?, ho]
  rw [hoo] at hdw
  suffices nx : ∀ v J' w', (∀ w w', J' w → Ext w w' → J' w') → J' w' → (∀ f ∈ Fl, ahead ops f.1 i = false → ∀ w, listed.getD f.1 false = false → J' w → f.2 w) → DW P ops mem R (pm ops r) Fl J' (aS.put o.dst v) → wpAny P .any ops Q fuel (listed.setIfInBounds i true) (a.put o.dst v) w' by
   rcases hdw with ⟨h1, h2⟩ | ⟨h1, h2⟩
   ·rw [← hw, h1]
    simp only [Bool.false_eq_true, if_false]
    exact nx undef J w I.st I.inv (fun f hf _ w hl hJ => I.fl f hf hl w hJ) h2
   rw [← hw, h1]
   simp only [if_true]
   refine .inl (Oper.wp_mono (fun a' w' ⟨v, ha, J', hst, hJ', hfl, hdw'⟩ => ?_) (wp_move he (by rw [I.tkS.size, I.tk.size]) (h2 w I.inv)))
   rw [ha]
   exact nx v J' w' hst hJ' (fun f hf ha w _ => hfl.at f hf ha w) hdw'
  intro v J' w' hst hJ' hfl hdw'
  have hval : ∀ q, q ∈ pre → val q = if q = i then v else val q := fun q hq => by rw [if_neg (hpb q hq).1]
  refine ih _ _ _ (pre ++ [i]) r (fun q => if q = i then v else val q) Fl J' (aS.put o.dst v) hct ⟨by simpa using I.lsize, hclosed, ?_, by rw [I.perm]; simp, ?_, hdw', hst, hJ', ?_, ?_, ?_, ?_⟩
  ·exact (Tk.put hnd hfit (I.tk.iff (fun _ => Iff.rfl) fun q hq => hval q (I.sub q hq)) ho (by rw [hlf]; decide) (if_pos rfl)).iff (fun q => (hls q).symm) (fun _ _ => rfl)
  ·refine (Tk.put hnd hfit (I.tkS.iff (fun _ => Iff.rfl) hval) ho hmp2 (if_pos rfl)).iff (fun q => ?_) (fun _ _ => rfl)
   simp [or_comm]
  ·intro f hf hq
   refine fun w => hfl f hf ?_ w (hlf2 _ hq).2
   cases ha : ahead ops f.1 i with
   | false => rfl
   | true => have h9 := (hlf2 _ hq).2; rw [hprT _ ha] at h9; cases h9
  ·intro q hq
   rcases (hls q).1 hq with h | h
   ·subst h; simp
   simp [I.sub q h]
  ·intro q hq hqp
   rcases List.mem_append.1 hqp with h | h
   ·exact (hls q).2 (.inr (I.memd q hq h))
   exact (hls q).2 (.inl (List.mem_singleton.1 h))
  intro q hq hlq
  obtain ⟨hqi, hlq⟩ := hlf2 q hlq
  have hqp : q ∈ pre := by
   rcases List.mem_append.1 hq with h | h
   ·exact h
   exact (hqi (List.mem_singleton.1 h)).elim
  obtain ⟨o2, ai, L, h1, h2, h3, h4, h5, h6⟩ := I.pend q hqp hlq
  have hqv := hval q hqp
  refine ⟨o2, ai, L, h1, h2.iff (fun _ => Iff.rfl) (fun r hr => hval r (h5 r hr)), h3, h4, fun r hr => by simp [h5 r hr], ?_⟩
  simp only [← hqv]
  rcases h6 with h6 | ⟨h6, h7⟩
  ·exact .inl h6
  refine .inr ⟨h6, ?_⟩
  rcases h7 with h7 | ⟨h7, h8⟩ | ⟨f, h7, h8⟩
  ·exact .inl h7
  ·exfalso
   simp only [pm, List.map_cons, tied] at h8
   rw [show mem.contains i = true by simpa using hm] at h8
   rw [hprT q h8] at hlq; cases hlq
  exact .inr (.inr ⟨f, h7, h8⟩)
end
theorem ahead_lt {ops : Array Oper} (hbk : backward ops = true) {i p : Nat} (h : ahead ops i p = true) : i < p := by
 have hr := ahead_reach h
 have back : ∀ (p k : Nat) (o : Oper), ops[p]? = some o → binder o k = true → k < p := by
  intro p k o hp hk
  unfold binder at hk
  obtain ⟨e, he, hb⟩ := List.any_eq_true.1 hk
  rw [Bool.and_eq_true] at hb
  have h1 := List.all_eq_true.1 hbk (o, p) (by rw [List.mem_iff_getElem?]; exact ⟨p, by simp [hp]⟩)
  have h2 := List.all_eq_true.1 h1 e he
  rw [hb.1] at h2
  have h3 : e.on = k := by simpa using hb.2
  simp at h2
  omega
 clear h
 induction hr with
 | one h hb => exact back _ _ _ h hb
 | step h hb _ ih => exact Nat.lt_trans ih (back _ _ _ h hb)
section
variable {n : Nat} {P : Program} {ops : Array Oper} {Q : Exit → Act → World → Prop} {a0 : Act} {w0 : World} {B : Base} {H : List Res}
theorem any_w {J : World → Prop} (mem perm : List Nat) (k : Nat) (hsize : a0.tmps.size = k) (hck : okDW ops mem perm k = true) (hst : ∀ w w', J w → Ext w w' → J w') (hv : J w0)
  (h : DW P ops mem (Q .normal) (pm ops perm) [] J a0) : wpAny P .any ops Q ops.size (Array.replicate ops.size false) a0 { w0 with drawn := w0.drawn + 1 } := by
 unfold okDW at hck
 simp only [Bool.and_eq_true] at hck
 obtain ⟨hbk, hnd, hft, hns, hnp, hpl, hpa, hpw, hlk⟩ := hck
 have hnp := of_decide_eq_true hnp
 have hpl := of_decide_eq_true hpl
 have hlt : ∀ i, i ∈ perm → i < ops.size := fun i hi => by simpa using List.all_eq_true.1 hpa i hi
 have hall : ∀ i, i ∈ perm ↔ i < ops.size := fun i => ⟨hlt i, fun hi => by
  have hsub : perm ⊆ List.range ops.size := fun x hx => List.mem_range.2 (hlt x hx)
  exact Classical.byContradiction fun hni => by
   have h1 : (i :: perm).Nodup := List.nodup_cons.2 ⟨hni, hnp⟩
   have h2 : (i :: perm).length ≤ (List.range ops.size).length := List.Nodup.length_le_of_subset h1 (fun x hx => by
    rcases List.mem_cons.1 hx with rfl | hx
    ·exact List.mem_range.2 hi
    exact hsub hx)
   simp at h2
   omega⟩
 have hfit : ∀ (j : Nat) (o : Oper) (d : Tmp), ops[j]? = some o → o.dst = some d → d < a0.tmps.size := by
  intro j o d hj hd
  have := List.all_eq_true.1 hft o (by rw [List.mem_iff_getElem?]; exact ⟨j, by simpa using hj⟩)
  rw [hd] at this
  rw [hsize]
  simpa using this
 have hnl : ∀ j, (Array.replicate ops.size false).getD j false = true → False := by
  intro j hl
  simp only [Array.getD_eq_getD_getElem?] at hl
  by_cases h : j < ops.size <;> simp [h] at hl
 refine any_walk (R := Q .normal) hbk hnd hfit (fun j o hj => ?_) (fun i o hi t ht q o' hq hd => ?_) (fun i => ?_) hnp hall hpw (fun _ _ h => h) _ _ _ _ [] perm (fun _ => undef) [] J a0 ?_ ?_
 ·obtain ⟨hj2, rfl⟩ := Array.getElem?_eq_some_iff.1 hj
  exact (Array.all_eq_true.1 hns) j hj2
 ·have h1 := List.all_eq_true.1 hlk (o, i) (by rw [List.mem_iff_getElem?]; exact ⟨i, by simp [hi]⟩)
  have h2 := List.all_eq_true.1 h1 t ht
  have h3 := List.all_eq_true.1 h2 (o', q) (by rw [List.mem_iff_getElem?]; exact ⟨q, by simp [hq]⟩)
  simpa [hd] using h3
 ·cases h : ahead ops i i with
  | false => rfl
  | true => have := ahead_lt hbk h; omega
 ·unfold toCome
  exact Nat.le_trans (List.countP_le_length) (by simp)
 exact ⟨by simp, fun j o hj hl => (hnl j hl).elim, (Tk.start (val := fun _ => undef)).iff (fun q => ⟨False.elim, hnl q⟩) (fun _ _ => rfl), rfl, (Tk.start (val := fun _ => undef)).iff (fun q => by simp) (fun _ _ => rfl), h, hst, hst _ _ hv (Ext.drew' w0), fun f hf => (by cases hf), fun q hq => (hnl q hq).elim, fun q _ hq => (by cases hq), fun i hi => (by cases hi)⟩
def opAt : List Oper → Nat → Oper
 | [], _ => default
 | o :: _, 0 => o
 | _ :: l, i + 1 => opAt l i
def qm (l : List Oper) : List Nat → List (Nat × Oper)
 | [] => []
 | i :: is => (i, opAt l i) :: qm l is
theorem opAt_get (l : List Oper) (i : Nat) : opAt l i = l.toArray.getD i default := by
 induction l generalizing i with
 | nil => simp [opAt]
 | cons o l ih => cases i with
  | zero => simp [opAt, Array.getD_eq_getD_getElem?]
  | succ i => rw [opAt, ih]; simp [Array.getD_eq_getD_getElem?]
theorem qm_pm (l : List Oper) (is : List Nat) : qm l is = pm l.toArray is := by
 induction is with
 | nil => rfl
 | cons i is ih => rw [qm, ih, opAt_get]; rfl
theorem yP {n : Nat} {P : Program} {ops : Array Oper} {Q : Exit → Act → World → Prop} {a : Act} {w : World} {rest : List Oper} {o : Oper} (hw : Region.wanted o (yielded ops a.tmps) = false) (h : wpListIn Fence.wide n P ops Q rest (a.put o.dst undef) w) : wpListIn Fence.wide n P ops Q (o :: rest) a w := wpi_not (fun _ => trivial) hw h
theorem yN {n : Nat} {P : Program} {ops : Array Oper} {Q : Exit → Act → World → Prop} {a : Act} {w : World} {rest : List Oper} {o : Oper} (hw : (Region.wanted o (yielded ops a.tmps), a.put o.dst undef) = (false, a)) (h : wpListIn Fence.wide n P ops Q rest a w) : wpListIn Fence.wide n P ops Q (o :: rest) a w :=
 yP (Prod.mk.inj hw).1 ((Prod.mk.inj hw).2.symm ▸ h)
theorem rW {l : List Oper} {id : Nat} (hm : P.follows .mixedOrders = true) (mem perm : List Nat) (k : Nat) (hsize : a0.tmps.size = k) (hck : okDW l.toArray mem perm k = true) (hv : Inv B H w0)
  (h : DW P l.toArray mem (Q .normal) (qm l perm) [] (Inv B H) a0) : (Code.region id l.toArray true).wpIn Fence.wide n P Q a0 w0 :=
 wpIn_wide.2 (wp_region_any hm (any_w mem perm k hsize hck (fun _ _ h he => h.ext he) hv (qm_pm l perm ▸ h)))
end
section
variable {P : Program} {ops : Array Oper} {mem : List Nat} {R : Act → World → Prop} {i : Nat} {o : Oper} {is : List (Nat × Oper)} {Fl : List (Nat × (World → Prop))} {J : World → Prop} {a : Act} {v : Value} {x y z : Operand} {B : Base} {H : List Res} {w w' : World}
theorem Ex.addsv (h : Ex P a o w v w) : Adds P o a w v := by
 unfold Adds Oper.wp
 unfold Ex at h
 rw [h]
 exact ⟨v, rfl, rfl, Ext.rfl' _⟩
theorem dE (h : ∀ w, J w → R a w) : DW P ops mem R [] Fl J a := h
theorem dP (hw : Region.wanted o (yielded ops a.tmps) = false) (h : DW P ops mem R is Fl J (a.put o.dst undef)) : DW P ops mem R ((i, o) :: is) Fl J a := by
 unfold DW; exact .inl ⟨hw, h⟩
theorem dN (hw : (Region.wanted o (yielded ops a.tmps), a.put o.dst undef) = (false, a)) (h : DW P ops mem R is Fl J a) : DW P ops mem R ((i, o) :: is) Fl J a :=
 dP (Prod.mk.inj hw).1 ((Prod.mk.inj hw).2.symm ▸ h)
theorem dG (v : Value) (hw : (mem.contains i, Region.wanted o (yielded ops a.tmps)) = (false, true)) (hr : ∀ {w}, Ex P a o w v w) (h : DW P ops mem R is Fl J (a.put o.dst v)) : DW P ops mem R ((i, o) :: is) Fl J a := by
 obtain ⟨h1, h2⟩ := Prod.mk.inj hw
 unfold DW; refine .inr ⟨h2, ?_⟩
 rw [if_neg (by simp only [h1]; decide)]
 exact ⟨v, .inl ⟨fun w => hr.addsv, h⟩⟩
theorem dL (v : Value) (hw : (mem.contains i, Region.wanted o (yielded ops a.tmps), tied ops mem i is) = (false, true, true)) (hr : ∀ {w}, J w → Ex P a o w v w) (h : DW P ops mem R is Fl J (a.put o.dst v)) : DW P ops mem R ((i, o) :: is) Fl J a := by
 obtain ⟨h1, h2⟩ := Prod.mk.inj hw
 obtain ⟨h2, h3⟩ := Prod.mk.inj h2
 unfold DW; refine .inr ⟨h2, ?_⟩
 rw [if_neg (by simp only [h1]; decide)]
 exact ⟨v, .inr (.inl ⟨fun w hJ => (hr hJ).addsv, h3, h⟩)⟩
theorem dF (v : Value) (hw : (mem.contains i, Region.wanted o (yielded ops a.tmps)) = (false, true)) (hr : ∀ {w}, J w → Ex P a o w v w) (h : ∀ f : World → Prop, (∀ w, Ex P a o w v w → f w) → DW P ops mem R is ((i, f) :: Fl) J (a.put o.dst v)) : DW P ops mem R ((i, o) :: is) Fl J a := by
 obtain ⟨h1, h2⟩ := Prod.mk.inj hw
 unfold DW; refine .inr ⟨h2, ?_⟩
 rw [if_neg (by simp only [h1]; decide)]
 exact ⟨v, .inr (.inr ⟨fun w => Ex P a o w v w, fun w hx => hx.addsv, fun w hJ => hr hJ, h _ fun _ hx => hx⟩)⟩
theorem dC (v : Value) {f : FuncId} {xs : Array Operand} {ts : Array TypeId} {l : List Value} (hf : Callable P f) (hw : (mem.contains i, Region.wanted o (yielded ops a.tmps), tied ops mem i is) = (false, true, true)) (ho : o.op = .call { callee := .value (.func f), args := xs, argTypes := ts }) (hx : xs.toList.map a.eval = l)
  (hc : ∀ {w}, J w → Calls P f l.toArray w fun e w' => e = .returned v ∧ Ext w w') (h : DW P ops mem R is Fl J (a.put o.dst v)) : DW P ops mem R ((i, o) :: is) Fl J a := by
 obtain ⟨h1, h2⟩ := Prod.mk.inj hw
 obtain ⟨h2, h3⟩ := Prod.mk.inj h2
 unfold DW; refine .inr ⟨h2, ?_⟩
 rw [if_neg (by simp only [h1]; decide)]
 refine ⟨v, .inr (.inl ⟨fun w hJ => ?_, h3, h⟩)⟩
 have hs : StepMem P ops (fun vs w' => ∃ u, vs = [u] ∧ u = v ∧ Ext w w') QF o a w [] := stepMem_calls hf h2 ho (by rw [← hx]; apply Array.ext'; simp) ((hc hJ).mono fun e w' ⟨h1, h2⟩ => ⟨v, h1, v, rfl, rfl, h2⟩)
 unfold StepMem at hs
 rw [if_pos h2] at hs
 exact Oper.wp_mono (fun b w' ⟨u, h1, u', h3, h4⟩ => by cases h3; exact ⟨u, h1, h4⟩) hs
theorem dD (v : Value) {f : FuncId} {xs : Array Operand} {ts : Array TypeId} {l : List Value} (hf : Callable P f) (hw : (mem.contains i, Region.wanted o (yielded ops a.tmps)) = (false, true)) (ho : o.op = .call { callee := .value (.func f), args := xs, argTypes := ts }) (hx : xs.toList.map a.eval = l)
  (hc : ∀ {w}, J w → Calls P f l.toArray w fun e w' => e = .returned v ∧ Ext w w') (h : ∀ g : World → Prop, (∀ w, (Calls P f l.toArray w fun e w' => e = .returned v ∧ Ext w w') → g w) → DW P ops mem R is ((i, g) :: Fl) J (a.put o.dst v)) : DW P ops mem R ((i, o) :: is) Fl J a := by
 obtain ⟨h1, h2⟩ := Prod.mk.inj hw
 unfold DW; refine .inr ⟨h2, ?_⟩
 rw [if_neg (by simp only [h1]; decide)]
 refine ⟨v, .inr (.inr ⟨fun w => Calls P f l.toArray w fun e w' => e = .returned v ∧ Ext w w', fun w hc => ?_, fun w hJ => hc hJ, h _ fun _ hx => hx⟩)⟩
 have hs : StepMem P ops (fun vs w' => ∃ u, vs = [u] ∧ u = v ∧ Ext w w') QF o a w [] := stepMem_calls hf h2 ho (by rw [← hx]; apply Array.ext'; simp) (hc.mono fun e w' ⟨h1, h2⟩ => ⟨v, h1, v, rfl, rfl, h2⟩)
 unfold StepMem at hs
 rw [if_pos h2] at hs
 exact Oper.wp_mono (fun b w' ⟨u, h1, u', h3, h4⟩ => by cases h3; exact ⟨u, h1, h4⟩) hs
theorem dM (v : Value) (hw : (mem.contains i, Region.wanted o (yielded ops a.tmps), o.op, a.eval x) = (false, true, .move x, v)) (h : DW P ops mem R is Fl J (a.put o.dst v)) : DW P ops mem R ((i, o) :: is) Fl J a := by
 simp only [Prod.mk.injEq] at hw
 exact dG v (by rw [hw.1, hw.2.1]) (ex_move hw.2.2.1 hw.2.2.2) h
theorem dA (v : Value) (hw : (mem.contains i, Region.wanted o (yielded ops a.tmps), o.op, a.eval x) = (false, true, .assign x, v)) (h : DW P ops mem R is Fl J (a.put o.dst v)) : DW P ops mem R ((i, o) :: is) Fl J a := by
 simp only [Prod.mk.injEq] at hw
 exact dG v (by rw [hw.1, hw.2.1]) (ex_assign hw.2.2.1 hw.2.2.2) h
theorem dK (b : Bool) (v : Value) (hw : (mem.contains i, Region.wanted o (yielded ops a.tmps), o.op, a.eval x, a.eval (cond b y z)) = (false, true, .pick x y z, .bool b, v)) (h : DW P ops mem R is Fl J (a.put o.dst v)) : DW P ops mem R ((i, o) :: is) Fl J a := by
 simp only [Prod.mk.injEq] at hw
 exact dG v (by rw [hw.1, hw.2.1]) (ex_pick (b := b) hw.2.2.1 hw.2.2.2.1 (by cases b <;> exact hw.2.2.2.2)) h
def JN (P : Program) (ops : Array Oper) (mem : List Nat) (R : Act → World → Prop) (i : Nat) (o : Oper) (is : List (Nat × Oper)) (Fl : List (Nat × (World → Prop))) (a : Act) (vs : List Value) (w : World) : Prop :=
 ∃ v, vs = [v] ∧ ∃ J' : World → Prop, (∀ w w', J' w → Ext w w' → J' w') ∧ J' w ∧ FlOk ops i J' Fl ∧ DW P ops mem R is Fl J' (a.put o.dst v)
theorem dS (hw : (mem.contains i, Region.wanted o (yielded ops a.tmps)) = (true, true)) (hs : ∀ w, J w → StepMem P ops (JN P ops mem R i o is Fl a) QF o a w []) : DW P ops mem R ((i, o) :: is) Fl J a := by
 obtain ⟨h1, h2⟩ := Prod.mk.inj hw
 unfold DW; refine .inr ⟨h2, ?_⟩
 rw [if_pos h1]
 intro w hJ
 have := hs w hJ
 unfold StepMem at this
 rw [if_pos h2] at this
 exact Oper.wp_mono (fun b w' ⟨v, hb, u, hu, J', h⟩ => by cases hu; exact ⟨v, hb, J', h⟩) this
theorem fN : FlOk ops i J [] := trivial
theorem fK {j : Nat} {f : World → Prop} (h : ahead ops j i = true) (t : FlOk ops i J Fl) : FlOk ops i J ((j, f) :: Fl) := ⟨by rw [h]; trivial, t⟩
theorem fC {j : Nat} {f : World → Prop} (h : ∀ w, J w → f w) (t : FlOk ops i J Fl) : FlOk ops i J ((j, f) :: Fl) := ⟨by cases ahead ops j i <;> first | trivial | exact h, t⟩
theorem dW (hv : Inv B H w') (h : DW P ops mem R is [] (Inv B H) (a.put o.dst v)) : JN P ops mem R i o is [] a ([] ++ [v]) w' := ⟨v, rfl, Inv B H, fun _ _ h he => h.ext he, hv, trivial, h⟩
theorem dV (hv : Inv B H w') (hf : FlOk ops i (Inv B H) Fl) (h : DW P ops mem R is Fl (Inv B H) (a.put o.dst v)) : JN P ops mem R i o is Fl a ([] ++ [v]) w' := ⟨v, rfl, Inv B H, fun _ _ h he => h.ext he, hv, hf, h⟩
end
end Go.Pm
/- More rules of single operations: calls of function values, comparisons of texts, rows that are made. -/
namespace Go.Pm
open Go.RowKit
theorem ok_full {b n : Nat} (h : n ≤ 1000000000000) : SliceOk (some ⟨b, 0, none⟩) n n := ⟨Nat.le_refl _, by unfold maxLen; omega, fun h => by cases h⟩
theorem rd_all {w : World} {b : Nat} {L : List Value} {t : TypeId} (h : Blk w b L t) : Src w (some ⟨b, 0, none⟩) L := src_mid (pre := []) (post := []) (by simpa using h) rfl
theorem Inv.cellRow {B : Base} {b n c size : Nat} {L : List Value} {e : TypeId} {H : List Res} {w : World} (hv : Inv B (Res.cell b L e :: H) w) (hL : L.length = c * size) (hn : n ≤ c) (hm : c ≤ maxLen) : Inv B (Res.row e size (.slice (some ⟨b, 0, none⟩) n c) n (L.take (n * size)) :: H) w := by
 have hle : n * size ≤ c * size := Nat.mul_le_mul_right _ hn
 refine hv.as (Res.row e size (.slice (some ⟨b, 0, none⟩) n c) n (L.take (n * size))) ⟨by rw [List.length_take, hL]; omega, .inr ⟨b, c, L.toArray, rfl, Nat.zero_le _, hv.head, hn, hm, ?_, rfl⟩⟩ ?_
 ·simp [hL]
 simp [Value.ownBlock]
theorem Inv.rowCell {B : Base} {n c size b : Nat} {e : TypeId} {xs : List Value} {H : List Res} {w : World} (hv : Inv B (Res.row e size (.slice (some ⟨b, 0, none⟩) n c) n xs :: H) w) :
  ∃ L : List Value, L.length = c * size ∧ L.take (n * size) = xs ∧ n ≤ c ∧ c ≤ maxLen ∧ Inv B (Res.cell b L e :: H) w := by
 have hr : w.ownsRow 0 e size (.slice (some ⟨b, 0, none⟩) n c) n xs := hv.head
 rcases hr.2 with ⟨h1, h2⟩ | ⟨g, cap, cur, h1, hb, hg, hnc, hcm, hcs, htake⟩
 ·cases h1
 simp only [Value.slice.injEq, Option.some.injEq, Addr.mk.injEq] at h1
 obtain ⟨⟨rfl, -, -⟩, -, rfl⟩ := h1
 exact ⟨cur.toList, by simpa using hcs, htake, hnc, hcm, hv.as (Res.cell b cur.toList e) (by simpa using hg) (by simp [Value.ownBlock])⟩
theorem Inv.rowNil {B : Base} {H : List Res} {w : World} (hv : Inv B H w) (e : TypeId) (size : Nat) : Inv B (Res.row e size (.slice none 0 0) 0 [] :: H) w :=
 hv.new (Ext.rfl' _) (Res.row e size (.slice none 0 0) 0 []) (World.ownsRow_nil _ _ _ _) (fun b hb => by simp [Value.ownBlock] at hb) (by simp [Value.ownBlock])
theorem Inv.rowOk {B : Base} {e : TypeId} {size n c : Nat} {ad : Option Addr} {xs : List Value} {H : List Res} {w : World} (hv : Inv B (Res.row e size (.slice ad n c) n xs :: H) w) : SliceOk ad n c ∧ Src w ad xs ∧ xs.length = n * size := by
 obtain ⟨C, -, h, hr, hok, -⟩ := hv.rowBy
 exact ⟨hok, (hr.more (Base.Le.refl _) (fun _ h => by cases h) : RdV C H ad xs).src h, (hv.head : World.ownsRow _ _ _ _ _ _ _).1⟩
section
variable {F : Fence} {n : Nat} {P : Program} {ops : Array Oper} {Q : Exit → Act → World → Prop} {a : Act} {w : World} {rest : List Oper} {o : Oper} {v zv : Value} {B : Base} {H : List Res} {t e u : TypeId} {x y : Operand} {bytes size : Nat}
theorem sl_row0 (hF : ∀ f, F.fn f) (hg : Region.wanted o (yielded ops a.tmps) = true) (ho : o.op = .buildSlice t 0 #[]) (hv : Inv B H w)
  (hr : ∀ w, (Instr.buildSlice t 0 #[]).run P w = .ok (.slice (some ⟨w.heap.size, 0, none⟩) 0 0) (w.alloc (.cells ([] : List Value).toArray e)))
  (h : ∀ b w', Inv B (Res.row e size (.slice (some ⟨b, 0, none⟩) 0 0) 0 [] :: H) w' → wpListIn F n P ops Q rest (a.put o.dst (.slice (some ⟨b, 0, none⟩) 0 0)) w') : wpListIn F n P ops Q (o :: rest) a w :=
 wpi_exG hF hg (by unfold isDefer; rw [ho]) (by unfold Ex; simp [execOp, ho, hr]) (h w.heap.size (w.alloc (.cells ([] : List Value).toArray e)) (by
  have := (hv.alloc [] e).cellRow (n := 0) (c := 0) (size := size) (by simp) (Nat.le_refl _) (Nat.zero_le _)
  simpa using this))
theorem sl_makeRow {cap : Nat} (hF : ∀ f, F.fn f) (hg : Region.wanted o (yielded ops a.tmps) = true) (ho : o.op = .makeSlice t x y) (hx : a.eval x = .int .i64 0) (hy : a.eval y = .int .i64 (cap : Int)) (E : Elem P t e zv size bytes) (hcm : cap ≤ maxLen) (hby : cap * bytes ≤ 140737488355328) (hv : Inv B H w)
  (h : ∀ b w', Inv B (Res.row e size (.slice (some ⟨b, 0, none⟩) 0 cap) 0 [] :: H) w' → wpListIn F n P ops Q rest (a.put o.dst (.slice (some ⟨b, 0, none⟩) 0 cap)) w') : wpListIn F n P ops Q (o :: rest) a w := by
 obtain ⟨i, hi, hz, hs, hb⟩ := E.hi
 refine sl_make (len := 0) hF hg ho hx hy E.ht hi hz (Nat.zero_le _) hcm (by rw [hb]; exact hby) hv (fun b w' hi' => h b w' ?_)
 have := hi'.cellRow (n := 0) (c := cap) (size := size) (by rw [hs]; simp [madeCells]) (Nat.zero_le _) hcm
 simpa using this
theorem ex_slnil {pa : Option Addr} {l c : Nat} {b : Bool} (ht : P.underlying t = some (.slice e)) (ho : o.op = .binOp .eql t x y u) (hx : a.eval x = .slice pa l c) (hy : a.eval y = .slice none 0 0) (hb : pa.isNone = b) : Ex P a o w (.bool b) w := by
 have hg : (eqGuard .eql t x y (.slice pa l c) (.slice none 0 0)).run P w = .ok () w := by
  simp [eqGuard]
 have hr := Go.run_eql_slice_nil w t e pa l c ht
 subst hb; unfold Ex; simp [execOp, ho, hx, hy, hg, hr]
theorem ex_makeFunc {f : FuncId} {p c : Array Operand} {c' : Array Value} (ho : o.op = .makeFunc (.func f) p c) (hp : p.map a.eval = #[]) (hc : c.map a.eval = c') : Ex P a o w (.func (.func f) #[] c') w := by
 unfold Ex; simp [execOp, ho, Instr.makeFunc, hp, hc]
theorem ex_sgeq {s s' : List UInt8} {b : Bool} (ho : o.op = .binOp .geq t x y u) (hx : a.eval x = .string ⟨s.toArray⟩) (hy : a.eval y = .string ⟨s'.toArray⟩) (hb : (!Op.bytesLess s s') = b) : Ex P a o w (.bool b) w := by
 subst hb; unfold Ex; simp [execOp, ho, hx, hy, eqGuard, binOp, Op.stringOp]
theorem ex_slss {s s' : List UInt8} {b : Bool} (ho : o.op = .binOp .lss t x y u) (hx : a.eval x = .string ⟨s.toArray⟩) (hy : a.eval y = .string ⟨s'.toArray⟩) (hb : Op.bytesLess s s' = b) : Ex P a o w (.bool b) w := by
 subst hb; unfold Ex; simp [execOp, ho, hx, hy, eqGuard, binOp, Op.stringOp]
theorem wpi_callV {f : FuncId} {xs : Array Operand} {ts : Array TypeId} {args cb : Array Value} (hf : Callable P f) (hF : ∀ f, F.fn f) (hC : ∀ (f : FuncId) (args : Array Value) (w : World) (R : Ending → World → Prop), Calls P f args w R → CallsIn F (n - 1) P f args w R) (hdp : F.depth = none) (hg : Region.wanted o (yielded ops a.tmps) = true)
  (ho : o.op = .call { callee := .value x, args := xs, argTypes := ts }) (hfx : a.eval x = .func (.func f) #[] cb) (hx : xs.map a.eval = args) (hc : Calls P f (args ++ cb) w fun e w' => ∃ v, e = .returned v ∧ wpListIn F n P ops Q rest (a.put o.dst v) w') : wpListIn F n P ops Q (o :: rest) a w := by
 refine wpListIn_step fun K hK => ?_
 rw [if_pos hg]
 refine ⟨fun f _ => hF f, ?_⟩
 have hd : isDefer o = false := by unfold isDefer; rw [ho]
 obtain ⟨fn, h1, h2, h3⟩ := hf
 have : execOp a.eval o = callFunc f (#[] ++ xs.map a.eval ++ cb) := by
  obtain ⟨d, op, ty, pos, af, gd⟩ := o
  simp only at ho
  subst ho
  simp only [execOp, resolve, hfx]
  rfl
 have hb : ¬ fn.body = none := by intro h; rw [h] at h3; cases h3
 have hn : ¬ fn.name = "runtime.NumGoroutine" := by simpa using h2
 have hr : (execOp a.eval o).run P w = .ok (.enter f (args ++ cb)) w := by rw [this, hx]; simp [callFunc, h1, hn, hb]
 rw [Oper.semAt_eq _ _ _ (not_defer hd), hr, Oper.uponIn_enter]
 refine ⟨fun e => by simp [hdp] at e, hC _ _ _ _ (hc.mono ?_)⟩
 rintro e w' ⟨v, rfl, hh⟩
 exact hK _ _ hh
end
end Go.Pm
/- An operation whose guard's operation was itself not wanted. -/
namespace Go.Pm
open Go.RowKit
section
variable {o : Oper} {a : Act}
end
end Go.Pm
/- Short names for the steps of the walks (mkmerge.py writes them into a claim's texts). -/
namespace Go.Pm
open Go.RowKit
def po {α : Type} : List α → Option Nat → α → List α
 | l, none, _ => l
 | [], some _, _ => []
 | _ :: l, some 0, v => v :: l
 | x :: l, some (n + 1), v => x :: po l (some n) v
def al : List Value → Nat → List Value
 | l, 0 => l
 | [], n + 1 => undef :: al [] n
 | x :: l, n + 1 => x :: al l n
def sp : List Value → Nat → List Value → List Value
 | l, 0, [] => l
 | _ :: l, 0, v :: k => v :: sp l 0 k
 | x :: l, n + 1, k => x :: sp l n k
 | [], _, _ => []
theorem po_set {α : Type} (l : List α) (i : Nat) (v : α) : po l (some i) v = l.set i v := by
 induction l generalizing i with
 | nil => simp [po]
 | cons x l ih => cases i <;> simp [po, ih]
theorem zP {l : List Value} {ds : List Deferred} {o : Option Tmp} {v : Value} : Act.put ⟨l.toArray, ds⟩ o v = ⟨(po l o v).toArray, ds⟩ := by
 cases o with
 | none => simp [Act.put, po]
 | some i => simp [Act.put, po_set]
theorem al_eq (l : List Value) (n : Nat) : al l n = l ++ List.replicate (n - l.length) undef := by
 induction n generalizing l with
 | zero => cases l <;> simp [al]
 | succ n ih => cases l with
  | nil => rw [al, ih]; simp [List.replicate_succ]
  | cons x l => rw [al, ih]; simp
theorem cW {P : Program} {f : FuncId} {fn : Func} {c : Code} {l : List Value} {w : World} {k : Nat} {R : Ending → World → Prop} (hf : P.funcs[f]? = some fn) (hb : fn.body = some c) (hk : fn.ntmps = k)
  (h : c.wpIn Fence.wide 5 P (bodyPost P fn R) ⟨(al l k).toArray, []⟩ w) : Calls P f l.toArray w R := by
 refine (callsIn_wide (n := 5)).1 (callsIn_of_wp hf hb trivial ?_)
 have e : l.toArray ++ Array.replicate (fn.ntmps - l.toArray.size) undef = (al l k).toArray := by
  apply Array.ext'
  rw [al_eq, hk]; simp
 rw [e]; exact h
theorem zI {α : Type} {l : List α} {i : Nat} {a : α} : l.toArray.setIfInBounds i a = (l.set i a).toArray := by simp
theorem zS {α : Type} {l : List α} {i : Nat} {a b : α} : (a :: l).set (i + 1) b = a :: l.set i b := rfl
theorem zO {α : Type} {l : List α} {a b : α} : (a :: l).set 0 b = b :: l := rfl
theorem yA {α β : Type} {f : α → β} {l : List α} : Array.map f l.toArray = (List.map f l).toArray := by simp
theorem yB {α β : Type} {f : α → β} {a : α} {l : List α} : List.map f (a :: l) = f a :: List.map f l := rfl
theorem yC {α β : Type} {f : α → β} : List.map f [] = [] := rfl
theorem tV (f : FuncId) : Fence.wide.fn f := trivial
def All1 : List Value → Prop
 | [] => True
 | v :: l => v.oneCell' = true ∧ All1 l
theorem All1.at : ∀ {l : List Value}, All1 l → ∀ v ∈ l, v.oneCell' = true
 | x :: l, h, v, hv => by
  rcases List.mem_cons.1 hv with rfl | hv
  ·exact h.1
  ·exact All1.at h.2 v hv
theorem sp_eq : ∀ (n : Nat) (l k : List Value), n + k.length ≤ l.length → ∃ p m q, l = p ++ m ++ q ∧ p.length = n ∧ k.length = m.length ∧ p ++ k ++ q = sp l n k
 | 0, l, [], _ => ⟨[], [], l, by simp, rfl, rfl, by cases l <;> simp [sp]⟩
 | 0, [], v :: k, h => by simp at h
 | 0, x :: l, v :: k, h => by
  obtain ⟨p, m, q, h1, h2, h3, h4⟩ := sp_eq 0 l k (by simp at h; omega)
  obtain rfl := List.eq_nil_of_length_eq_zero h2
  refine ⟨[], x :: m, q, ?_, rfl, by simp [h3], ?_⟩
  ·rw [h1]; simp
  ·rw [sp, ← h4]; simp
 | n + 1, [], k, h => by simp at h
 | n + 1, x :: l, k, h => by
  obtain ⟨p, m, q, h1, h2, h3, h4⟩ := sp_eq n l k (by simp at h; omega)
  refine ⟨x :: p, m, q, by rw [h1]; simp, by simp [h2], h3, ?_⟩
  rw [sp, ← h4]; simp
theorem sp_one (n : Nat) (l : List Value) (v : Value) : sp l n [v] = l.set n v := by
 induction n generalizing l with
 | zero => cases l with
  | nil => simp [sp]
  | cons x l => cases l <;> simp [sp]
 | succ n ih => cases l with
  | nil => simp [sp]
  | cons x l => rw [sp, ih]; simp
section
variable {n : Nat} {P : Program} {ops : Array Oper} {Q : Exit → Act → World → Prop} {a : Act} {w w' : World} {rest : List Oper} {o : Oper} {x y z : Operand}
theorem xG (v : Value) (hw : (Region.wanted o (yielded ops a.tmps), isDefer o) = (true, false)) (hr : Ex P a o w v w') (h : wpListIn Fence.wide n P ops Q rest (a.put o.dst v) w') : wpListIn Fence.wide n P ops Q (o :: rest) a w :=
 wpi_exG tV (Prod.mk.inj hw).1 (Prod.mk.inj hw).2 hr h
theorem xM (v : Value) (hw : (Region.wanted o (yielded ops a.tmps), o.op, a.eval x) = (true, .move x, v)) (h : wpListIn Fence.wide n P ops Q rest (a.put o.dst v) w) : wpListIn Fence.wide n P ops Q (o :: rest) a w := by
 simp only [Prod.mk.injEq] at hw
 exact wpi_exG tV hw.1 (by unfold isDefer; rw [hw.2.1]) (ex_move hw.2.1 hw.2.2) h
theorem xA (v : Value) (hw : (Region.wanted o (yielded ops a.tmps), o.op, a.eval x) = (true, .assign x, v)) (h : wpListIn Fence.wide n P ops Q rest (a.put o.dst v) w) : wpListIn Fence.wide n P ops Q (o :: rest) a w := by
 simp only [Prod.mk.injEq] at hw
 exact wpi_exG tV hw.1 (by unfold isDefer; rw [hw.2.1]) (ex_assign hw.2.1 hw.2.2) h
theorem xK (b : Bool) (v : Value) (hw : (Region.wanted o (yielded ops a.tmps), o.op, a.eval x, a.eval (cond b y z)) = (true, .pick x y z, .bool b, v)) (h : wpListIn Fence.wide n P ops Q rest (a.put o.dst v) w) : wpListIn Fence.wide n P ops Q (o :: rest) a w := by
 simp only [Prod.mk.injEq] at hw
 exact wpi_exG tV hw.1 (by unfold isDefer; rw [hw.2.1]) (ex_pick (b := b) hw.2.1 hw.2.2.1 (by cases b <;> exact hw.2.2.2)) h
theorem xL (v : Value) {t : TypeId} {p : Value} (hw : (Region.wanted o (yielded ops a.tmps), o.op, a.eval x) = (true, .load t x, p)) (hr : (Instr.loadAt t p).run P w = .ok v w) (h : wpListIn Fence.wide n P ops Q rest (a.put o.dst v) w) : wpListIn Fence.wide n P ops Q (o :: rest) a w := by
 simp only [Prod.mk.injEq] at hw
 exact wpi_exG tV hw.1 (by unfold isDefer; rw [hw.2.1]) (ex_load hw.2.1 hw.2.2 hr) h
theorem xF (v : Value) {t : TypeId} {f : Nat} {p : Value} (hw : (Region.wanted o (yielded ops a.tmps), o.op, a.eval x) = (true, .fieldAddr t x f, p)) (hr : (Instr.fieldAt t p f).run P w = .ok v w) (h : wpListIn Fence.wide n P ops Q rest (a.put o.dst v) w) : wpListIn Fence.wide n P ops Q (o :: rest) a w := by
 simp only [Prod.mk.injEq] at hw
 exact wpi_exG tV hw.1 (by unfold isDefer; rw [hw.2.1]) (ex_field hw.2.1 hw.2.2 hr) h
theorem xC {f : FuncId} {xs : Array Operand} {ts : Array TypeId} {l : List Value} (hf : Callable P f) (hw : (Region.wanted o (yielded ops a.tmps), o.op) = (true, .call { callee := .value (.func f), args := xs, argTypes := ts }))
  (hc : Calls P f l.toArray w fun e w' => ∃ v, e = .returned v ∧ wpListIn Fence.wide n P ops Q rest (a.put o.dst v) w') (hx : xs.toList.map a.eval = l) : wpListIn Fence.wide n P ops Q (o :: rest) a w :=
 wpi_callG hf tV wideC rfl (Prod.mk.inj hw).1 (Prod.mk.inj hw).2 (by rw [← hx]; apply Array.ext'; simp) hc
variable {B : Base} {H : List Res} {b off : Nat} {k L : List Value} {t e : TypeId} {v : Value} {J : List Value → World → Prop} {vals : List Value}
theorem mC {f : FuncId} {xs : Array Operand} {ts : Array TypeId} {l : List Value} (hf : Callable P f) (hw : (Region.wanted o (yielded ops a.tmps), o.op) = (true, .call { callee := .value (.func f), args := xs, argTypes := ts }))
  (hc : Calls P f l.toArray w fun e w' => ∃ v, e = .returned v ∧ J (vals ++ [v]) w') (hx : xs.toList.map a.eval = l) : StepMem P ops J Q o a w vals :=
 stepMem_calls hf (Prod.mk.inj hw).1 (Prod.mk.inj hw).2 (by rw [← hx]; apply Array.ext'; simp) hc
theorem xS (i : Nat) (hw : (Region.wanted o (yielded ops a.tmps), o.op, a.eval x, a.eval y, H[i]?) = (true, .store t x y, .pointer (some ⟨b, off, none⟩), .agg k.toArray, some (Res.cell b L e))) (hv : Inv B H w) (hz : (P.info? t).map (·.size) = some k.length) (hl : Nat.ble (off + k.length) L.length = true) (h1 : All1 k)
  (h : ∀ w', Inv B (H.set i (Res.cell b (sp L off k) e)) w' → wpListIn Fence.wide n P ops Q rest (a.put o.dst undef) w') : wpListIn Fence.wide n P ops Q (o :: rest) a w := by
 simp only [Prod.mk.injEq] at hw
 obtain ⟨p, m, q, e1, e2, e3, e4⟩ := sp_eq off L k (Nat.le_of_ble_eq_true hl)
 exact sl_storeNAt i (new := k) (pre := p) (mid := m) (post := q) (L' := sp L off k) tV hw.1 hw.2.1 hw.2.2.1 hw.2.2.2.1 hv hw.2.2.2.2 hz e1 e2 e3 h1.at e4 h
theorem xV (i : Nat) (v : Value) (hw : (Region.wanted o (yielded ops a.tmps), o.op, a.eval x, a.eval y, H[i]?, Nat.blt off L.length) = (true, .store t x y, .pointer (some ⟨b, off, none⟩), v, some (Res.cell b L e), true)) (hv : Inv B H w) (hz : (P.info? t).map (·.size) = some 1) (hc : v.cells = #[v]) (h1 : v.oneCell' = true)
  (h : ∀ w', Inv B (H.set i (Res.cell b (sp L off [v]) e)) w' → wpListIn Fence.wide n P ops Q rest (a.put o.dst undef) w') : wpListIn Fence.wide n P ops Q (o :: rest) a w := by
 simp only [Prod.mk.injEq] at hw
 exact sl_storeAt i (L' := sp L off [v]) tV hw.1 hw.2.1 hw.2.2.1 hw.2.2.2.1 hv hw.2.2.2.2.1 hz (Nat.le_of_ble_eq_true hw.2.2.2.2.2) hc h1 (sp_one _ _ _).symm h
theorem mS (i : Nat) (hw : (Region.wanted o (yielded ops a.tmps), o.op, a.eval x, a.eval y, H[i]?) = (true, .store t x y, .pointer (some ⟨b, off, none⟩), .agg k.toArray, some (Res.cell b L e))) (hv : Inv B H w) (hz : (P.info? t).map (·.size) = some k.length) (hl : Nat.ble (off + k.length) L.length = true) (h1 : All1 k)
  (h : ∀ w', Inv B (H.set i (Res.cell b (sp L off k) e)) w' → J (vals ++ [undef]) w') : StepMem P ops J Q o a w vals := by
 simp only [Prod.mk.injEq] at hw
 obtain ⟨p, m, q, e1, e2, e3, e4⟩ := sp_eq off L k (Nat.le_of_ble_eq_true hl)
 exact mem_storeNAt i (new := k) (pre := p) (mid := m) (post := q) (L' := sp L off k) hw.1 hw.2.1 hw.2.2.1 hw.2.2.2.1 hv hw.2.2.2.2 hz e1 e2 e3 h1.at e4 h
theorem mV (i : Nat) (v : Value) (hw : (Region.wanted o (yielded ops a.tmps), o.op, a.eval x, a.eval y, H[i]?, Nat.blt off L.length) = (true, .store t x y, .pointer (some ⟨b, off, none⟩), v, some (Res.cell b L e), true)) (hv : Inv B H w) (hz : (P.info? t).map (·.size) = some 1) (hc : v.cells = #[v]) (h1 : v.oneCell' = true)
  (h : ∀ w', Inv B (H.set i (Res.cell b (sp L off [v]) e)) w' → J (vals ++ [undef]) w') : StepMem P ops J Q o a w vals := by
 simp only [Prod.mk.injEq] at hw
 exact mem_storeAt i (L' := sp L off [v]) hw.1 hw.2.1 hw.2.2.1 hw.2.2.2.1 hv hw.2.2.2.2.1 hz (Nat.le_of_ble_eq_true hw.2.2.2.2.2) hc h1 (sp_one _ _ _).symm h
end
section
variable {n : Nat} {P : Program} {ops : Array Oper} {Q : Exit → Act → World → Prop} {a : Act} {w : World} {F : Fence} {K X : Act → World → Prop} {x y : Code} {id : Nat}
theorem rL {l : List Oper} (h : wpListIn F n P l.toArray Q l a w) : (Code.region id l.toArray false).wpIn F n P Q a w := wpIn_region_lit h
theorem sK (h : ∀ K : Act → World → Prop, (∀ a w, y.wpIn F n P Q a w → K a w) → x.wpIn F n P (Exit.then K Q) a w) : (Code.seq x y).wpIn F n P Q a w := wpIn_seq_k h
theorem wL (h : Q .normal a w) : wpListIn F n P ops Q [] a w := wpListIn_nil h
theorem wK (hk : ∀ a w, X a w → K a w) (h : X a w) : wpListIn F n P ops (Exit.then K Q) [] a w := wpListIn_nil (hk a w h)
theorem tK (hk : ∀ a w, X a w → K a w) (h : X a w) : Exit.then K Q .normal a w := hk a w h
theorem tN (h : X a w) : Exit.then X Q .normal a w := h
theorem bR {fn : Func} {R : Ending → World → Prop} {t : Tmp} (h : fn.results = #[.tmp t]) (hd : a.defers = []) (hR : R (.returned (a.tmps.getD t undef)) w) : bodyPost P fn R .ret a w := bodyPost_ret (results_tmp h _ _ _) hd hR
end
section
variable {n : Nat} {P : Program} {Q : Exit → Act → World → Prop} {a : Act} {w : World} {F : Fence} {X : Act → World → Prop} {x y : Code} {c : Operand} {id j : Nat}
theorem cT (hc : a.eval c = .bool true) (h : x.wpIn F n P Q a w) : (Code.cond c x y).wpIn F n P Q a w := wpIn_cond_true hc h
theorem cF (hc : a.eval c = .bool false) (h : y.wpIn F n P Q a w) : (Code.cond c x y).wpIn F n P Q a w := wpIn_cond_false hc h
theorem kS (h : Q .normal a w) : Code.skip.wpIn F n P Q a w := wpIn_skip h
theorem rR (h : Q .ret a w) : Code.ret.wpIn F n P Q a w := wpIn_ret h
theorem xE (h : Q (.exit id) a w) : (Code.exit id).wpIn F n P Q a w := wpIn_exit h
theorem bB (h : x.wpIn F n P (Exit.inBlock id Q) a w) : (Code.block id x).wpIn F n P Q a w := wpIn_block h
theorem tR (h : Q .ret a w) : Exit.then X Q .ret a w := h
theorem tX (h : Q (.exit id) a w) : Exit.then X Q (.exit id) a w := h
theorem bE (h : Q .ret a w) : Exit.inBlock id Q .ret a w := h
theorem bN (h : Q .normal a w) : Exit.inBlock id Q .normal a w := h
theorem bH (h : Q .normal a w) : Exit.inBlock id Q (.exit id) a w := blk_hit h
theorem bM (hn : (j == id) = false) (h : Q (.exit j) a w) : Exit.inBlock id Q (.exit j) a w := blk_miss hn h
end
end Go.Pm
/- Copies of values and versions. -/
namespace Go.Proofs.YtffmbdagjpdieaaGreat
open Go.RowKit Go.Pm
theorem mixed : Tryz.prog.follows .mixedOrders = true := by kernel_rfl
set_option maxHeartbeats 2000000 in
theorem clonePairs0 (B : Base) (H : List Res) (w : World) (hv : Inv B H w) :
  Calls Tryz.prog 86 #[.slice none 0 0] w fun e w' => e = .returned (.slice none 0 0) ∧ Inv B H w' := by
 refine cW Tryz.func86 rfl Tryz.ntmps86 ?_
 simp only [al]
 refine sK fun _ k1 => rL (xA (.slice none 0 0) rfl ?_)
 simp only [zP, po]
 refine wK k1 (sK fun _ k2 => ?_)
 refine sK fun _ k3 => rL (xM (.slice none 0 0) rfl ?_)
 refine xG (.bool true) rfl (ex_slnil Tryz.underlying50 rfl rfl rfl rfl) ?_
 simp only [zP, po]
 refine wK k3 (cT rfl ?_)
 refine sK fun _ k4 => rL (xA (.slice none 0 0) rfl ?_)
 simp only [zP, po]
 refine wK k4 (rR ?_)
 refine tR (bR rfl rfl ?_)
 exact ⟨rfl, hv⟩
theorem s1mk91 : (Tryz.prog.info? 91).map (fun i => (i.zero, i.size, i.bytes)) = some (some (.agg #[.string ⟨([] : List UInt8).toArray⟩, .string ⟨([] : List UInt8).toArray⟩]), 2, 32) := by kernel_rfl
theorem s1el50 : Elem Tryz.prog 50 91 (.agg #[.string ⟨([] : List UInt8).toArray⟩, .string ⟨([] : List UInt8).toArray⟩]) 2 32 := elem_of Tryz.underlying50 s1mk91 (by rfl) (by decide)
set_option maxHeartbeats 2000000 in
theorem clonePairs1 (B : Base) (H : List Res) (w : World) (a : Addr) (n c : Nat) (xs : List Value) (hok : SliceOk (some a) n c) (hl : xs.length = n * 2) (h1 : ∀ u ∈ xs, u.oneCell' = true) (hn : n ≤ 1000000) (hr : RdV B [] (some a) xs) (hv : Inv B H w) :
  Calls Tryz.prog 86 #[.slice (some a) n c] w fun e w' => ∃ C ad' c', B.Le C ∧ e = .returned (.slice ad' n c') ∧ SliceOk ad' n c' ∧ RdV C [] ad' xs ∧ Inv C H w' := by
 refine cW Tryz.func86 rfl Tryz.ntmps86 ?_
 simp only [al]
 refine sK fun _ k1 => rL (xA (.slice none 0 0) rfl ?_)
 simp only [zP, po]
 refine wK k1 (sK fun _ k2 => ?_)
 refine sK fun _ k3 => rL (xM (.slice (some a) n c) rfl ?_)
 refine xG (.bool false) rfl (ex_slnil Tryz.underlying50 rfl rfl rfl rfl) ?_
 simp only [zP, po]
 refine wK k3 (cF rfl ?_)
 refine kS (tK k2 ?_)
 refine sK fun _ k4 => rL (sl_row0 (size := 2) tV (wn rfl) rfl hv (e := 91) (fun w => by kernel_rfl) (fun b5 w6 hv => ?_))
 refine xM (.slice (some a) n c) rfl (sl_append (news := xs) tV (wn rfl) rfl rfl rfl s1el50 hv hok hl ((hr.more (Base.Le.refl _) (fun _ h => by cases h)).src hv) (h1) (by unfold maxLen; omega) (by omega) (fun rv7 w10 hv => ?_))
 obtain ⟨ra8, rc9, rfl⟩ := row_slice hv.head
 simp only [zP, po]
 refine xA (.slice ra8 (0 + n) rc9) rfl ?_
 simp only [zP, po]
 refine wK k4 (rR ?_)
 refine bR rfl rfl ?_
 obtain ⟨C, hB, hv2, hr2, hok2, -⟩ := hv.rowBy
 rw [Nat.zero_add] at hok2 ⊢
 rw [List.nil_append] at hr2
 exact ⟨C, _, _, hB, rfl, hok2, hr2, hv2⟩
theorem clonePairs (B : Base) (H : List Res) (w : World) (v : Value) (n : Nat) (xs : List Value) (h : RowB B v n xs) (hl : xs.length = n * 2) (h1 : ∀ u ∈ xs, u.oneCell' = true) (hn : n ≤ 1000000) (hv : Inv B H w) :
  Calls Tryz.prog 86 #[v] w fun e w' => ∃ C v', B.Le C ∧ e = .returned v' ∧ RowB C v' n xs ∧ Inv C H w' := by
 obtain ⟨ad, c, rfl, hok, hr⟩ := h
 cases ad with
 | none =>
  have hc0 : c = 0 := hok.nil rfl
  have hn0 : n = 0 := by have := hok.le; omega
  subst hc0 hn0
  refine (clonePairs0 B H w hv).mono ?_
  rintro e w' ⟨rfl, hv⟩
  exact ⟨B, _, Base.Le.refl _, rfl, ⟨none, 0, rfl, hok, hr⟩, hv⟩
 | some a =>
  refine (clonePairs1 B H w a n c xs hok hl h1 hn hr hv).mono ?_
  rintro e w' ⟨C, ad', c', hB, rfl, hok', hr', hv'⟩
  exact ⟨C, _, hB, rfl, ⟨ad', c', rfl, hok', hr'⟩, hv'⟩
set_option maxHeartbeats 2000000 in
theorem cloneTexts0 (B : Base) (H : List Res) (w : World) (hv : Inv B H w) :
  Calls Tryz.prog 87 #[.slice none 0 0] w fun e w' => e = .returned (.slice none 0 0) ∧ Inv B H w' := by
 refine cW Tryz.func87 rfl Tryz.ntmps87 ?_
 simp only [al]
 refine sK fun _ k1 => rL (xA (.slice none 0 0) rfl ?_)
 simp only [zP, po]
 refine wK k1 (sK fun _ k2 => ?_)
 refine sK fun _ k3 => rL (xM (.slice none 0 0) rfl ?_)
 refine xG (.bool true) rfl (ex_slnil Tryz.underlying27 rfl rfl rfl rfl) ?_
 simp only [zP, po]
 refine wK k3 (cT rfl ?_)
 refine sK fun _ k4 => rL (xA (.slice none 0 0) rfl ?_)
 simp only [zP, po]
 refine wK k4 (rR ?_)
 refine tR (bR rfl rfl ?_)
 exact ⟨rfl, hv⟩
theorem s1mk9 : (Tryz.prog.info? 9).map (fun i => (i.zero, i.size, i.bytes)) = some (some (.string ⟨([] : List UInt8).toArray⟩), 1, 16) := by kernel_rfl
theorem s1el27 : Elem Tryz.prog 27 9 (.string ⟨([] : List UInt8).toArray⟩) 1 16 := elem_of Tryz.underlying27 s1mk9 (by rfl) (by decide)
set_option maxHeartbeats 2000000 in
theorem cloneTexts1 (B : Base) (H : List Res) (w : World) (a : Addr) (n c : Nat) (xs : List Value) (hok : SliceOk (some a) n c) (hl : xs.length = n * 1) (h1 : ∀ u ∈ xs, u.oneCell' = true) (hn : n ≤ 1000000) (hr : RdV B [] (some a) xs) (hv : Inv B H w) :
  Calls Tryz.prog 87 #[.slice (some a) n c] w fun e w' => ∃ C ad' c', B.Le C ∧ e = .returned (.slice ad' n c') ∧ SliceOk ad' n c' ∧ RdV C [] ad' xs ∧ Inv C H w' := by
 refine cW Tryz.func87 rfl Tryz.ntmps87 ?_
 simp only [al]
 refine sK fun _ k1 => rL (xA (.slice none 0 0) rfl ?_)
 simp only [zP, po]
 refine wK k1 (sK fun _ k2 => ?_)
 refine sK fun _ k3 => rL (xM (.slice (some a) n c) rfl ?_)
 refine xG (.bool false) rfl (ex_slnil Tryz.underlying27 rfl rfl rfl rfl) ?_
 simp only [zP, po]
 refine wK k3 (cF rfl ?_)
 refine kS (tK k2 ?_)
 refine sK fun _ k4 => rL (sl_row0 (size := 1) tV (wn rfl) rfl hv (e := 9) (fun w => by kernel_rfl) (fun b5 w6 hv => ?_))
 refine xM (.slice (some a) n c) rfl (sl_append (news := xs) tV (wn rfl) rfl rfl rfl s1el27 hv hok hl ((hr.more (Base.Le.refl _) (fun _ h => by cases h)).src hv) (h1) (by unfold maxLen; omega) (by omega) (fun rv7 w10 hv => ?_))
 obtain ⟨ra8, rc9, rfl⟩ := row_slice hv.head
 simp only [zP, po]
 refine xA (.slice ra8 (0 + n) rc9) rfl ?_
 simp only [zP, po]
 refine wK k4 (rR ?_)
 refine bR rfl rfl ?_
 obtain ⟨C, hB, hv2, hr2, hok2, -⟩ := hv.rowBy
 rw [Nat.zero_add] at hok2 ⊢
 rw [List.nil_append] at hr2
 exact ⟨C, _, _, hB, rfl, hok2, hr2, hv2⟩
theorem cloneTexts (B : Base) (H : List Res) (w : World) (v : Value) (n : Nat) (xs : List Value) (h : RowB B v n xs) (hl : xs.length = n * 1) (h1 : ∀ u ∈ xs, u.oneCell' = true) (hn : n ≤ 1000000) (hv : Inv B H w) :
  Calls Tryz.prog 87 #[v] w fun e w' => ∃ C v', B.Le C ∧ e = .returned v' ∧ RowB C v' n xs ∧ Inv C H w' := by
 obtain ⟨ad, c, rfl, hok, hr⟩ := h
 cases ad with
 | none =>
  have hc0 : c = 0 := hok.nil rfl
  have hn0 : n = 0 := by have := hok.le; omega
  subst hc0 hn0
  refine (cloneTexts0 B H w hv).mono ?_
  rintro e w' ⟨rfl, hv⟩
  exact ⟨B, _, Base.Le.refl _, rfl, ⟨none, 0, rfl, hok, hr⟩, hv⟩
 | some a =>
  refine (cloneTexts1 B H w a n c xs hok hl h1 hn hr hv).mono ?_
  rintro e w' ⟨C, ad', c', hB, rfl, hok', hr', hv'⟩
  exact ⟨C, _, hB, rfl, ⟨ad', c', rfl, hok', hr'⟩, hv'⟩
set_option maxHeartbeats 2000000 in
theorem cloneMems0 (B : Base) (H : List Res) (w : World) (hv : Inv B H w) :
  Calls Tryz.prog 88 #[.slice none 0 0] w fun e w' => e = .returned (.slice none 0 0) ∧ Inv B H w' := by
 refine cW Tryz.func88 rfl Tryz.ntmps88 ?_
 simp only [al]
 refine sK fun _ k1 => rL (xA (.slice none 0 0) rfl ?_)
 simp only [zP, po]
 refine wK k1 (sK fun _ k2 => ?_)
 refine sK fun _ k3 => rL (xM (.slice none 0 0) rfl ?_)
 refine xG (.bool true) rfl (ex_slnil Tryz.underlying51 rfl rfl rfl rfl) ?_
 simp only [zP, po]
 refine wK k3 (cT rfl ?_)
 refine sK fun _ k4 => rL (xA (.slice none 0 0) rfl ?_)
 simp only [zP, po]
 refine wK k4 (rR ?_)
 refine tR (bR rfl rfl ?_)
 exact ⟨rfl, hv⟩
theorem s1mk93 : (Tryz.prog.info? 93).map (fun i => (i.zero, i.size, i.bytes)) = some (some (.agg #[.int .i64 0, .string ⟨([] : List UInt8).toArray⟩]), 2, 24) := by kernel_rfl
theorem s1el51 : Elem Tryz.prog 51 93 (.agg #[.int .i64 0, .string ⟨([] : List UInt8).toArray⟩]) 2 24 := elem_of Tryz.underlying51 s1mk93 (by rfl) (by decide)
set_option maxHeartbeats 2000000 in
theorem cloneMems1 (B : Base) (H : List Res) (w : World) (a : Addr) (n c : Nat) (xs : List Value) (hok : SliceOk (some a) n c) (hl : xs.length = n * 2) (h1 : ∀ u ∈ xs, u.oneCell' = true) (hn : n ≤ 1000000) (hr : RdV B [] (some a) xs) (hv : Inv B H w) :
  Calls Tryz.prog 88 #[.slice (some a) n c] w fun e w' => ∃ C ad' c', B.Le C ∧ e = .returned (.slice ad' n c') ∧ SliceOk ad' n c' ∧ RdV C [] ad' xs ∧ Inv C H w' := by
 refine cW Tryz.func88 rfl Tryz.ntmps88 ?_
 simp only [al]
 refine sK fun _ k1 => rL (xA (.slice none 0 0) rfl ?_)
 simp only [zP, po]
 refine wK k1 (sK fun _ k2 => ?_)
 refine sK fun _ k3 => rL (xM (.slice (some a) n c) rfl ?_)
 refine xG (.bool false) rfl (ex_slnil Tryz.underlying51 rfl rfl rfl rfl) ?_
 simp only [zP, po]
 refine wK k3 (cF rfl ?_)
 refine kS (tK k2 ?_)
 refine sK fun _ k4 => rL (sl_row0 (size := 2) tV (wn rfl) rfl hv (e := 93) (fun w => by kernel_rfl) (fun b5 w6 hv => ?_))
 refine xM (.slice (some a) n c) rfl (sl_append (news := xs) tV (wn rfl) rfl rfl rfl s1el51 hv hok hl ((hr.more (Base.Le.refl _) (fun _ h => by cases h)).src hv) (h1) (by unfold maxLen; omega) (by omega) (fun rv7 w10 hv => ?_))
 obtain ⟨ra8, rc9, rfl⟩ := row_slice hv.head
 simp only [zP, po]
 refine xA (.slice ra8 (0 + n) rc9) rfl ?_
 simp only [zP, po]
 refine wK k4 (rR ?_)
 refine bR rfl rfl ?_
 obtain ⟨C, hB, hv2, hr2, hok2, -⟩ := hv.rowBy
 rw [Nat.zero_add] at hok2 ⊢
 rw [List.nil_append] at hr2
 exact ⟨C, _, _, hB, rfl, hok2, hr2, hv2⟩
theorem cloneMems (B : Base) (H : List Res) (w : World) (v : Value) (n : Nat) (xs : List Value) (h : RowB B v n xs) (hl : xs.length = n * 2) (h1 : ∀ u ∈ xs, u.oneCell' = true) (hn : n ≤ 1000000) (hv : Inv B H w) :
  Calls Tryz.prog 88 #[v] w fun e w' => ∃ C v', B.Le C ∧ e = .returned v' ∧ RowB C v' n xs ∧ Inv C H w' := by
 obtain ⟨ad, c, rfl, hok, hr⟩ := h
 cases ad with
 | none =>
  have hc0 : c = 0 := hok.nil rfl
  have hn0 : n = 0 := by have := hok.le; omega
  subst hc0 hn0
  refine (cloneMems0 B H w hv).mono ?_
  rintro e w' ⟨rfl, hv⟩
  exact ⟨B, _, Base.Le.refl _, rfl, ⟨none, 0, rfl, hok, hr⟩, hv⟩
 | some a =>
  refine (cloneMems1 B H w a n c xs hok hl h1 hn hr hv).mono ?_
  rintro e w' ⟨C, ad', c', hB, rfl, hok', hr', hv'⟩
  exact ⟨C, _, hB, rfl, ⟨ad', c', rfl, hok', hr'⟩, hv'⟩
theorem s1al53 (w : World) : (Instr.alloc 53 true (.tuple #[])).run Tryz.prog w = .ok (.pointer (some ⟨w.heap.size, 0, none⟩)) (w.alloc (.cells ([.int .i64 0, .string ⟨([] : List UInt8).toArray⟩, .slice none 0 0, .slice none 0 0, .slice none 0 0] : List Value).toArray 53)) := by kernel_rfl
theorem s1fa53_2 (w : World) (b o : Nat) : (Instr.fieldAt 53 (.pointer (some ⟨b, o, none⟩)) 2).run Tryz.prog w = .ok (.pointer (some ⟨b, o + 2, none⟩)) w := by kernel_rfl
theorem s1na50 (w : World) : (isAgg 50).run Tryz.prog w = .ok false w := by kernel_rfl
theorem s1callable86 : Callable Tryz.prog 86 := ⟨_, Tryz.func86, by kernel_rfl, by kernel_rfl⟩
theorem s1sz50 : (Tryz.prog.info? 50).map (·.size) = some 1 := by kernel_rfl
theorem s1fa53_3 (w : World) (b o : Nat) : (Instr.fieldAt 53 (.pointer (some ⟨b, o, none⟩)) 3).run Tryz.prog w = .ok (.pointer (some ⟨b, o + 3, none⟩)) w := by kernel_rfl
theorem s1na27 (w : World) : (isAgg 27).run Tryz.prog w = .ok false w := by kernel_rfl
theorem s1callable87 : Callable Tryz.prog 87 := ⟨_, Tryz.func87, by kernel_rfl, by kernel_rfl⟩
theorem s1sz27 : (Tryz.prog.info? 27).map (·.size) = some 1 := by kernel_rfl
theorem s1fa53_4 (w : World) (b o : Nat) : (Instr.fieldAt 53 (.pointer (some ⟨b, o, none⟩)) 4).run Tryz.prog w = .ok (.pointer (some ⟨b, o + 4, none⟩)) w := by kernel_rfl
theorem s1na51 (w : World) : (isAgg 51).run Tryz.prog w = .ok false w := by kernel_rfl
theorem s1callable88 : Callable Tryz.prog 88 := ⟨_, Tryz.func88, by kernel_rfl, by kernel_rfl⟩
theorem s1sz51 : (Tryz.prog.info? 51).map (·.size) = some 1 := by kernel_rfl
theorem s1wd53 : Wide Tryz.prog 53 5 := wide_of (fun w => by kernel_rfl) (by kernel_rfl)
theorem s1sz53 : (Tryz.prog.info? 53).map (·.size) = some 5 := by kernel_rfl
set_option maxHeartbeats 2000000 in
theorem valueClone (B : Base) (H : List Res) (w : World) (v : Val) (p t z : Value) (h : ValAt B v p t z) (hv : Inv B H w) :
  Calls Tryz.prog 72 #[.agg #[.int .i64 v.kind, .string ⟨v.text.toArray⟩, p, t, z]] w fun e w' => ∃ C p' t' z', B.Le C ∧ e = .returned (.agg #[.int .i64 v.kind, .string ⟨v.text.toArray⟩, p', t', z']) ∧ ValAt C v p' t' z' ∧ Inv C H w' := by
 refine cW Tryz.func72 rfl Tryz.ntmps72 ?_
 simp only [al]
 refine sK fun _ k1 => rL (sl_box (L := [.int .i64 v.kind, .string ⟨v.text.toArray⟩, p, t, z]) tV (wn rfl) rfl rfl hv (fun w => by kernel_rfl) (fun b2 w3 hv => ?_))
 refine sl_alloc tV (wn rfl) rfl hv s1al53 (fun b4 w5 hv => ?_)
 simp only [zP, po]
 refine wK k1 (sK fun _ k6 => ?_)
 refine rL (xF (.pointer (some ⟨b2, 2, none⟩)) rfl (s1fa53_2 _ _ _) ?_)
 refine xL _ rfl (run_load1 s1na50 (hv.load 1 2 rfl rfl)) (xC s1callable86 rfl ((clonePairs _ _ _ p _ _ (h.p.more (Base.Le.refl _)) (pairCells_len _) (pairCells_one _) h.pm hv).mono ?_) rfl)
 rintro e w9 ⟨C7, q8, hC7, rfl, hq8, hv⟩
 refine ⟨_, rfl, ?_⟩
 simp only [zP, po]
 refine xF (.pointer (some ⟨b2, 2, none⟩)) rfl (s1fa53_2 _ _ _) (xV 1 q8 rfl hv s1sz50 hq8.cells hq8.one (fun w10 hv => ?_))
 simp only [zS, zO, sp] at hv
 simp only [zP, po]
 refine wK k6 (sK fun _ k11 => ?_)
 refine rL (xF (.pointer (some ⟨b2, 3, none⟩)) rfl (s1fa53_3 _ _ _) ?_)
 refine xL _ rfl (run_load1 s1na27 (hv.load 1 3 rfl rfl)) (xC s1callable87 rfl ((cloneTexts _ _ _ t _ _ (h.t.more hC7) (textCells_len _) (textCells_one _) h.tm hv).mono ?_) rfl)
 rintro e w14 ⟨C12, q13, hC12, rfl, hq13, hv⟩
 refine ⟨_, rfl, ?_⟩
 simp only [zP, po]
 refine xF (.pointer (some ⟨b2, 3, none⟩)) rfl (s1fa53_3 _ _ _) (xV 1 q13 rfl hv s1sz27 hq13.cells hq13.one (fun w15 hv => ?_))
 simp only [zS, zO, sp] at hv
 simp only [zP, po]
 refine wK k11 (sK fun _ k16 => ?_)
 refine rL (xF (.pointer (some ⟨b2, 4, none⟩)) rfl (s1fa53_4 _ _ _) ?_)
 refine xL _ rfl (run_load1 s1na51 (hv.load 1 4 rfl rfl)) (xC s1callable88 rfl ((cloneMems _ _ _ z _ _ (h.z.more (hC7.trans hC12)) (memCells_len _) (memCells_one _) h.zm hv).mono ?_) rfl)
 rintro e w19 ⟨C17, q18, hC17, rfl, hq18, hv⟩
 refine ⟨_, rfl, ?_⟩
 simp only [zP, po]
 refine xF (.pointer (some ⟨b2, 4, none⟩)) rfl (s1fa53_4 _ _ _) (xV 1 q18 rfl hv s1sz51 hq18.cells hq18.one (fun w20 hv => ?_))
 simp only [zS, zO, sp] at hv
 simp only [zP, po]
 refine wK k16 (sK fun _ k21 => ?_)
 refine rL (xL (.agg #[.int .i64 v.kind, .string ⟨v.text.toArray⟩, q8, q13, q18]) rfl (run_load_mid (pre := []) (mid := [.int .i64 v.kind, .string ⟨v.text.toArray⟩, q8, q13, q18]) (post := []) s1wd53 (show Blk _ b2 ([] ++ [.int .i64 v.kind, .string ⟨v.text.toArray⟩, q8, q13, q18] ++ []) _ from hv.get 1 rfl) rfl) ?_)
 refine xS 0 rfl hv s1sz53 rfl (by exact ⟨rfl, rfl, hq8.one, hq13.one, hq18.one, trivial⟩) (fun w22 hv => ?_)
 simp only [zO, sp] at hv
 simp only [zP, po]
 refine wK k21 (rR ?_)
 refine bodyPost_ret (res_cell1 rfl rfl (run_load_mid (pre := []) (mid := [.int .i64 v.kind, .string ⟨v.text.toArray⟩, q8, q13, q18]) (post := []) s1wd53 (show Blk _ b4 ([] ++ [.int .i64 v.kind, .string ⟨v.text.toArray⟩, q8, q13, q18] ++ []) _ from hv.get 0 rfl) rfl)) rfl (⟨_, q8, q13, q18, ((hC7.trans hC12).trans hC17), rfl, ⟨hq8.more (hC12.trans hC17), hq13.more hC17, hq18.more (Base.Le.refl _), h.pm, h.tm, h.zm⟩, (hv.sub (List.Sublist.cons _ (List.Sublist.cons _ (List.Sublist.refl _))))⟩)
theorem s1al55 (w : World) : (Instr.alloc 55 true (.tuple #[])).run Tryz.prog w = .ok (.pointer (some ⟨w.heap.size, 0, none⟩)) (w.alloc (.cells ([.int .i64 0, .bool false, .int .i64 0, .int .i64 0, .string ⟨([] : List UInt8).toArray⟩, .slice none 0 0, .slice none 0 0, .slice none 0 0] : List Value).toArray 55)) := by kernel_rfl
theorem s1fa55_3 (w : World) (b o : Nat) : (Instr.fieldAt 55 (.pointer (some ⟨b, o, none⟩)) 3).run Tryz.prog w = .ok (.pointer (some ⟨b, o + 3, none⟩)) w := by kernel_rfl
theorem s1callable72 : Callable Tryz.prog 72 := ⟨_, Tryz.func72, by kernel_rfl, by kernel_rfl⟩
theorem s1wd55 : Wide Tryz.prog 55 8 := wide_of (fun w => by kernel_rfl) (by kernel_rfl)
theorem s1sz55 : (Tryz.prog.info? 55).map (·.size) = some 8 := by kernel_rfl
set_option maxHeartbeats 2000000 in
theorem chainClone (B : Base) (H : List Res) (w : World) (v : Ver) (p t z : Value) (h : ValAt B v.val p t z) (hv : Inv B H w) :
  Calls Tryz.prog 58 #[.agg #[.int .i64 v.stamp, .bool v.gone, .int .i64 v.expire, .int .i64 v.val.kind, .string ⟨v.val.text.toArray⟩, p, t, z]] w fun e w' => ∃ C p' t' z', B.Le C ∧ e = .returned (.agg #[.int .i64 v.stamp, .bool v.gone, .int .i64 v.expire, .int .i64 v.val.kind, .string ⟨v.val.text.toArray⟩, p', t', z']) ∧ ValAt C v.val p' t' z' ∧ Inv C H w' := by
 refine cW Tryz.func58 rfl Tryz.ntmps58 ?_
 simp only [al]
 refine sK fun _ k1 => rL (sl_box (L := [.int .i64 v.stamp, .bool v.gone, .int .i64 v.expire, .int .i64 v.val.kind, .string ⟨v.val.text.toArray⟩, p, t, z]) tV (wn rfl) rfl rfl hv (fun w => by kernel_rfl) (fun b2 w3 hv => ?_))
 refine sl_alloc tV (wn rfl) rfl hv s1al55 (fun b4 w5 hv => ?_)
 simp only [zP, po]
 refine wK k1 (sK fun _ k6 => ?_)
 refine rL (xF (.pointer (some ⟨b2, 3, none⟩)) rfl (s1fa55_3 _ _ _) ?_)
 refine xL (.agg #[.int .i64 v.val.kind, .string ⟨v.val.text.toArray⟩, p, t, z]) rfl (run_load_mid (pre := [.int .i64 v.stamp, .bool v.gone, .int .i64 v.expire]) (mid := [.int .i64 v.val.kind, .string ⟨v.val.text.toArray⟩, p, t, z]) (post := []) s1wd53 (show Blk _ b2 ([.int .i64 v.stamp, .bool v.gone, .int .i64 v.expire] ++ [.int .i64 v.val.kind, .string ⟨v.val.text.toArray⟩, p, t, z] ++ []) _ from hv.get 1 rfl) rfl) (xC s1callable72 rfl ((valueClone _ _ _ v.val p t z (h.more (Base.Le.refl _)) hv).mono ?_) rfl)
 rintro e w11 ⟨C7, p8, t9, z10, hC7, rfl, hp8, hv⟩
 refine ⟨_, rfl, ?_⟩
 simp only [zP, po]
 refine xF (.pointer (some ⟨b2, 3, none⟩)) rfl (s1fa55_3 _ _ _) (xS 1 rfl hv s1sz53 rfl (by exact ⟨rfl, rfl, hp8.p.one, hp8.t.one, hp8.z.one, trivial⟩) (fun w12 hv => ?_))
 simp only [zS, zO, sp] at hv
 simp only [zP, po]
 refine wK k6 (sK fun _ k13 => ?_)
 refine rL (xL (.agg #[.int .i64 v.stamp, .bool v.gone, .int .i64 v.expire, .int .i64 v.val.kind, .string ⟨v.val.text.toArray⟩, p8, t9, z10]) rfl (run_load_mid (pre := []) (mid := [.int .i64 v.stamp, .bool v.gone, .int .i64 v.expire, .int .i64 v.val.kind, .string ⟨v.val.text.toArray⟩, p8, t9, z10]) (post := []) s1wd55 (show Blk _ b2 ([] ++ [.int .i64 v.stamp, .bool v.gone, .int .i64 v.expire, .int .i64 v.val.kind, .string ⟨v.val.text.toArray⟩, p8, t9, z10] ++ []) _ from hv.get 1 rfl) rfl) ?_)
 refine xS 0 rfl hv s1sz55 rfl (by exact ⟨rfl, rfl, rfl, rfl, rfl, hp8.p.one, hp8.t.one, hp8.z.one, trivial⟩) (fun w14 hv => ?_)
 simp only [zO, sp] at hv
 simp only [zP, po]
 refine wK k13 (rR ?_)
 refine bodyPost_ret (res_cell1 rfl rfl (run_load_mid (pre := []) (mid := [.int .i64 v.stamp, .bool v.gone, .int .i64 v.expire, .int .i64 v.val.kind, .string ⟨v.val.text.toArray⟩, p8, t9, z10]) (post := []) s1wd55 (show Blk _ b4 ([] ++ [.int .i64 v.stamp, .bool v.gone, .int .i64 v.expire, .int .i64 v.val.kind, .string ⟨v.val.text.toArray⟩, p8, t9, z10] ++ []) _ from hv.get 0 rfl) rfl)) rfl (⟨_, p8, t9, z10, hC7, rfl, hp8, (hv.sub (List.Sublist.cons _ (List.Sublist.cons _ (List.Sublist.refl _))))⟩)
theorem s1mk55 : (Tryz.prog.info? 55).map (fun i => (i.zero, i.size, i.bytes)) = some (some (.agg #[.int .i64 0, .bool false, .int .i64 0, .int .i64 0, .string ⟨([] : List UInt8).toArray⟩, .slice none 0 0, .slice none 0 0, .slice none 0 0]), 8, 120) := by kernel_rfl
theorem s1el70 : Elem Tryz.prog 70 55 (.agg #[.int .i64 0, .bool false, .int .i64 0, .int .i64 0, .string ⟨([] : List UInt8).toArray⟩, .slice none 0 0, .slice none 0 0, .slice none 0 0]) 8 120 := elem_of Tryz.underlying70 s1mk55 (by rfl) (by decide)
theorem s1es70 (w : World) : (sizeOf (Tryz.prog.elem 70)).run Tryz.prog w = .ok 8 w := by kernel_rfl
set_option maxHeartbeats 2000000 in
theorem indexClone0 (B : Base) (H : List Res) (w : World) (ad : Option Addr) (c : Nat) (xs : List Value) (l : List Ver) (hok : SliceOk ad l.length c) (hr : RdV B [] ad xs) (hxs : VersAt B l xs) (hm : l.length ≤ 1000000) (hv : Inv B H w) :
  Calls Tryz.prog 52 #[.slice ad l.length c] w fun e w' => ∃ C v', B.Le C ∧ e = .returned v' ∧ ChainB C v' l ∧ Inv C H w' := by
 refine cW Tryz.func52 rfl Tryz.ntmps52 ?_
 simp only [al]
 refine sK fun _ k1 => rL (xA (.slice none 0 0) rfl ?_)
 simp only [zP, po]
 refine wK k1 (sK fun _ k2 => ?_)
 refine rL (xM (.slice ad l.length c) rfl ?_)
 refine xG (.int .i64 (l.length : Int)) rfl (ex_len0 Tryz.underlying70 rfl rfl) (sl_makeRow (cap := l.length) tV (wn rfl) rfl rfl rfl s1el70 (by unfold maxLen; omega) (by omega) hv (fun b3 w4 hv => ?_))
 simp only [zP, po]
 refine xA (.slice (some ⟨b3, 0, none⟩) 0 l.length) rfl ?_
 simp only [zP, po]
 refine wK k2 (sK fun _ k5 => ?_)
 refine sK fun _ k6 => rL (xM (.slice ad l.length c) rfl ?_)
 refine xG (.int .i64 (l.length : Int)) rfl (ex_len0 Tryz.underlying70 rfl rfl) (xM (.int .i64 0) rfl ?_)
 simp only [zP, po]
 refine wK k6 (bB ?_)
 gi_loopw [3, 11] (fun x3 x11 wr => ∃ (i : Nat) (C : Base) (ra : Option Addr) (rc : Nat) (ys : List Value), x3 = .slice ra i rc ∧ x11 = .int .i64 (i : Int) ∧ B.Le C ∧ i ≤ l.length ∧ VersAt C (l.take i) ys ∧ Inv C (Res.row 55 8 (.slice ra i rc) i ys :: H) wr) (fun x3 x11 _ => l.length - (intOf x11).toNat)
 case atStart => exact ⟨0, B, _, _, [], rfl, rfl, Base.Le.refl _, Nat.zero_le _, rfl, hv⟩
 case round =>
  obtain ⟨i, C, ra, rc, ys, rfl, rfl, hBC, hi, hys, hv⟩ := hrel
  refine sK fun _ k8 => rL ?_
  by_cases hb9 : (i : Int) < (l.length : Int)
  ·refine xG (.bool true) rfl (ex_lss rfl rfl rfl (decide_eq_true hb9)) ?_
   simp only [zP, po]
   refine wK k8 (sK fun _ k10 => ?_)
   refine cT rfl (kS ?_)
   refine tK k10 (sK fun _ k11 => ?_)
   refine bB (sK fun _ k12 => ?_)
   obtain ⟨x, hx⟩ : ∃ x, l[i]? = some x := ⟨_, List.getElem?_eq_getElem (show i < l.length by omega)⟩
   obtain ⟨bb, bo, xp, xt, xz, had, hvalx, hrdx⟩ := VersAt.reads hxs hr hx
   subst had
   refine rL (xG (.pointer (some ⟨bb, bo + i * 8, none⟩)) rfl (ex_index rfl rfl rfl (run_idx (k := i) Tryz.underlying70 s1es70 (by omega))) ?_)
   refine xL (.agg #[.int .i64 x.stamp, .bool x.gone, .int .i64 x.expire, .int .i64 x.val.kind, .string ⟨x.val.text.toArray⟩, xp, xt, xz]) rfl (run_loadR (cs := [.int .i64 x.stamp, .bool x.gone, .int .i64 x.expire, .int .i64 x.val.kind, .string ⟨x.val.text.toArray⟩, xp, xt, xz]) s1wd55 (Reads.mid (pre := []) (mid := [.int .i64 x.stamp, .bool x.gone, .int .i64 x.expire, .int .i64 x.val.kind, .string ⟨x.val.text.toArray⟩, xp, xt, xz]) (post := []) hrdx _ _ _ hBC no_res hv)) (sl_alloc tV (wn rfl) rfl hv s1al55 (fun b13 w14 hv => ?_))
   simp only [zP, po]
   refine xS 0 rfl hv s1sz55 rfl (by exact ⟨rfl, rfl, rfl, rfl, rfl, hvalx.p.one, hvalx.t.one, hvalx.z.one, trivial⟩) (fun w15 hv => ?_)
   simp only [zO, sp] at hv
   simp only [zP, po]
   refine wK k12 (sK fun _ k16 => ?_)
   refine rL (xF (.pointer (some ⟨b13, 3, none⟩)) rfl (s1fa55_3 _ _ _) ?_)
   refine xL (.agg #[.int .i64 x.val.kind, .string ⟨x.val.text.toArray⟩, xp, xt, xz]) rfl (run_load_mid (pre := [.int .i64 x.stamp, .bool x.gone, .int .i64 x.expire]) (mid := [.int .i64 x.val.kind, .string ⟨x.val.text.toArray⟩, xp, xt, xz]) (post := []) s1wd53 (show Blk _ b13 ([.int .i64 x.stamp, .bool x.gone, .int .i64 x.expire] ++ [.int .i64 x.val.kind, .string ⟨x.val.text.toArray⟩, xp, xt, xz] ++ []) _ from hv.get 0 rfl) rfl) (xC s1callable72 rfl ((valueClone _ _ _ x.val xp xt xz (hvalx.more hBC) hv).mono ?_) rfl)
   rintro e w21 ⟨C17, p18, t19, z20, hC17, rfl, hp18, hv⟩
   refine ⟨_, rfl, ?_⟩
   simp only [zP, po]
   refine xF (.pointer (some ⟨b13, 3, none⟩)) rfl (s1fa55_3 _ _ _) (xS 0 rfl hv s1sz53 rfl (by exact ⟨rfl, rfl, hp18.p.one, hp18.t.one, hp18.z.one, trivial⟩) (fun w22 hv => ?_))
   simp only [zO, sp] at hv
   simp only [zP, po]
   refine wK k16 (rL ?_)
   refine xM (.slice ra i rc) rfl (xL (.agg #[.int .i64 x.stamp, .bool x.gone, .int .i64 x.expire, .int .i64 x.val.kind, .string ⟨x.val.text.toArray⟩, p18, t19, z20]) rfl (run_load_mid (pre := []) (mid := [.int .i64 x.stamp, .bool x.gone, .int .i64 x.expire, .int .i64 x.val.kind, .string ⟨x.val.text.toArray⟩, p18, t19, z20]) (post := []) s1wd55 (show Blk _ b13 ([] ++ [.int .i64 x.stamp, .bool x.gone, .int .i64 x.expire, .int .i64 x.val.kind, .string ⟨x.val.text.toArray⟩, p18, t19, z20] ++ []) _ from hv.get 0 rfl) rfl) ?_)
   refine sl_rowAgg (L := [.int .i64 x.stamp, .bool x.gone, .int .i64 x.expire, .int .i64 x.val.kind, .string ⟨x.val.text.toArray⟩, p18, t19, z20]) tV (wn rfl) rfl rfl hv s1el70 rfl (by decide) (fun b23 w24 hv => ?_)
   simp only [zP, po]
   replace hv := hv.front 2 rfl
   simp only [List.eraseIdx_cons_succ, List.eraseIdx_cons_zero] at hv
   refine sl_append (news := [.int .i64 x.stamp, .bool x.gone, .int .i64 x.expire, .int .i64 x.val.kind, .string ⟨x.val.text.toArray⟩, p18, t19, z20]) tV (wn rfl) rfl rfl rfl s1el70 hv (ok_full (by omega)) rfl (rd_all (hv.get 1 rfl)) (verCells_one (v := x) hp18) (by unfold maxLen; omega) (by omega) (fun rv25 w28 hv => ?_)
   obtain ⟨ra26, rc27, rfl⟩ := row_slice hv.head
   refine xA (.slice ra26 (i + 1) rc27) rfl (wL ?_)
   simp only [zP, po]
   refine bN (tK k11 ?_)
   refine rL (xG (.int .i64 ((i + 1 : Nat) : Int)) rfl (ex_add rfl rfl rfl (by rw [i64_in (by omega)]; omega)) ?_)
   refine xM (.int .i64 ((i + 1 : Nat) : Int)) rfl (wL ?_)
   simp only [zP, po]
   refine then_normal ?_
   go_roundw
   case rel => exact ⟨i + 1, _, _, _, _, rfl, rfl, (hBC.trans hC17), by omega, (hys.more hC17).next hx hp18, (hv.sub (List.Sublist.cons_cons _ (List.Sublist.cons _ (List.Sublist.cons _ (List.Sublist.refl _)))))⟩
   case measure => show l.length - (((i + 1 : Nat) : Int)).toNat < l.length - ((i : Int)).toNat; omega
  refine xG (.bool false) rfl (ex_lss rfl rfl rfl (decide_eq_false hb9)) ?_
  simp only [zP, po]
  refine wK k8 (sK fun _ k29 => ?_)
  refine cF rfl (xE ?_)
  refine tX (tX ?_)
  refine bH (tK k5 ?_)
  refine sK fun _ k30 => rL (xM (.slice ra i rc) rfl ?_)
  refine xA (.slice ra i rc) rfl ?_
  simp only [zP, po]
  refine wK k30 (rR ?_)
  refine bR rfl rfl ?_
  obtain rfl : i = l.length := by omega
  obtain ⟨D, hD, hv2, hr2, hok2, -⟩ := hv.rowBy
  rw [List.take_length] at hys
  exact ⟨D, _, hBC.trans hD, rfl, ⟨ra, rc, _, rfl, hok2, hr2, hys.more hD⟩, hv2⟩
theorem indexClone (B : Base) (H : List Res) (w : World) (v : Value) (l : List Ver) (h : ChainB B v l) (hm : l.length ≤ 1000000) (hv : Inv B H w) :
  Calls Tryz.prog 52 #[v] w fun e w' => ∃ C v', B.Le C ∧ e = .returned v' ∧ ChainB C v' l ∧ Inv C H w' := by
 obtain ⟨ad, c, xs, rfl, hok, hr, hxs⟩ := h
 exact indexClone0 B H w ad c xs l hok hr hxs hm hv
end Go.Proofs.YtffmbdagjpdieaaGreat
/- sort.Search over a function value; chain.upto, chain.At, chain.Alive. -/
namespace Go.Proofs.YtffmbdagjpdieaaGreat
open Go.RowKit Go.Pm
theorem shr1 (m : Nat) : ((m : Int)).fdiv (2 ^ (min (1 : Int).toNat IntKind.u64.bits)) = ((m / 2 : Nat) : Int) := by
 show ((m : Int)).fdiv (2 ^ 1) = _
 rw [Int.fdiv_eq_ediv_of_nonneg _ (by decide)]; omega
def UptoI (l : List Ver) (s : Int) (i : Nat) : Prop := i ≤ l.length ∧ (∀ x, l[i]? = some x → s < x.stamp) ∧ (∀ j x, i = j + 1 → l[j]? = some x → x.stamp ≤ s)
def aliveB (v : Ver) (clock : Int) : Bool := !v.gone && (decide (v.expire = 0) || decide (clock < v.expire))
abbrev zeroVer : List Value := [.int .i64 0, .bool false, .int .i64 0, .int .i64 0, .string ⟨([] : List UInt8).toArray⟩, .slice none 0 0, .slice none 0 0, .slice none 0 0]
set_option maxHeartbeats 2000000 in
theorem sortSearch (B : Base) (H : List Res) (w : World) (f : FuncId) (cb : Array Value) (n : Nat) (p : Nat → Bool) (hcal : Callable Tryz.prog f) (hf : ∀ k, k < n → ∀ w, Inv B H w → Calls Tryz.prog f (#[.int .i64 (k : Int)] ++ cb) w fun e w' => e = .returned (.bool (p k)) ∧ Inv B H w') (hn : n ≤ 1000000000) (hv : Inv B H w) :
  Calls Tryz.prog 69 #[.int .i64 (n : Int), .func (.func f) #[] cb] w fun e w' => ∃ i : Nat, i ≤ n ∧ (i < n → p i = true) ∧ (∀ j, i = j + 1 → p j = false) ∧ e = .returned (.int .i64 (i : Int)) ∧ Inv B H w' := by
 refine cW Tryz.func69 rfl Tryz.ntmps69 ?_
 simp only [al]
 refine sK fun _ k1 => rL (xA (.int .i64 0) rfl ?_)
 simp only [zP, po]
 refine wK k1 (sK fun _ k2 => ?_)
 refine rL (xM (.int .i64 (n : Int)) rfl ?_)
 refine xA (.int .i64 0) rfl (xA (.int .i64 (n : Int)) rfl ?_)
 simp only [zP, po]
 refine wK k2 (sK fun _ k3 => ?_)
 refine bB ?_
 gi_loopw [5, 6] (fun x5 x6 wr => ∃ (lo hi : Nat), x5 = .int .i64 (lo : Int) ∧ x6 = .int .i64 (hi : Int) ∧ lo ≤ hi ∧ hi ≤ n ∧ (hi < n → p hi = true) ∧ (∀ j, lo = j + 1 → p j = false) ∧ Inv B H wr) (fun x5 x6 _ => (intOf x6).toNat - (intOf x5).toNat)
 case atStart => exact ⟨0, n, rfl, rfl, Nat.zero_le _, Nat.le_refl _, fun h => by omega, fun j h => by omega, hv⟩
 case round =>
  obtain ⟨lo, hi, rfl, rfl, hlh, hin, hph, hpl, hv⟩ := hrel
  refine sK fun _ k5 => sK fun _ k6 => rL (xM (.int .i64 (lo : Int)) rfl ?_)
  refine xM (.int .i64 (hi : Int)) rfl ?_
  by_cases hb7 : (lo : Int) < (hi : Int)
  ·refine xG (.bool true) rfl (ex_lss rfl rfl rfl (decide_eq_true hb7)) ?_
   simp only [zP, po]
   refine wK k6 (cT rfl ?_)
   refine kS (tK k5 ?_)
   refine bB (sK fun _ k8 => ?_)
   refine rL (xM (.int .i64 (lo : Int)) rfl ?_)
   refine xM (.int .i64 (hi : Int)) rfl (xG (.int .i64 ((lo + hi : Nat) : Int)) rfl (ex_add rfl rfl rfl (by rw [i64_in (by omega)]; omega)) ?_)
   simp only [zP, po]
   refine xG (.int .u64 ((lo + hi : Nat) : Int)) rfl (ex_int Tryz.underlying3 Tryz.underlying128 rfl rfl (u64_in (by omega))) (xG (.int .u64 ((((lo + hi) / 2) : Nat) : Int)) rfl (ex_shr (m := ((lo + hi : Nat) : Int)) (n := 1) rfl rfl rfl (by decide) (shr1 (lo + hi))) ?_)
   refine xG (.int .i64 ((((lo + hi) / 2) : Nat) : Int)) rfl (ex_int Tryz.underlying128 Tryz.underlying3 rfl rfl (i64_in (by omega))) ?_
   simp only [zP, po]
   refine xA (.int .i64 ((((lo + hi) / 2) : Nat) : Int)) rfl ?_
   simp only [zP, po]
   refine wK k8 (sK fun _ k9 => ?_)
   refine rL (xM (.func (.func f) #[] cb) rfl ?_)
   refine xM (.int .i64 ((((lo + hi) / 2) : Nat) : Int)) rfl (wpi_callV hcal tV wideC rfl (wn rfl) rfl rfl (args := #[.int .i64 ((((lo + hi) / 2) : Nat) : Int)]) (by simp only [List.map_toArray, List.map_cons, List.map_nil]; rfl) ((hf ((lo + hi) / 2) (by omega) _ hv).mono ?_))
   rintro e w10 ⟨rfl, hv⟩
   refine ⟨_, rfl, ?_⟩
   simp only [zP, po]
   refine xG (.bool (!(p ((lo + hi) / 2)))) rfl (ex_not rfl rfl rfl) ?_
   simp only [zP, po]
   refine wK k9 (wpIn_cond_split (t := !(p ((lo + hi) / 2))) rfl (fun hc11 => ?_) (fun hc11 => ?_))
   ·refine rL (xM (.int .i64 ((((lo + hi) / 2) : Nat) : Int)) rfl ?_)
    refine xG (.int .i64 ((((lo + hi) / 2) + 1 : Nat) : Int)) rfl (ex_add rfl rfl rfl (by rw [i64_in (by omega)]; omega)) (xA (.int .i64 ((((lo + hi) / 2) + 1 : Nat) : Int)) rfl ?_)
    refine wL ?_
    simp only [zP, po]
    refine bN (then_normal ?_)
    go_roundw
    case rel => exact ⟨((lo + hi) / 2) + 1, hi, rfl, rfl, by omega, hin, hph, fun j hj => (by rw [show j = ((lo + hi) / 2) by omega]; simpa using hc11), hv⟩
    case measure => show ((hi : Int)).toNat - (((((lo + hi) / 2) + 1 : Nat) : Int)).toNat < ((hi : Int)).toNat - ((lo : Int)).toNat; omega
   refine rL (xM (.int .i64 ((((lo + hi) / 2) : Nat) : Int)) rfl ?_)
   refine xA (.int .i64 ((((lo + hi) / 2) : Nat) : Int)) rfl (wL ?_)
   simp only [zP, po]
   refine bN (then_normal ?_)
   go_roundw
   case rel => exact ⟨lo, ((lo + hi) / 2), rfl, rfl, by omega, by omega, fun _ => by simpa using hc11, hpl, hv⟩
   case measure => show (((((lo + hi) / 2) : Nat) : Int)).toNat - ((lo : Int)).toNat < ((hi : Int)).toNat - ((lo : Int)).toNat; omega
  refine xG (.bool false) rfl (ex_lss rfl rfl rfl (decide_eq_false hb7)) ?_
  simp only [zP, po]
  refine wK k6 (cF rfl ?_)
  refine xE (tX ?_)
  refine tX (bH ?_)
  refine tK k3 (sK fun _ k12 => ?_)
  refine rL (xM (.int .i64 (lo : Int)) rfl ?_)
  refine xA (.int .i64 (lo : Int)) rfl ?_
  simp only [zP, po]
  refine wK k12 (rR ?_)
  refine bR rfl rfl ?_
  obtain rfl : lo = hi := by omega
  exact ⟨lo, hin, hph, hpl, rfl, hv⟩
theorem s2na70 (w : World) : (isAgg 70).run Tryz.prog w = .ok false w := by kernel_rfl
theorem s2fa55_0 (w : World) (b o : Nat) : (Instr.fieldAt 55 (.pointer (some ⟨b, o, none⟩)) 0).run Tryz.prog w = .ok (.pointer (some ⟨b, o + 0, none⟩)) w := by kernel_rfl
theorem s2na3 (w : World) : (isAgg 3).run Tryz.prog w = .ok false w := by kernel_rfl
set_option maxHeartbeats 2000000 in
theorem uptoFn (B : Base) (H : List Res) (w : World) (b1 b2 k : Nat) (s : Int) (ad : Option Addr) (c : Nat) (xs : List Value) (l : List Ver) (x : Ver) (hr : RdV B [] ad xs) (hxs : VersAt B l xs) (hk : l[k]? = some x) (hv : Inv B (Res.cell b2 [.int .i64 s] 3 :: Res.cell b1 [.slice ad l.length c] 70 :: H) w) :
  Calls Tryz.prog 80 #[.int .i64 (k : Int), .pointer (some ⟨b1, 0, none⟩), .pointer (some ⟨b2, 0, none⟩)] w fun e w' => e = .returned (.bool (decide (x.stamp > s))) ∧ Inv B (Res.cell b2 [.int .i64 s] 3 :: Res.cell b1 [.slice ad l.length c] 70 :: H) w' := by
 have hkl : k < l.length := (List.getElem?_eq_some_iff.1 hk).1
 have hkx := hk
 refine cW Tryz.func80 rfl Tryz.ntmps80 ?_
 simp only [al]
 refine sK fun _ k1 => rL (xA (.bool false) rfl ?_)
 simp only [zP, po]
 refine wK k1 (sK fun _ k2 => ?_)
 obtain ⟨bb, bo, p, t, z, had, hval, hrd⟩ := VersAt.reads hxs hr hk
 subst had
 refine rW mixed [] [0,1,2,3,4,5,6,7] 12 rfl (by kernel_rfl) hv ?_
 simp only [qm, opAt]
 refine dL _ rfl (fun hv => ex_load rfl rfl (run_load1 s2na70 (hv.load 1 0 rfl rfl))) (dM (.int .i64 (k : Int)) rfl ?_)
 refine dG (.pointer (some ⟨bb, bo + k * 8, none⟩)) rfl (ex_index rfl rfl rfl (run_idx (k := k) Tryz.underlying70 s1es70 (by omega))) ?_
 simp only [zP, po]
 refine dG (.pointer (some ⟨bb, bo + k * 8, none⟩)) rfl (ex_field rfl rfl (s2fa55_0 _ _ _)) (dL _ rfl (fun hv => ex_load rfl rfl (run_load1 s2na3 (hrd _ _ _ (Base.Le.refl _) no_res hv 0 _ rfl))) ?_)
 refine dL _ rfl (fun hv => ex_load rfl rfl (run_load1 s2na3 (hv.load 0 0 rfl rfl))) ?_
 simp only [zP, po]
 refine dG (.bool (decide (x.stamp > s))) rfl (ex_gtr rfl rfl rfl rfl) (dA (.bool (decide (x.stamp > s))) rfl ?_)
 refine dE fun w3 hv => ?_
 simp only [zP, po]
 refine tK k2 (rR ?_)
 refine bR rfl rfl (⟨rfl, hv⟩)
theorem s2callable80 : Callable Tryz.prog 80 := ⟨_, Tryz.func80, by kernel_rfl, by kernel_rfl⟩
theorem s2callable69 : Callable Tryz.prog 69 := ⟨_, Tryz.func69, by kernel_rfl, by kernel_rfl⟩
set_option maxHeartbeats 2000000 in
theorem chainUpto (B : Base) (H : List Res) (w : World) (ad : Option Addr) (c : Nat) (s : Int) (xs : List Value) (l : List Ver) (hr : RdV B [] ad xs) (hxs : VersAt B l xs) (hm : l.length ≤ 1000000) (hv : Inv B H w) :
  Calls Tryz.prog 57 #[.slice ad l.length c, .int .i64 s] w fun e w' => ∃ i, UptoI l s i ∧ e = .returned (.int .i64 (i : Int)) ∧ Inv B H w' := by
 refine cW Tryz.func57 rfl Tryz.ntmps57 ?_
 simp only [al]
 refine sK fun _ k1 => rL (sl_box (L := [.slice ad l.length c]) tV (wn rfl) rfl rfl hv (fun w => by kernel_rfl) (fun b2 w3 hv => ?_))
 refine sl_box (L := [.int .i64 s]) tV (wn rfl) rfl rfl hv (fun w => by kernel_rfl) (fun b4 w5 hv => ?_)
 refine xA (.int .i64 0) rfl ?_
 simp only [zP, po]
 refine wK k1 (sK fun _ k6 => ?_)
 refine rL (xL _ rfl (run_load1 s2na70 (hv.load 1 0 rfl rfl)) ?_)
 refine xG (.int .i64 (l.length : Int)) rfl (ex_len0 Tryz.underlying70 rfl rfl) (xG (.func (.func 80) #[] #[.pointer (some ⟨b2, 0, none⟩), .pointer (some ⟨b4, 0, none⟩)]) rfl (ex_makeFunc (c' := #[.pointer (some ⟨b2, 0, none⟩), .pointer (some ⟨b4, 0, none⟩)]) rfl (by simp only [List.map_toArray, List.map_nil]) (by simp only [List.map_toArray, List.map_cons, List.map_nil]; rfl)) ?_)
 simp only [zP, po]
 have hfn : ∀ k, k < l.length → ∀ w, Inv B (Res.cell b4 [.int .i64 s] 3 :: Res.cell b2 [.slice ad l.length c] 70 :: H) w → Calls Tryz.prog 80 (#[.int .i64 (k : Int)] ++ #[.pointer (some ⟨b2, 0, none⟩), .pointer (some ⟨b4, 0, none⟩)]) w fun e w' => e = .returned (.bool ((l[k]?.map fun x => decide (x.stamp > s)).getD false)) ∧ Inv B (Res.cell b4 [.int .i64 s] 3 :: Res.cell b2 [.slice ad l.length c] 70 :: H) w' := fun k hk w hv => by
  obtain ⟨x, hx⟩ : ∃ x, l[k]? = some x := ⟨_, List.getElem?_eq_getElem hk⟩
  rw [hx]
  exact uptoFn B H w _ _ k s ad c xs l x hr hxs hx hv
 refine xC s2callable69 rfl ((sortSearch B _ _ 80 _ l.length _ s2callable80 hfn (by omega) hv).mono ?_) rfl
 rintro e w8 ⟨i7, hi1, hi2, hi3, rfl, hv⟩
 refine ⟨_, rfl, ?_⟩
 refine xA (.int .i64 (i7 : Int)) rfl ?_
 simp only [zP, po]
 refine wK k6 (rR ?_)
 refine bR rfl rfl (⟨i7, ⟨hi1, fun x hx => ?_, fun j x hj hx => ?_⟩, rfl, (hv.sub (List.Sublist.cons _ (List.Sublist.cons _ (List.Sublist.refl _))))⟩)
 ·have := hi2 (List.getElem?_eq_some_iff.1 hx).1
  rw [hx] at this
  simpa using this
 have := hi3 j hj
 rw [hx] at this
 simpa using this
theorem s2al55 (w : World) : (Instr.alloc 55 true (.tuple #[])).run Tryz.prog w = .ok (.pointer (some ⟨w.heap.size, 0, none⟩)) (w.alloc (.cells ([.int .i64 0, .bool false, .int .i64 0, .int .i64 0, .string ⟨([] : List UInt8).toArray⟩, .slice none 0 0, .slice none 0 0, .slice none 0 0] : List Value).toArray 55)) := by kernel_rfl
theorem s2callable57 : Callable Tryz.prog 57 := ⟨_, Tryz.func57, by kernel_rfl, by kernel_rfl⟩
theorem s2callable58 : Callable Tryz.prog 58 := ⟨_, Tryz.func58, by kernel_rfl, by kernel_rfl⟩
set_option maxHeartbeats 2000000 in
theorem chainAt (B : Base) (H : List Res) (w : World) (ad : Option Addr) (c : Nat) (s : Int) (xs : List Value) (l : List Ver) (hr : RdV B [] ad xs) (hxs : VersAt B l xs) (hm : l.length ≤ 1000000) (hv : Inv B H w) :
  Calls Tryz.prog 47 #[.slice ad l.length c, .int .i64 s] w fun e w' => ∃ i, UptoI l s i ∧ ((i = 0 ∧ e = .returned (.tuple #[.agg zeroVer.toArray, .bool false]) ∧ Inv B H w') ∨ ∃ j x C p t z, i = j + 1 ∧ l[j]? = some x ∧ B.Le C ∧ e = .returned (.tuple #[.agg (verCells x p t z).toArray, .bool true]) ∧ ValAt C x.val p t z ∧ Inv C H w') := by
 refine cW Tryz.func47 rfl Tryz.ntmps47 ?_
 simp only [al]
 refine sK fun _ k1 => rL (sl_alloc tV (wn rfl) rfl hv s2al55 (fun b2 w3 hv => ?_))
 refine xA (.bool false) rfl ?_
 simp only [zP, po]
 refine wK k1 (sK fun _ k4 => ?_)
 refine rL (xM (.slice ad l.length c) rfl ?_)
 refine xM (.int .i64 s) rfl (xC s2callable57 rfl ((chainUpto B _ _ _ _ _ _ l hr hxs hm hv).mono ?_) rfl)
 rintro e w5 ⟨i, hu, rfl, hv⟩
 refine ⟨_, rfl, ?_⟩
 simp only [zP, po]
 refine xA (.int .i64 (i : Int)) rfl ?_
 simp only [zP, po]
 refine wK k4 (sK fun _ k6 => ?_)
 refine sK fun _ k7 => rL (xM (.int .i64 (i : Int)) rfl ?_)
 by_cases hb8 : (i : Int) = 0
 ·refine xG (.bool true) rfl (ex_eql rfl rfl rfl (decide_eq_true hb8)) ?_
  simp only [zP, po]
  refine wK k7 (cT rfl ?_)
  refine sK fun _ k9 => rL (xG (.agg #[.int .i64 0, .bool false, .int .i64 0, .int .i64 0, .string ⟨([] : List UInt8).toArray⟩, .slice none 0 0, .slice none 0 0, .slice none 0 0]) rfl (ex_buildN (vs := #[]) rfl (by simp only [List.map_toArray, List.map_nil]) (by kernel_rfl)) ?_)
  refine xS 0 rfl hv s1sz55 rfl (by exact ⟨rfl, rfl, rfl, rfl, rfl, rfl, rfl, rfl, trivial⟩) (fun w10 hv => ?_)
  simp only [zO, sp] at hv
  refine xA (.bool false) rfl ?_
  simp only [zP, po]
  refine wK k9 (rR ?_)
  refine tR (bodyPost_ret (res_cell2 rfl rfl (run_load_mid (pre := []) (mid := [.int .i64 0, .bool false, .int .i64 0, .int .i64 0, .string ⟨([] : List UInt8).toArray⟩, .slice none 0 0, .slice none 0 0, .slice none 0 0]) (post := []) s1wd55 (show Blk _ b2 ([] ++ [.int .i64 0, .bool false, .int .i64 0, .int .i64 0, .string ⟨([] : List UInt8).toArray⟩, .slice none 0 0, .slice none 0 0, .slice none 0 0] ++ []) _ from hv.get 0 rfl) rfl)) rfl ?_)
  exact ⟨i, hu, .inl ⟨by omega, rfl, (hv.sub (List.Sublist.cons _ (List.Sublist.refl _)))⟩⟩
 refine xG (.bool false) rfl (ex_eql rfl rfl rfl (decide_eq_false hb8)) ?_
 obtain ⟨j, hj⟩ : ∃ j : Nat, i = j + 1 := ⟨i - 1, by omega⟩
 have hjl : j < l.length := by have := hu.1; omega
 simp only [zP, po]
 refine wK k7 (cF rfl ?_)
 refine kS (tK k6 ?_)
 refine sK fun _ k11 => ?_
 obtain ⟨x, hx⟩ : ∃ x, l[j]? = some x := ⟨_, List.getElem?_eq_getElem (show j < l.length by omega)⟩
 obtain ⟨bb, bo, xp, xt, xz, had, hvalx, hrdx⟩ := VersAt.reads hxs hr hx
 subst had
 refine rL (xM (.slice (some ⟨bb, bo, none⟩) l.length c) rfl ?_)
 refine xM (.int .i64 (i : Int)) rfl (xG (.int .i64 (j : Int)) rfl (ex_sub rfl rfl rfl (by rw [i64_in (by omega)]; omega)) ?_)
 simp only [zP, po]
 refine xG (.pointer (some ⟨bb, bo + j * 8, none⟩)) rfl (ex_index rfl rfl rfl (run_idx (k := j) Tryz.underlying70 s1es70 (by omega))) (xL (.agg #[.int .i64 x.stamp, .bool x.gone, .int .i64 x.expire, .int .i64 x.val.kind, .string ⟨x.val.text.toArray⟩, xp, xt, xz]) rfl (run_loadR (cs := [.int .i64 x.stamp, .bool x.gone, .int .i64 x.expire, .int .i64 x.val.kind, .string ⟨x.val.text.toArray⟩, xp, xt, xz]) s1wd55 (Reads.mid (pre := []) (mid := [.int .i64 x.stamp, .bool x.gone, .int .i64 x.expire, .int .i64 x.val.kind, .string ⟨x.val.text.toArray⟩, xp, xt, xz]) (post := []) hrdx _ _ _ (Base.Le.refl _) no_res hv)) ?_)
 refine xC s2callable58 rfl ((chainClone _ _ _ x xp xt xz (hvalx.more (Base.Le.refl _)) hv).mono ?_) rfl
 rintro e w16 ⟨C12, p13, t14, z15, hC12, rfl, hp13, hv⟩
 refine ⟨_, rfl, ?_⟩
 simp only [zP, po]
 refine xS 0 rfl hv s1sz55 rfl (by exact ⟨rfl, rfl, rfl, rfl, rfl, hp13.p.one, hp13.t.one, hp13.z.one, trivial⟩) (fun w17 hv => ?_)
 simp only [zO, sp] at hv
 refine xA (.bool true) rfl ?_
 simp only [zP, po]
 refine wK k11 (rR ?_)
 refine bodyPost_ret (res_cell2 rfl rfl (run_load_mid (pre := []) (mid := [.int .i64 x.stamp, .bool x.gone, .int .i64 x.expire, .int .i64 x.val.kind, .string ⟨x.val.text.toArray⟩, p13, t14, z15]) (post := []) s1wd55 (show Blk _ b2 ([] ++ [.int .i64 x.stamp, .bool x.gone, .int .i64 x.expire, .int .i64 x.val.kind, .string ⟨x.val.text.toArray⟩, p13, t14, z15] ++ []) _ from hv.get 0 rfl) rfl)) rfl (⟨i, hu, .inr ⟨j, x, _, p13, t14, z15, hj, hx, hC12, rfl, hp13, (hv.sub (List.Sublist.cons _ (List.Sublist.refl _)))⟩⟩)
theorem s2fa55_1 (w : World) (b o : Nat) : (Instr.fieldAt 55 (.pointer (some ⟨b, o, none⟩)) 1).run Tryz.prog w = .ok (.pointer (some ⟨b, o + 1, none⟩)) w := by kernel_rfl
theorem s2na4 (w : World) : (isAgg 4).run Tryz.prog w = .ok false w := by kernel_rfl
set_option maxHeartbeats 2000000 in
theorem alive0 (B : Base) (H : List Res) (w : World) (v : Ver) (p t z : Value) (clock : Int) (hg : v.gone = true) (hv : Inv B H w) :
  Calls Tryz.prog 48 #[.agg #[.int .i64 v.stamp, .bool true, .int .i64 v.expire, .int .i64 v.val.kind, .string ⟨v.val.text.toArray⟩, p, t, z], .int .i64 clock] w fun e w' => e = .returned (.bool (aliveB v clock)) ∧ Inv B H w' := by
 refine cW Tryz.func48 rfl Tryz.ntmps48 ?_
 simp only [al]
 refine sK fun _ k1 => rL (sl_box (L := [.int .i64 v.stamp, .bool true, .int .i64 v.expire, .int .i64 v.val.kind, .string ⟨v.val.text.toArray⟩, p, t, z]) tV (wn rfl) rfl rfl hv (fun w => by kernel_rfl) (fun b2 w3 hv => ?_))
 refine xA (.bool false) rfl ?_
 simp only [zP, po]
 refine wK k1 (sK fun _ k4 => ?_)
 refine rL (xF (.pointer (some ⟨b2, 1, none⟩)) rfl (s2fa55_1 _ _ _) ?_)
 refine xL _ rfl (run_load1 s2na4 (hv.load 0 1 rfl rfl)) (xG (.bool false) rfl (ex_not rfl rfl rfl) ?_)
 simp only [zP, po]
 refine xM (.bool false) rfl ?_
 iterate 9 refine yN rfl ?_
 refine xK false (.bool false) rfl (xA (.bool false) rfl ?_)
 simp only [zP, po]
 refine wK k4 (rR ?_)
 refine bR rfl rfl (⟨congrArg (fun b => Ending.returned (Value.bool b)) (show false = aliveB v clock from by simp [aliveB, *]), (hv.sub (List.Sublist.cons _ (List.Sublist.refl _)))⟩)
theorem s2fa55_2 (w : World) (b o : Nat) : (Instr.fieldAt 55 (.pointer (some ⟨b, o, none⟩)) 2).run Tryz.prog w = .ok (.pointer (some ⟨b, o + 2, none⟩)) w := by kernel_rfl
set_option maxHeartbeats 2000000 in
theorem alive1 (B : Base) (H : List Res) (w : World) (v : Ver) (p t z : Value) (clock : Int) (hg : v.gone = false) (hv : Inv B H w) :
  Calls Tryz.prog 48 #[.agg #[.int .i64 v.stamp, .bool false, .int .i64 v.expire, .int .i64 v.val.kind, .string ⟨v.val.text.toArray⟩, p, t, z], .int .i64 clock] w fun e w' => e = .returned (.bool (aliveB v clock)) ∧ Inv B H w' := by
 refine cW Tryz.func48 rfl Tryz.ntmps48 ?_
 simp only [al]
 refine sK fun _ k1 => rL (sl_box (L := [.int .i64 v.stamp, .bool false, .int .i64 v.expire, .int .i64 v.val.kind, .string ⟨v.val.text.toArray⟩, p, t, z]) tV (wn rfl) rfl rfl hv (fun w => by kernel_rfl) (fun b2 w3 hv => ?_))
 refine xA (.bool false) rfl ?_
 simp only [zP, po]
 refine wK k1 (sK fun _ k4 => ?_)
 refine rL (xF (.pointer (some ⟨b2, 1, none⟩)) rfl (s2fa55_1 _ _ _) ?_)
 refine xL _ rfl (run_load1 s2na4 (hv.load 0 1 rfl rfl)) (xG (.bool true) rfl (ex_not rfl rfl rfl) ?_)
 simp only [zP, po]
 refine xM (.bool true) rfl (xF (.pointer (some ⟨b2, 2, none⟩)) rfl (s2fa55_2 _ _ _) ?_)
 refine xL _ rfl (run_load1 s2na3 (hv.load 0 2 rfl rfl)) ?_
 simp only [zP, po]
 by_cases hb5 : v.expire = 0
 ·refine xG (.bool true) rfl (ex_eql rfl rfl rfl (decide_eq_true hb5)) (xM (.bool true) rfl ?_)
  iterate 4 refine yN rfl ?_
  refine xK true (.bool true) rfl ?_
  simp only [zP, po]
  refine xK true (.bool true) rfl (xA (.bool true) rfl ?_)
  simp only [zP, po]
  refine wK k4 (rR ?_)
  refine bR rfl rfl (⟨congrArg (fun b => Ending.returned (Value.bool b)) (show true = aliveB v clock from by simp [aliveB, *]), (hv.sub (List.Sublist.cons _ (List.Sublist.refl _)))⟩)
 refine xG (.bool false) rfl (ex_eql rfl rfl rfl (decide_eq_false hb5)) (xM (.bool false) rfl ?_)
 refine xF (.pointer (some ⟨b2, 2, none⟩)) rfl (s2fa55_2 _ _ _) ?_
 simp only [zP, po]
 refine xL _ rfl (run_load1 s2na3 (hv.load 0 2 rfl rfl)) (xM (.int .i64 clock) rfl ?_)
 by_cases hb6 : v.expire > clock
 ·refine xG (.bool true) rfl (ex_gtr rfl rfl rfl (decide_eq_true hb6)) ?_
  simp only [zP, po]
  refine xK false (.bool true) rfl (xK true (.bool true) rfl ?_)
  refine xA (.bool true) rfl ?_
  simp only [zP, po]
  refine wK k4 (rR ?_)
  refine bR rfl rfl (⟨congrArg (fun b => Ending.returned (Value.bool b)) (show true = aliveB v clock from by simp [aliveB, *]), (hv.sub (List.Sublist.cons _ (List.Sublist.refl _)))⟩)
 refine xG (.bool false) rfl (ex_gtr rfl rfl rfl (decide_eq_false hb6)) ?_
 simp only [zP, po]
 refine xK false (.bool false) rfl (xK true (.bool false) rfl ?_)
 refine xA (.bool false) rfl ?_
 simp only [zP, po]
 refine wK k4 (rR ?_)
 refine bR rfl rfl (⟨congrArg (fun b => Ending.returned (Value.bool b)) (show false = aliveB v clock from by simp [aliveB, *]), (hv.sub (List.Sublist.cons _ (List.Sublist.refl _)))⟩)
theorem chainAlive (B : Base) (H : List Res) (w : World) (v : Ver) (p t z : Value) (clock : Int) (hv : Inv B H w) : Calls Tryz.prog 48 #[.agg (verCells v p t z).toArray, .int .i64 clock] w fun e w' => e = .returned (.bool (aliveB v clock)) ∧ Inv B H w' := by
 cases hg : v.gone with
 | true => have := alive0 B H w v p t z clock hg hv; rw [← hg] at this; exact this
 | false => have := alive1 B H w v p t z clock hg hv; rw [← hg] at this; exact this
end Go.Proofs.YtffmbdagjpdieaaGreat
/- The index in memory that stays: blocks of entries; what a search finds. -/
namespace Go.Pm
open Go.RowKit
abbrev Ent := List UInt8 × Value
def entCells (l : List Ent) : List Value := l.flatMap fun e => [strV e.1, e.2]
theorem entCells_len (l : List Ent) : (entCells l).length = l.length * 2 := by
 induction l with
 | nil => rfl
 | cons a l ih => rw [entCells, List.flatMap_cons, List.length_append]; show 2 + (entCells l).length = _; rw [ih, List.length_cons]; omega
theorem entCells_append (l k : List Ent) : entCells (l ++ k) = entCells l ++ entCells k := List.flatMap_append ..
theorem entCells_take (l : List Ent) (i : Nat) : (entCells l).take (i * 2) = entCells (l.take i) := by
 induction l generalizing i with
 | nil => simp [entCells]
 | cons a l ih =>
  cases i with
  | zero => simp [entCells]
  | succ i =>
   show (strV a.1 :: a.2 :: entCells l).take _ = strV a.1 :: a.2 :: entCells (l.take i)
   rw [show (i + 1) * 2 = i * 2 + 2 by rw [Nat.succ_mul], List.take_succ_cons, List.take_succ_cons, ih]
theorem entCells_drop (l : List Ent) (i : Nat) : (entCells l).drop (i * 2) = entCells (l.drop i) := by
 induction l generalizing i with
 | nil => simp [entCells]
 | cons a l ih =>
  cases i with
  | zero => simp
  | succ i =>
   show (strV a.1 :: a.2 :: entCells l).drop _ = entCells (l.drop i)
   rw [show (i + 1) * 2 = i * 2 + 2 by rw [Nat.succ_mul], List.drop_succ_cons, List.drop_succ_cons, ih]
theorem entCells_get {l : List Ent} {i : Nat} {e : Ent} (h : l[i]? = some e) : (entCells l)[i * 2]? = some (strV e.1) ∧ (entCells l)[i * 2 + 1]? = some e.2 := by
 induction l generalizing i with
 | nil => simp at h
 | cons a l ih =>
  cases i with
  | zero =>
   simp only [List.getElem?_cons_zero, Option.some.injEq] at h
   subst h
   exact ⟨rfl, rfl⟩
  | succ i =>
   have := ih (i := i) (by simpa using h)
   show (strV a.1 :: a.2 :: entCells l)[(i + 1) * 2]? = _ ∧ (strV a.1 :: a.2 :: entCells l)[(i + 1) * 2 + 1]? = _
   rw [show (i + 1) * 2 = i * 2 + 1 + 1 by rw [Nat.succ_mul]]
   exact this
theorem ent_reads {B : Base} {R : List Res} {l : List Ent} {ad : Option Addr} {i : Nat} {e : Ent} (hr : RdW B R ad (entCells l)) (h : l[i]? = some e) : ∃ b off, ad = some ⟨b, off, none⟩ ∧ Reads B R b (off + i * 2) [strV e.1, e.2] := by
 have hi := (List.getElem?_eq_some_iff.1 h).1
 have hg := entCells_get h
 refine rdW_reads (k := i * 2) (m := 2) hr (by rw [entCells_len]; omega) (by decide) rfl (fun j hj => ?_)
 match j, hj with
 | 0, _ => exact hg.1.symm
 | 1, _ => exact hg.2.symm
theorem row1_reads {B : Base} {R : List Res} {xs : List Value} {ad : Option Addr} {i : Nat} {v : Value} (hr : RdW B R ad xs) (h : xs[i]? = some v) : ∃ b off, ad = some ⟨b, off, none⟩ ∧ Reads B R b (off + i) [v] := by
 have hi := (List.getElem?_eq_some_iff.1 h).1
 refine rdW_reads (k := i) (m := 1) hr (by omega) (by decide) rfl (fun j hj => ?_)
 match j, hj with
 | 0, _ => exact h.symm
def BlksAt (B : Base) (R : List Res) (X : List (List Ent)) (bvs : List Value) : Prop := bvs.length = X.length ∧ ∀ (i : Nat) (es : List Ent), X[i]? = some es → ∃ ad c, bvs[i]? = some (.slice ad es.length c) ∧ SliceOk ad es.length c ∧ RdW B R ad (entCells es)
structure IxOk (X : List (List Ent)) : Prop where
 ne : ∀ es ∈ X, es ≠ []
 lenX : X.length ≤ 1000000
 lenE : ∀ es ∈ X, es.length ≤ 1000000
structure FindI (X : List (List Ent)) (key : List UInt8) (i j : Nat) (ok : Bool) : Prop where
 le : i ≤ X.length
 hi : ∀ es, X[i]? = some es → ∃ la, es.getLast? = some la ∧ Op.bytesLess la.1 key = false
 lo : ∀ k es, i = k + 1 → X[k]? = some es → ∃ la, es.getLast? = some la ∧ Op.bytesLess la.1 key = true
 out : i = X.length → j = 0 ∧ ok = false
 at_ : ∀ es, X[i]? = some es → ∃ e, es[j]? = some e ∧ Op.bytesLess e.1 key = false ∧ ok = decide (e.1 = key) ∧ ∀ k f, j = k + 1 → es[k]? = some f → Op.bytesLess f.1 key = true
end Go.Pm
