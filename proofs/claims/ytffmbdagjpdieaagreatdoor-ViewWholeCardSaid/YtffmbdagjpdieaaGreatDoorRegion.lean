/- A region that draws its order, whose operations only add to memory: one look at each operation serves every order. -/
import Derived.Test.YtffmbdagjpdieaaGreatDoorMem
import Derived.Orders
namespace Go.Pm
open Go.RowKit

/-- Nothing that was there has changed. -/
@[reducible] def Ext (w w' : World) : Prop := Below w.heap.size w w'
theorem Ext.rfl' (w : World) : Ext w w := Below.refl _ _
theorem Ext.tr {a b c : World} (h : Ext a b) (k : Ext b c) : Ext a c := h.trans (k.mono h.size)
theorem Ext.drew' (w : World) : Ext w w.drew := (Below.refl _ _).drew

/-- What is known of an operation's value; more memory does not change it. -/
structure SP where
  p : World → Value → Prop
  st : ∀ w w' v, Ext w w' → p w v → p w' v
def SP.any : SP := ⟨fun _ _ => True, fun _ _ _ _ _ => trivial⟩
def SP.eq (x : Value) : SP := ⟨fun _ v => v = x, fun _ _ _ _ h => h⟩
/-- one cell in a block of its own -/
def SP.box (x : Value) : SP := ⟨fun w v => ∃ b, v = .slice (some ⟨b, 0, none⟩) 1 1 ∧ b < w.heap.size ∧ w.cell? ⟨b, 0, none⟩ = some x,
  fun _ _ _ he ⟨_, h1, h2, h3⟩ => ⟨_, h1, Nat.lt_of_lt_of_le h2 he.size, (World.cell?_of_block (he.block _ h2)).trans h3⟩⟩
theorem Bytes.ext {w w' : World} {a : Option Addr} {l : List UInt8} (hb : Bytes w (· < w.heap.size) a l) (he : Ext w w') : Bytes w' (· < w'.heap.size) a l :=
  (hb.frame (fun b h => he.block b h)).mono (fun _ h => Nat.lt_of_lt_of_le h he.size)
def SP.bytes (l : List UInt8) : SP := ⟨fun w v => ∃ a c, v = .slice a l.length c ∧ SliceOk a l.length c ∧ Bytes w (· < w.heap.size) a l,
  fun _ _ _ he ⟨a, c, h1, h2, h3⟩ => ⟨a, c, h1, h2, h3.ext he⟩⟩
def nth (A : List SP) (i : Nat) : World → Value → Prop := (A.getD i SP.any).p
def binder (o : Oper) (j : Nat) : Bool := o.after.toList.any (fun e => Region.binds .any e && e.on == j)
def waits (ops : Array Oper) (i t : Nat) : Bool := ops.toList.zipIdx.all (fun x => x.1.dst != some t || binder x.1 i || x.2 == i)
def backward (ops : Array Oper) : Bool := ops.toList.zipIdx.all (fun x => x.1.after.toList.all (fun e => !Region.binds .any e || decide (e.on < x.2)))
def onceDst (ops : Array Oper) : Bool := decide (ops.toList.filterMap (·.dst)).Nodup

structure Ready (ops : Array Oper) (A : List SP) (a0 a : Act) (w : World) (i : Nat) (o : Oper) : Prop where
  defers : a.defers = a0.defers
  size : a.tmps.size = a0.tmps.size
  keep : ∀ t, waits ops i t = true → a.tmps.getD t undef = a0.tmps.getD t undef
  pred : ∀ j d, binder o j = true → (ops[j]?).bind (·.dst) = some d → nth A j w (a.tmps.getD d undef)

def StepOk (P : Program) (ops : Array Oper) (A : List SP) (Q : Exit → Act → World → Prop) (i : Nat) (o : Oper) (a : Act) (w : World) : Prop :=
  if Region.wanted o (yielded ops a.tmps) then o.wp P a w (fun a' w' => ∃ v, a' = a.put o.dst v ∧ Ext w w' ∧ nth A i w' v) Q else nth A i w undef

def AllOps (p : Nat → Oper → Prop) : Nat → List Oper → Prop
  | _, [] => True
  | i, o :: os => p i o ∧ AllOps p (i + 1) os
theorem AllOps.at {p : Nat → Oper → Prop} : ∀ {l : List Oper} {k : Nat}, AllOps p k l → ∀ i o, l[i]? = some o → p (k + i) o
  | [], _, _, i, o, h => by simp at h
  | x :: xs, k, hp, i, o, h => by
    cases i with
    | zero => simp at h; subst h; exact hp.1
    | succ i =>
      have := AllOps.at hp.2 i o (by simpa using h)
      rw [show k + (i + 1) = k + 1 + i by omega]; exact this

def putAll : List Oper → List Value → Act → Act
  | o :: os, v :: vs, a => putAll os vs (a.put o.dst v)
  | _, _, a => a

structure RegInv (ops : Array Oper) (A : List SP) (a0 : Act) (w0 : World) (listed : Array Bool) (a : Act) (w : World) : Prop where
  ext : Ext w0 w
  lsize : listed.size = ops.size
  closed : ∀ (j : Nat) (o : Oper), ops[j]? = some o → listed.getD j false = true → ∀ k, binder o k = true → listed.getD k false = true
  defers : a.defers = a0.defers
  size : a.tmps.size = a0.tmps.size
  keep : ∀ t, (∀ (j : Nat) (o : Oper), ops[j]? = some o → o.dst = some t → listed.getD j false = false) → a.tmps.getD t undef = a0.tmps.getD t undef
  val : ∀ (j : Nat) (o : Oper) (d : Tmp), ops[j]? = some o → listed.getD j false = true → o.dst = some d → nth A j w (a.tmps.getD d undef)

theorem put_getD (a : Act) (x : Option Tmp) (v : Value) (t : Nat) (h : x ≠ some t) : (a.put x v).tmps.getD t undef = a.tmps.getD t undef := by
  cases x with
  | none => rfl
  | some d =>
    have : d ≠ t := fun e => h (by rw [e])
    simp only [Act.put, Array.getD_eq_getD_getElem?, Array.getElem?_setIfInBounds_ne this]
theorem put_getD_same (a : Act) (d : Tmp) (v : Value) (h : d < a.tmps.size) : (a.put (some d) v).tmps.getD d undef = v := by
  simp [Act.put, Array.getD_eq_getD_getElem?, h]
theorem put_size (a : Act) (x : Option Tmp) (v : Value) : (a.put x v).tmps.size = a.tmps.size := by
  cases x <;> simp [Act.put]
theorem put_defers (a : Act) (x : Option Tmp) (v : Value) : (a.put x v).defers = a.defers := by
  cases x <;> simp [Act.put]
theorem getD_false_set {listed : Array Bool} {i j : Nat} (h : (listed.setIfInBounds i true).getD j false = true) : j = i ∨ listed.getD j false = true := by
  by_cases e : j = i
  · exact .inl e
  · right
    simp only [Array.getD_eq_getD_getElem?] at h ⊢
    rwa [Array.getElem?_setIfInBounds_ne (by omega)] at h

theorem mem_ready {ops : Array Oper} {listed : Array Bool} {i : Nat} (h : i ∈ Region.ready .any ops listed) :
    ∃ o, ops[i]? = some o ∧ i < ops.size ∧ listed.getD i true = false ∧ ∀ k, binder o k = true → listed.getD k false = true := by
  unfold Region.ready at h
  rw [List.mem_filter] at h
  obtain ⟨h1, h2⟩ := h
  have hi : i < ops.size := by simpa using h1
  rw [Bool.and_eq_true] at h2
  refine ⟨ops[i], by simp [hi], hi, by simpa using h2.1, fun k hk => ?_⟩
  have h3 := h2.2
  rw [Array.getElem?_eq_getElem hi] at h3
  simp only [Option.map_some, Option.getD_some] at h3
  unfold binder at hk
  obtain ⟨e, he, hb⟩ := List.any_eq_true.1 hk
  rw [Bool.and_eq_true] at hb
  have h4 := (Array.all_eq_true_iff_forall_mem.1 h3) e (by simpa using he)
  have : e.on = k := by simpa using hb.2
  subst this
  simpa [hb.1] using h4

theorem all_listed {ops : Array Oper} {listed : Array Bool} (hbk : backward ops = true) (hs : listed.size = ops.size) (h : Region.ready .any ops listed = []) :
    ∀ i, i < ops.size → listed.getD i false = true := by
  intro i
  induction i using Nat.strongRecOn with
  | _ i ih =>
    intro hi
    cases hl : listed.getD i false with
    | true => rfl
    | false =>
      exfalso
      have hl' : listed.getD i true = false := by
        simp only [Array.getD_eq_getD_getElem?] at hl ⊢
        rw [Array.getElem?_eq_getElem (by omega)] at hl ⊢
        simpa using hl
      have : i ∈ Region.ready .any ops listed := by
        unfold Region.ready
        rw [List.mem_filter]
        refine ⟨by simpa using hi, ?_⟩
        rw [hl', Array.getElem?_eq_getElem hi]
        simp only [Bool.not_false, Bool.true_and, Option.map_some, Option.getD_some]
        rw [Array.all_eq_true_iff_forall_mem]
        intro e he
        have hb := List.all_eq_true.1 hbk (ops[i], i) (by
          rw [List.mem_iff_getElem?]
          exact ⟨i, by simp [hi]⟩)
        have hb2 := List.all_eq_true.1 hb e (by simpa using he)
        cases hbd : Region.binds .any e with
        | false => rfl
        | true =>
          rw [hbd] at hb2
          simp only [Bool.not_true, Bool.false_or, decide_eq_true_eq] at hb2
          simp only [Bool.not_true, Bool.false_or]
          exact ih e.on hb2 (by omega)
      rw [h] at this
      cases this

/-- how many are still to come -/
def toCome (ops : Array Oper) (listed : Array Bool) : Nat := (List.range ops.size).countP (fun i => !listed.getD i true)

theorem countP_lt {p q : Nat → Bool} (l : List Nat) (h : ∀ x, q x = true → p x = true) (i : Nat) (hi : i ∈ l) (hp : p i = true) (hq : q i = false) : l.countP q < l.countP p := by
  induction l with
  | nil => cases hi
  | cons x xs ih =>
    have hle : xs.countP q ≤ xs.countP p := List.countP_mono_left (fun x _ => h x)
    rw [List.countP_cons, List.countP_cons]
    cases List.mem_cons.1 hi with
    | inl e => subst e; rw [hp, hq]; simp; omega
    | inr e =>
      have := ih e
      cases hqx : q x with
      | false => simp; omega
      | true => rw [h x hqx]; simp; omega

theorem toCome_set {ops : Array Oper} {listed : Array Bool} {i : Nat} (hi : i < ops.size) (h : listed.getD i true = false) : toCome ops (listed.setIfInBounds i true) < toCome ops listed := by
  unfold toCome
  refine countP_lt _ (fun x hx => ?_) i (by simpa using hi) (by simp [h]) ?_
  · by_cases e : i = x
    · subst e; rw [h]; rfl
    · rw [getD_set_ne _ e] at hx; exact hx
  · simp only [Array.getD_eq_getD_getElem?, Bool.not_eq_false']
    by_cases hs : i < listed.size
    · simp [hs]
    · simp [hs]

theorem nodup_dst {l : List Oper} (h : (l.filterMap (·.dst)).Nodup) : ∀ (i j : Nat) (oi oj : Oper) (d : Tmp), l[i]? = some oi → l[j]? = some oj → oi.dst = some d → oj.dst = some d → i = j := by
  induction l with
  | nil => intro i j oi oj d hi; simp at hi
  | cons x xs ih =>
    intro i j oi oj d hi hj hdi hdj
    have hxs : (xs.filterMap (·.dst)).Nodup := by
      rw [List.filterMap_cons] at h
      split at h
      · exact h
      · exact (List.nodup_cons.1 h).2
    have hno : ∀ (k : Nat) (o : Oper), xs[k]? = some o → o.dst = some d → x.dst ≠ some d := by
      intro k o hk hd hx
      rw [List.filterMap_cons, hx] at h
      exact (List.nodup_cons.1 h).1 (List.mem_filterMap.2 ⟨o, List.mem_of_getElem? hk, hd⟩)
    cases i with
    | zero =>
      cases j with
      | zero => rfl
      | succ j => simp at hi hj; subst hi; exact (hno j oj hj hdj hdi).elim
    | succ i =>
      cases j with
      | zero => simp at hi hj; subst hj; exact (hno i oi hi hdi hdj).elim
      | succ j => simp at hi hj; rw [ih hxs i j oi oj d hi hj hdi hdj]

/-- What is known when all have come up. -/
structure RegDone (ops : Array Oper) (A : List SP) (a0 a : Act) (w : World) : Prop where
  defers : a.defers = a0.defers
  size : a.tmps.size = a0.tmps.size
  keep : ∀ t, (∀ (j : Nat) (o : Oper), ops[j]? = some o → o.dst ≠ some t) → a.tmps.getD t undef = a0.tmps.getD t undef
  val : ∀ (j : Nat) (o : Oper) (d : Tmp), ops[j]? = some o → o.dst = some d → nth A j w (a.tmps.getD d undef)

section
variable {P : Program} {ops : Array Oper} {Q : Exit → Act → World → Prop} {a0 : Act} {w0 : World}

theorem wpAny_mono (A : List SP) (hbk : backward ops = true) (hnd : onceDst ops = true)
    (hfit : ∀ (j : Nat) (o : Oper) (d : Tmp), ops[j]? = some o → o.dst = some d → d < a0.tmps.size)
    (hop : AllOps (fun i o => ∀ a w, Ext w0 w → Ready ops A a0 a w i o → StepOk P ops A Q i o a w) 0 ops.toList)
    (hfin : ∀ a w, Ext w0 w → RegDone ops A a0 a w → Q .normal a w) :
    ∀ (fuel : Nat) (listed : Array Bool) (a : Act) (w : World), toCome ops listed ≤ fuel → RegInv ops A a0 w0 listed a w → wpAny P .any ops Q fuel listed a w := by
  have fin : ∀ listed a w, RegInv ops A a0 w0 listed a w → Region.ready .any ops listed = [] → Q .normal a w := by
    intro listed a w inv hr
    have hall := all_listed hbk inv.lsize hr
    refine hfin a w inv.ext ⟨inv.defers, inv.size, fun t ht => inv.keep t (fun j o ho hd => (ht j o ho hd).elim), fun j o d ho hd => inv.val j o d ho (hall j ?_) hd⟩
    exact (Array.getElem?_eq_some_iff.1 ho).1
  intro fuel
  induction fuel with
  | zero =>
    intro listed a w hc inv
    have hr : Region.ready .any ops listed = [] := by
      rw [List.eq_nil_iff_forall_not_mem]
      intro i hi
      obtain ⟨o, _, hi2, hl, _⟩ := mem_ready hi
      have := toCome_set hi2 hl
      omega
    exact ⟨hr, fin _ _ _ inv hr⟩
  | succ fuel ih =>
    intro listed a w hc inv
    refine ⟨fin _ _ _ inv, fun i hi => ?_⟩
    obtain ⟨o, ho, hi2, hl, hpr⟩ := mem_ready hi
    have hlf : listed.getD i false = false := by
      simp only [Array.getD_eq_getD_getElem?] at hl ⊢
      rw [Array.getElem?_eq_getElem (by rw [inv.lsize]; exact hi2)] at hl ⊢
      simpa using hl
    have hrdy : Ready ops A a0 a w i o := by
      refine ⟨inv.defers, inv.size, fun t ht => inv.keep t (fun j oj hj hd => ?_), fun j d hb hd => ?_⟩
      · have h1 := List.all_eq_true.1 ht (oj, j) (by
          rw [List.mem_iff_getElem?]
          exact ⟨j, by simp [hj]⟩)
        simp only [hd, bne_self_eq_false, Bool.false_or, Bool.or_eq_true, beq_iff_eq] at h1
        cases hlj : listed.getD j false with
        | false => rfl
        | true =>
          rcases h1 with h1 | h1
          · rw [inv.closed j oj hj hlj i h1] at hlf; cases hlf
          · subst h1; rw [hlj] at hlf; cases hlf
      · obtain ⟨oj, hoj, hdj⟩ := Option.bind_eq_some_iff.1 hd
        exact inv.val j oj d hoj (hpr j hb) hdj
    have hstep := AllOps.at hop i o (by simpa using ho)
    simp only [Nat.zero_add] at hstep
    have hs := hstep a w inv.ext hrdy
    have next : ∀ v w', Ext w w' → nth A i w' v → RegInv ops A a0 w0 (listed.setIfInBounds i true) (a.put o.dst v) w' := by
      intro v w' he hv
      refine ⟨inv.ext.tr he, by simpa using inv.lsize, ?_, by rw [put_defers]; exact inv.defers, by rw [put_size]; exact inv.size, ?_, ?_⟩
      · intro j oj hj hlj k hk
        rcases getD_false_set hlj with e | e
        · subst e
          rw [ho] at hj
          simp only [Option.some.injEq] at hj
          subst hj
          exact getD_set_true (hpr k hk)
        · exact getD_set_true (inv.closed j oj hj e k hk)
      · intro t ht
        have hne : o.dst ≠ some t := by
          intro e
          have := ht i o ho e
          simp only [Array.getD_eq_getD_getElem?] at this
          rw [Array.getElem?_setIfInBounds_self_of_lt (by rw [inv.lsize]; exact hi2)] at this
          simp at this
        rw [put_getD _ _ _ _ hne]
        refine inv.keep t (fun j oj hj hd => ?_)
        have := ht j oj hj hd
        cases hlj : listed.getD j false with
        | false => rfl
        | true => rw [getD_set_true hlj] at this; cases this
      · intro j oj d hj hlj hd
        rcases getD_false_set hlj with e | e
        · subst e
          rw [ho] at hj
          simp only [Option.some.injEq] at hj
          subst hj
          rw [hd, put_getD_same _ _ _ (by rw [inv.size]; exact hfit _ _ _ ho hd)]
          exact hv
        · have hne : o.dst ≠ some d := by
            intro e2
            have := nodup_dst (of_decide_eq_true hnd) i j o oj d (by simpa using ho) (by simpa using hj) e2 hd
            subst this
            rw [e] at hlf; cases hlf
          rw [put_getD _ _ _ _ hne]
          exact (A.getD j SP.any).st _ _ _ he (inv.val j oj d hj e hd)
    unfold wpOp
    rw [ho]
    simp only []
    have hct : toCome ops (listed.setIfInBounds i true) ≤ fuel := by have := toCome_set hi2 hl; omega
    unfold StepOk at hs
    split
    · rename_i hw
      rw [if_pos hw] at hs
      left
      exact Oper.wp_mono (fun a' w' ⟨v, ha, he, hv⟩ => by rw [ha]; exact ih _ _ _ hct (next v w' he hv)) hs
    · rename_i hw
      rw [if_neg hw] at hs
      exact ih _ _ _ hct (next undef w (Ext.rfl' _) hs)


def fitsDst (ops : Array Oper) (n : Nat) : Bool := ops.toList.all (fun o => match o.dst with | some d => decide (d < n) | none => true)
def slotOf (a : Act) (o : Oper) : Value := match o.dst with | some d => a.tmps.getD d undef | none => undef
/-- the facts, an operation each -/
def Facts (w : World) : List SP → List Oper → List Value → Prop
  | R :: Rs, o :: os, v :: vs => (o.dst.isSome = true → R.p w v) ∧ Facts w Rs os vs
  | _, _, _ => True

theorem putAll_size : ∀ (l : List Oper) (vs : List Value) (a : Act), (putAll l vs a).tmps.size = a.tmps.size
  | [], _, _ => rfl
  | _ :: _, [], _ => rfl
  | o :: os, v :: vs, a => by simp only [putAll]; rw [putAll_size os vs, put_size]
theorem putAll_defers : ∀ (l : List Oper) (vs : List Value) (a : Act), (putAll l vs a).defers = a.defers
  | [], _, _ => rfl
  | _ :: _, [], _ => rfl
  | o :: os, v :: vs, a => by simp only [putAll]; rw [putAll_defers os vs, put_defers]
theorem putAll_get (a : Act) : ∀ (l : List Oper) (b : Act), (l.filterMap (·.dst)).Nodup → (∀ o ∈ l, ∀ d, o.dst = some d → d < b.tmps.size) → ∀ t,
    (putAll l (l.map (slotOf a)) b).tmps.getD t undef = if some t ∈ l.map (·.dst) then a.tmps.getD t undef else b.tmps.getD t undef := by
  intro l
  induction l with
  | nil => intro b _ _ t; rfl
  | cons o os ih =>
    intro b hn hf t
    simp only [List.map_cons, putAll]
    have hn' : (os.filterMap (·.dst)).Nodup := by
      rw [List.filterMap_cons] at hn
      split at hn
      · exact hn
      · exact (List.nodup_cons.1 hn).2
    rw [ih _ hn' (fun o' ho' d hd => by rw [put_size]; exact hf o' (by simp [ho']) d hd)]
    by_cases h1 : some t ∈ os.map (·.dst)
    · rw [if_pos h1, if_pos (by simp [h1])]
    · rw [if_neg h1]
      by_cases h2 : o.dst = some t
      · rw [if_pos (by simp [h2]), h2, put_getD_same _ _ _ (hf o (by simp) t h2)]
        simp [slotOf, h2]
      · rw [put_getD _ _ _ _ h2, if_neg (by rw [List.mem_cons]; rintro (e | e); exact h2 e.symm; exact h1 e)]

theorem act_ext {a b : Act} (h1 : a.tmps.size = b.tmps.size) (h2 : a.defers = b.defers) (h3 : ∀ t, a.tmps.getD t undef = b.tmps.getD t undef) : a = b := by
  obtain ⟨x, xd⟩ := a
  obtain ⟨y, yd⟩ := b
  simp only at h1 h2 h3
  subst h2
  congr 1
  apply Array.ext h1
  intro i hi hi2
  have := h3 i
  simp only [Array.getD_eq_getD_getElem?, Array.getElem?_eq_getElem hi, Array.getElem?_eq_getElem hi2, Option.getD_some] at this
  exact this

theorem facts_of {w : World} {a : Act} {ops : Array Oper} {A : List SP} (hlen : A.length = ops.size) (h : ∀ (j : Nat) (o : Oper) (d : Tmp), ops[j]? = some o → o.dst = some d → nth A j w (a.tmps.getD d undef)) :
    Facts w A ops.toList (ops.toList.map (slotOf a)) := by
  have key : ∀ (Rs : List SP) (os : List Oper) (k : Nat), (∀ j, Rs[j]? = A[k + j]?) → (∀ j, os[j]? = ops[k + j]?) → Facts w Rs os (os.map (slotOf a)) := by
    intro Rs
    induction Rs with
    | nil => intro os k _ _; simp [Facts]
    | cons R Rs ih =>
      intro os k hR ho
      cases os with
      | nil => simp [Facts]
      | cons o os =>
        simp only [List.map_cons, Facts]
        refine ⟨fun hs => ?_, ih os (k + 1) (fun j => by have := hR (j + 1); simpa [Nat.add_assoc, Nat.add_comm 1 j] using this) (fun j => by have := ho (j + 1); simpa [Nat.add_assoc, Nat.add_comm 1 j] using this)⟩
        obtain ⟨d, hd⟩ := Option.isSome_iff_exists.1 hs
        have h0 : ops[k]? = some o := by simpa using (ho 0).symm
        have h1 : A[k]? = some R := by simpa using (hR 0).symm
        have := h k o d h0 hd
        unfold nth at this
        rw [List.getD_eq_getElem?_getD, h1] at this
        simpa [slotOf, hd] using this
  have _ := hlen
  exact key A ops.toList 0 (fun j => by simp) (fun j => by simp)

/-- A REGION THAT DRAWS ITS ORDER, ITS OPERATIONS ADDING TO MEMORY AT THE MOST. -/
theorem wp_region_mono {id : Nat} (hm : P.follows .mixedOrders = true) (A : List SP) (n : Nat) (hsize : a0.tmps.size = n) (hck : (backward ops && onceDst ops && fitsDst ops n && decide (A.length = ops.size)) = true)
    (hop : AllOps (fun i o => ∀ a w, Ext w0 w → Ready ops A a0 a w i o → StepOk P ops A Q i o a w) 0 ops.toList)
    (hfin : ∀ vs w, vs.length = ops.size → Ext w0 w → Facts w A ops.toList vs → Q .normal (putAll ops.toList vs a0) w) : (Code.region id ops true).wp P Q a0 w0 := by
  simp only [Bool.and_eq_true] at hck
  obtain ⟨⟨⟨hbk, hnd⟩, hft⟩, hlen⟩ := hck
  have hlen := of_decide_eq_true hlen
  have hfit : ∀ (j : Nat) (o : Oper) (d : Tmp), ops[j]? = some o → o.dst = some d → d < a0.tmps.size := by
    intro j o d hj hd
    have := List.all_eq_true.1 hft o (by rw [List.mem_iff_getElem?]; exact ⟨j, by simpa using hj⟩)
    rw [hd] at this
    rw [hsize]
    simpa using this
  refine wp_region_any hm (wpAny_mono (w0 := w0) (a0 := a0) A hbk hnd hfit hop (fun a w he hd => ?_) _ _ _ _ ?_ ?_)
  · have hfacts := facts_of hlen hd.val
    have heq : a = putAll ops.toList (ops.toList.map (slotOf a)) a0 := by
      refine act_ext ?_ ?_ (fun t => ?_)
      · rw [putAll_size]; exact hd.size
      · rw [putAll_defers]; exact hd.defers
      · rw [putAll_get a _ _ (of_decide_eq_true hnd) (fun o ho d hdd => by
          obtain ⟨j, hj⟩ := List.mem_iff_getElem?.1 ho
          exact hfit j o d (by simpa using hj) hdd)]
        split
        · rfl
        · rename_i hno
          refine hd.keep t (fun j o hj e => hno ?_)
          rw [List.mem_map]
          exact ⟨o, by rw [List.mem_iff_getElem?]; exact ⟨j, by simpa using hj⟩, e⟩
    rw [heq]
    exact hfin _ w (by simp) he hfacts
  · unfold toCome
    exact Nat.le_trans (List.countP_le_length) (by simp)
  · refine ⟨Ext.drew' w0, by simp, fun j o hj hl => ?_, rfl, rfl, fun t _ => rfl, fun j o d hj hl => ?_⟩
    · exfalso
      simp only [Array.getD_eq_getD_getElem?] at hl
      by_cases h : j < ops.size <;> simp [h] at hl
    · exfalso
      simp only [Array.getD_eq_getD_getElem?] at hl
      by_cases h : j < ops.size <;> simp [h] at hl

/- how one operation is met -/
variable {A : List SP} {i : Nat} {o : Oper} {a : Act} {w w' : World} {v : Value}
theorem stepOk_of (hg : Region.wanted o (yielded ops a.tmps) = true) (hrun : (execOp a.eval o).run P w = .ok (.value v) w') (he : Ext w w') (hA : nth A i w' v) : StepOk P ops A Q i o a w := by
  unfold StepOk
  rw [if_pos hg]
  unfold Oper.wp
  rw [hrun]
  exact ⟨v, rfl, he, hA⟩
theorem stepOk_call {f : FuncId} {args : Array Value} (hg : Region.wanted o (yielded ops a.tmps) = true) (hrun : (execOp a.eval o).run P w = .ok (.enter f args) w)
    (hc : Calls P f args w fun e w' => ∃ v, e = .returned v ∧ Ext w w' ∧ nth A i w' v) : StepOk P ops A Q i o a w := by
  unfold StepOk
  rw [if_pos hg]
  unfold Oper.wp
  rw [hrun]
  exact hc.mono fun e w' ⟨v, he, h1, h2⟩ => by subst he; exact ⟨v, rfl, h1, h2⟩
theorem stepOk_skip (hg : Region.wanted o (yielded ops a.tmps) = false) (hA : nth A i w undef) : StepOk P ops A Q i o a w := by
  unfold StepOk
  rw [if_neg (by rw [hg]; decide)]
  exact hA
theorem yielded_of {j d : Nat} {b : Bool} (hd : (ops[j]?).bind (·.dst) = some d) (h : a.tmps.getD d undef = .bool b) : yielded ops a.tmps j = some b := by
  unfold yielded
  rw [hd]
  simp only [Option.bind_some]
  rw [Array.getD_eq_getD_getElem?] at h
  cases h2 : a.tmps[d]? with
  | none => rw [h2] at h; simp [undef] at h
  | some x => rw [h2] at h; simp only [Option.getD_some] at h; rw [h]

end
theorem run_buildSlice1 {P : Program} {t e : TypeId} {z : Value} {bytes : Nat} (E : Elem P t e z 1 bytes) (w : World) (v : Value) (h1 : v.cells = #[v]) :
    (Instr.buildSlice t 1 #[(0, v)]).run P w = .ok (.slice (some ⟨w.heap.size, 0, none⟩) 1 1) (w.alloc (.cells #[v] e)) := by
  obtain ⟨ht, ⟨i, hi, hz, hs, _⟩, _, _⟩ := E
  have hf : ∀ c : Array Value, c.size = 1 → Instr.fill (fun i => some (i, 1)) c [(0, v)] = some #[v] := by
    intro c hc
    have : c = #[c[0]] := by
      apply Array.ext (by simpa using hc)
      intro i h1 h2
      obtain rfl : i = 0 := by simp at h2; omega
      simp
    rw [this]
    simp [Instr.fill, h1]
  simp [Instr.buildSlice, run_underlying ht, sizeOf, typeInfo, hi, hs, zeroValue, hz, newRow]
  rw [hf _ (by simp)]
  simp
section
variable {P : Program} {ops : Array Oper} {Q : Exit → Act → World → Prop} {a0 : Act} {w0 : World} {A : List SP} {i : Nat} {o : Oper} {a : Act} {w w' : World} {v : Value}
/-- a function with a body -/
def Callable (P : Program) (f : FuncId) : Prop := ∃ fn, P.funcs[f]? = some fn ∧ (fn.name == "runtime.NumGoroutine") = false ∧ fn.body.isSome = true
theorem stepOk_move {x : Operand} (hg : Region.wanted o (yielded ops a.tmps) = true) (ho : o.op = .move x) (hx : a.eval x = v) (hA : nth A i w v) : StepOk P ops A Q i o a w :=
  stepOk_of hg (v := v) (w' := w) (by simp [execOp, ho, hx]) (Ext.rfl' _) hA
theorem stepOk_assign {x : Operand} (hg : Region.wanted o (yielded ops a.tmps) = true) (ho : o.op = .assign x) (hx : a.eval x = v) (hA : nth A i w v) : StepOk P ops A Q i o a w :=
  stepOk_of hg (v := v) (w' := w) (by simp [execOp, ho, hx]) (Ext.rfl' _) hA
theorem stepOk_bin {op : BinOp} {t u : TypeId} {x y : Operand} {vx vy : Value} (hg : Region.wanted o (yielded ops a.tmps) = true) (ho : o.op = .binOp op t x y u) (hx : a.eval x = vx) (hy : a.eval y = vy)
    (h1 : (eqGuard op t x y vx vy).run P w = .ok () w) (hr : (binOp op t vx vy).run P w = .ok v w) (hA : nth A i w v) : StepOk P ops A Q i o a w := by
  refine stepOk_of hg (v := v) (w' := w) ?_ (Ext.rfl' _) hA
  simp [execOp, ho, hx, hy, h1, hr]
theorem stepOk_un {op : UnOp} {t : TypeId} {x : Operand} {vx : Value} (hg : Region.wanted o (yielded ops a.tmps) = true) (ho : o.op = .unOp op t x) (hx : a.eval x = vx)
    (hr : (Op.unary op vx).run P w = .ok v w) (hA : nth A i w v) : StepOk P ops A Q i o a w := by
  refine stepOk_of hg (v := v) (w' := w) ?_ (Ext.rfl' _) hA
  simp [execOp, ho, hx, hr]
theorem stepOk_conv {t u : TypeId} {x : Operand} {vx : Value} (hg : Region.wanted o (yielded ops a.tmps) = true) (ho : o.op = .convert t u x) (hx : a.eval x = vx)
    (hr : (convert t u vx).run P w = .ok v w) (hA : nth A i w v) : StepOk P ops A Q i o a w := by
  refine stepOk_of hg (v := v) (w' := w) ?_ (Ext.rfl' _) hA
  simp [execOp, ho, hx, hr]
theorem stepOk_box {t e : TypeId} {z : Value} {bytes : Nat} (E : Elem P t e z 1 bytes) {x : Operand} (hg : Region.wanted o (yielded ops a.tmps) = true) (ho : o.op = .buildSlice t 1 #[(0, x)]) (hx : a.eval x = v) (h1 : v.cells = #[v])
    (hA : ∀ w' b, (SP.box v).p w' (.slice (some ⟨b, 0, none⟩) 1 1) → nth A i w' (.slice (some ⟨b, 0, none⟩) 1 1)) : StepOk P ops A Q i o a w := by
  have hr := run_buildSlice1 E w v h1
  refine stepOk_of hg (v := .slice (some ⟨w.heap.size, 0, none⟩) 1 1) (w' := w.alloc (.cells #[v] e)) (by simp [execOp, ho, hx, hr]) ((Below.refl _ _).alloc (Nat.le_refl _) _) (hA _ _ ⟨w.heap.size, rfl, by simp, ?_⟩)
  rw [cell_new]; rfl
theorem stepOk_calls {f : FuncId} {xs : Array Operand} {ts : Array TypeId} {args : Array Value} (hf : Callable P f) (hg : Region.wanted o (yielded ops a.tmps) = true) (ho : o.op = .call { callee := .value (.func f), args := xs, argTypes := ts }) (hx : xs.map a.eval = args)
    (hc : Calls P f args w fun e w' => ∃ v, e = .returned v ∧ Ext w w' ∧ nth A i w' v) : StepOk P ops A Q i o a w := by
  obtain ⟨fn, h1, h2, h3⟩ := hf
  refine stepOk_call hg (f := f) (args := args) ?_ hc
  have : execOp a.eval o = callFunc f (#[] ++ xs.map a.eval ++ #[]) := by
    obtain ⟨d, op, ty, pos, af, gd⟩ := o
    simp only at ho
    subst ho
    rfl
  rw [this, hx]
  have hb : ¬ fn.body = none := by intro h; rw [h] at h3; cases h3
  have hn : ¬ fn.name = "runtime.NumGoroutine" := by simpa using h2
  simp [callFunc, h1, hn, hb]
theorem stepOk_call1 {f : FuncId} {x : Operand} {t : TypeId} (hf : Callable P f) (hg : Region.wanted o (yielded ops a.tmps) = true) (ho : o.op = .call { callee := .value (.func f), args := #[x], argTypes := #[t] }) (hx : a.eval x = v)
    (hc : Calls P f #[v] w fun e w' => ∃ v, e = .returned v ∧ Ext w w' ∧ nth A i w' v) : StepOk P ops A Q i o a w :=
  stepOk_calls hf hg ho (by simp [hx]) hc
theorem stepOk_pick {c x y : Operand} {t : Bool} (hg : Region.wanted o (yielded ops a.tmps) = true) (ho : o.op = .pick c x y) (hc : a.eval c = .bool t) (hv : (if t then a.eval x else a.eval y) = v) (hA : nth A i w v) : StepOk P ops A Q i o a w := by
  refine stepOk_of hg (v := v) (w' := w) ?_ (Ext.rfl' _) hA
  rw [← hv]
  cases t <;> simp [execOp, ho, hc, asBool]
theorem stepOk_len {x : Operand} {t : TypeId} {p : Option Addr} {n c : Nat} (ht : P.underlying t = some (.slice (P.elem t))) (hg : Region.wanted o (yielded ops a.tmps) = true) (ho : o.op = .call { callee := .builtin .len, args := #[x], argTypes := #[t] }) (hx : a.eval x = .slice p n c) (hA : nth A i w (.int .i64 n)) : StepOk P ops A Q i o a w := by
  refine stepOk_of hg (v := .int .i64 n) (w' := w) ?_ (Ext.rfl' _) hA
  simp [execOp, ho, hx, resolve, invoke, builtin, Builtin.len_, run_underlying ht, goInt]
/-- b[:n] -/
theorem stepOk_cut {x y : Operand} {t : TypeId} {p : Option Addr} {n c : Nat} {m : Int} (ht : P.underlying t = some (.slice (P.elem t))) {s : Nat} (hs : ∀ w, (sizeOf (P.elem t)).run P w = .ok s w) (hg : Region.wanted o (yielded ops a.tmps) = true)
    (ho : o.op = .slice t x none (some y) none) (hx : a.eval x = .slice p n c) (hy : a.eval y = .int .i64 m) (h0 : 0 ≤ m) (h1 : m ≤ c) (hA : nth A i w (.slice p m.toNat c)) : StepOk P ops A Q i o a w := by
  refine stepOk_of hg (v := .slice p m.toNat c) (w' := w) ?_ (Ext.rfl' _) hA
  have e0 : (p.map (·.add 0)) = p := by cases p <;> simp [Addr.add]
  have hr : (Instr.slice t (.slice p n c) none (some (.int .i64 m)) none).run P w = .ok (.slice p m.toNat c) w := by
    rw [run_slice_h w t p n c ht .i64 m h0 h1, hs]
    simp [sliced, Result.andThen]
    exact fun _ => e0
  simp [execOp, ho, hx, hy, run_sliceAt_slice w t _ _ _ _ ht, hr]
theorem wanted_of {j d : Nat} {b : Bool} (hgd : o.guard = some (j, b)) (hd : (ops[j]?).bind (·.dst) = some d) (h : a.tmps.getD d undef = .bool b) : Region.wanted o (yielded ops a.tmps) = true := by
  unfold Region.wanted
  rw [hgd]
  simp [yielded_of hd h]
theorem wanted_not {j d : Nat} {b b' : Bool} (hgd : o.guard = some (j, b)) (hd : (ops[j]?).bind (·.dst) = some d) (h : a.tmps.getD d undef = .bool b') (hne : b' ≠ b) : Region.wanted o (yielded ops a.tmps) = false := by
  unfold Region.wanted
  rw [hgd]
  simp [yielded_of hd h, hne]
end
theorem len_succ {α : Type} {l : List α} {n : Nat} (h : l.length = n + 1) : ∃ x xs, l = x :: xs ∧ xs.length = n := by
  cases l with
  | nil => simp at h
  | cons x xs => exact ⟨x, xs, rfl, by simpa using h⟩
end Go.Pm
