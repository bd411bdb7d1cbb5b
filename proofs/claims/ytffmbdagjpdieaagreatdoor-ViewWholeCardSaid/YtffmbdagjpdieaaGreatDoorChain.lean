/- A region that draws its order: some operations change the world, each of these ahead of the next by the region's edges; the others add to memory at the most. -/
import Derived.Test.YtffmbdagjpdieaaGreatDoorRegion
namespace Go.Pm
open Go.RowKit

theorem getD_left {α : Type} (l r : List α) (d : α) (n : Nat) (h : n < l.length) : (l ++ r).getD n d = l.getD n d := by
  rw [List.getD_eq_getElem?_getD, List.getD_eq_getElem?_getD, List.getElem?_append_left h]
theorem idxOf_get {l : List Nat} (h : l.Nodup) (k : Nat) (hk : k < l.length) : l.idxOf l[k] = k := by
  induction l generalizing k with
  | nil => simp at hk
  | cons x xs ih =>
    have hn := List.nodup_cons.1 h
    cases k with
    | zero => simp
    | succ k =>
      have hk' : k < xs.length := by simpa using hk
      have hne : x ≠ xs[k] := fun e => hn.1 (e ▸ List.getElem_mem hk')
      simp only [List.getElem_cons_succ]
      rw [List.idxOf_cons, show (x == xs[k]) = false by simpa using hne, ih hn.2 k hk']
      rfl

/-- who comes ahead of whom: a mask of bits for each operation -/
def maskOf (acc : List Nat) (o : Oper) : Nat := o.after.toList.foldl (fun s e => if Region.binds .any e then s ||| 2 ^ e.on ||| acc.getD e.on 0 else s) 0
def masksFrom (acc : List Nat) : List Oper → List Nat
  | [] => acc
  | o :: os => masksFrom (acc ++ [maskOf acc o]) os
def masks (ops : Array Oper) : List Nat := masksFrom [] ops.toList
def ahead (ops : Array Oper) (i p : Nat) : Bool := ((masks ops).getD p 0).testBit i

inductive Reach (ops : Array Oper) : Nat → Nat → Prop
  | one {i p : Nat} {o : Oper} (h : ops[p]? = some o) (hb : binder o i = true) : Reach ops i p
  | step {i k p : Nat} {o : Oper} (h : ops[p]? = some o) (hb : binder o k = true) (hr : Reach ops i k) : Reach ops i p

theorem maskOf_bit {acc : List Nat} {o : Oper} {i : Nat} (h : (maskOf acc o).testBit i = true) : binder o i = true ∨ ∃ k, binder o k = true ∧ (acc.getD k 0).testBit i = true := by
  unfold maskOf at h
  have key : ∀ (l : List Edge) (s : Nat), (l.foldl (fun s e => if Region.binds .any e then s ||| 2 ^ e.on ||| acc.getD e.on 0 else s) s).testBit i = true →
      s.testBit i = true ∨ ∃ e ∈ l, Region.binds .any e = true ∧ (e.on = i ∨ (acc.getD e.on 0).testBit i = true) := by
    intro l
    induction l with
    | nil => intro s h; exact .inl h
    | cons e l ih =>
      intro s h
      rw [List.foldl_cons] at h
      rcases ih _ h with h1 | ⟨e', he', hb⟩
      · split at h1
        · rename_i hbd
          simp only [Nat.testBit_or, Bool.or_eq_true, Nat.testBit_two_pow, decide_eq_true_eq] at h1
          rcases h1 with (h1 | h1) | h1
          · exact .inl h1
          · exact .inr ⟨e, by simp, hbd, .inl h1⟩
          · exact .inr ⟨e, by simp, hbd, .inr h1⟩
        · exact .inl h1
      · exact .inr ⟨e', by simp [he'], hb⟩
  rcases key _ _ h with h1 | ⟨e, he, hbd, h2⟩
  · simp at h1
  · have hbi : binder o e.on = true := by
      unfold binder
      exact List.any_eq_true.2 ⟨e, he, by simp [hbd]⟩
    rcases h2 with h2 | h2
    · subst h2; exact .inl hbi
    · exact .inr ⟨e.on, hbi, h2⟩

theorem masks_reach {ops : Array Oper} : ∀ (os : List Oper) (acc : List Nat), (∀ j, os[j]? = ops[acc.length + j]?) →
    (∀ p i, (acc.getD p 0).testBit i = true → Reach ops i p) → ∀ p i, ((masksFrom acc os).getD p 0).testBit i = true → Reach ops i p := by
  intro os
  induction os with
  | nil => intro acc _ h; exact h
  | cons o os ih =>
    intro acc ho h
    refine ih (acc ++ [maskOf acc o]) (fun j => ?_) ?_
    · have := ho (j + 1)
      simpa [Nat.add_assoc, Nat.add_comm 1 j] using this
    · intro p i hb
      by_cases hp : p < acc.length
      · rw [getD_left _ _ _ _ hp] at hb
        exact h p i hb
      · by_cases hp2 : p = acc.length
        · subst hp2
          rw [List.getD_eq_getElem?_getD, List.getElem?_append_right (by omega)] at hb
          simp only [Nat.sub_self, List.getElem?_cons_zero, Option.getD_some] at hb
          have h0 : ops[acc.length]? = some o := by simpa using (ho 0).symm
          rcases maskOf_bit hb with hb | ⟨k, hk, hb⟩
          · exact .one h0 hb
          · exact .step h0 hk (h k i hb)
        · rw [List.getD_eq_getElem?_getD, List.getElem?_eq_none (by simp; omega)] at hb
          simp at hb
theorem ahead_reach {ops : Array Oper} {i p : Nat} (h : ahead ops i p = true) : Reach ops i p :=
  masks_reach ops.toList [] (fun j => by simp) (fun p i hb => by simp at hb) p i h

/-- at what place among those that change the world -/
def place (mem : List Nat) (i : Nat) : Nat := mem.idxOf i
/-- what j showed of memory still holds when i comes up -/
def fresh (ops : Array Oper) (mem : List Nat) (j i : Nat) : Bool := mem.all (fun q => q == i || ahead ops q j || ahead ops i q)
/-- the checks, by reckoning -/
def chained (ops : Array Oper) : List Nat → Bool
  | q :: r :: rest => ahead ops q r && chained ops (r :: rest)
  | _ => true

structure Ready3 (ops : Array Oper) (A : List SP) (mem : List Nat) (a0 a : Act) (w : World) (vals : List Value) (i : Nat) : Prop where
  defers : a.defers = a0.defers
  size : a.tmps.size = a0.tmps.size
  lo : ∀ q, q ∈ mem → ahead ops q i = true → place mem q < vals.length
  hi : ∀ q, q ∈ mem → ahead ops i q = true → vals.length ≤ place mem q
  keep : ∀ t, waits ops i t = true → a.tmps.getD t undef = a0.tmps.getD t undef
  pred : ∀ j d, ahead ops j i = true → (ops[j]?).bind (·.dst) = some d → mem.contains j = false → fresh ops mem j i = true → nth A j w (a.tmps.getD d undef)
  old : ∀ j d, ahead ops j i = true → (ops[j]?).bind (·.dst) = some d → mem.contains j = false → ∃ w, nth A j w (a.tmps.getD d undef)
  val : ∀ j d, ahead ops j i = true → (ops[j]?).bind (·.dst) = some d → mem.contains j = true → a.tmps.getD d undef = vals.getD (place mem j) undef

/-- one that adds to memory at the most -/
def StepAdds (P : Program) (ops : Array Oper) (A : List SP) (Q : Exit → Act → World → Prop) (i : Nat) (o : Oper) (a : Act) (w : World) : Prop := StepOk P ops A Q i o a w
/-- one that changes the world -/
def StepMem (P : Program) (ops : Array Oper) (J : List Value → World → Prop) (Q : Exit → Act → World → Prop) (o : Oper) (a : Act) (w : World) (vals : List Value) : Prop :=
  if Region.wanted o (yielded ops a.tmps) then o.wp P a w (fun a' w' => ∃ v, a' = a.put o.dst v ∧ J (vals ++ [v]) w') Q else J (vals ++ [undef]) w

structure ChInv (ops : Array Oper) (A : List SP) (mem : List Nat) (J : List Value → World → Prop) (a0 : Act) (listed : Array Bool) (a : Act) (w : World) (vals : List Value) (ep : Nat → Nat) : Prop where
  lsize : listed.size = ops.size
  closed : ∀ (j : Nat) (o : Oper), ops[j]? = some o → listed.getD j false = true → ∀ k, binder o k = true → listed.getD k false = true
  defers : a.defers = a0.defers
  size : a.tmps.size = a0.tmps.size
  keep : ∀ t, (∀ (j : Nat) (o : Oper), ops[j]? = some o → o.dst = some t → listed.getD j false = false) → a.tmps.getD t undef = a0.tmps.getD t undef
  len : vals.length ≤ mem.length
  done : ∀ q, q ∈ mem → (listed.getD q false = true ↔ place mem q < vals.length)
  inv : J vals w
  epoch : ∀ j, listed.getD j false = true → mem.contains j = false → ∀ q, q ∈ mem → ahead ops q j = true → place mem q < ep j
  val : ∀ (j : Nat) (o : Oper) (d : Tmp), ops[j]? = some o → listed.getD j false = true → o.dst = some d → mem.contains j = false →
    (vals.length ≤ ep j → nth A j w (a.tmps.getD d undef)) ∧ ∃ w, nth A j w (a.tmps.getD d undef)
  mval : ∀ (j : Nat) (o : Oper) (d : Tmp), ops[j]? = some o → listed.getD j false = true → o.dst = some d → mem.contains j = true → a.tmps.getD d undef = vals.getD (place mem j) undef

theorem Reach.listed {ops : Array Oper} {listed : Array Bool} (hc : ∀ (j : Nat) (o : Oper), ops[j]? = some o → listed.getD j false = true → ∀ k, binder o k = true → listed.getD k false = true)
    {i p : Nat} (h : Reach ops i p) (hp : listed.getD p false = true) : listed.getD i false = true := by
  induction h with
  | one h hb => exact hc _ _ h hp _ hb
  | step h hb _ ih => exact ih (hc _ _ h hp _ hb)

/-- What is known when all have come up. -/
structure ChDone (ops : Array Oper) (A : List SP) (mem : List Nat) (a0 a : Act) (vals : List Value) : Prop where
  defers : a.defers = a0.defers
  size : a.tmps.size = a0.tmps.size
  keep : ∀ t, (∀ (j : Nat) (o : Oper), ops[j]? = some o → o.dst ≠ some t) → a.tmps.getD t undef = a0.tmps.getD t undef
  val : ∀ (j : Nat) (o : Oper) (d : Tmp), ops[j]? = some o → o.dst = some d → if mem.contains j then a.tmps.getD d undef = vals.getD (place mem j) undef else ∃ w, nth A j w (a.tmps.getD d undef)

theorem place_lt {mem : List Nat} {q : Nat} (h : q ∈ mem) : place mem q < mem.length := List.idxOf_lt_length_of_mem h
theorem place_inj {mem : List Nat} {q r : Nat} (hq : q ∈ mem) (hr : r ∈ mem) (h : place mem q = place mem r) : q = r := by
  have h1 := List.getElem_idxOf (place_lt hq)
  have h2 := List.getElem_idxOf (place_lt hr)
  unfold place at h
  simp only [h] at h1
  rw [← h1]
  exact h2

theorem chained_ahead {ops : Array Oper} {mem : List Nat} (h : chained ops mem = true) : ∀ k (hk : k + 1 < mem.length), ahead ops mem[k] mem[k + 1] = true := by
  induction mem with
  | nil => intro k hk; simp at hk
  | cons q rest ih =>
    cases rest with
    | nil => intro k hk; simp at hk
    | cons r rest =>
      simp only [chained, Bool.and_eq_true] at h
      intro k hk
      cases k with
      | zero => exact h.1
      | succ k => exact ih h.2 k (by simpa using hk)

section
variable {P : Program} {ops : Array Oper} {Q : Exit → Act → World → Prop} {a0 : Act} {w0 : World}

theorem wpAny_chain (A : List SP) (mem : List Nat) (J : List Value → World → Prop) (hbk : backward ops = true) (hnd : onceDst ops = true) (hmn : mem.Nodup) (hch : chained ops mem = true)
    (hfit : ∀ (j : Nat) (o : Oper) (d : Tmp), ops[j]? = some o → o.dst = some d → d < a0.tmps.size)
    (hJ : ∀ vals w w', J vals w → Ext w w' → J vals w')
    (hop : AllOps (fun i o => ∀ a w vals, J vals w → Ready3 ops A mem a0 a w vals i → if mem.contains i then (vals.length = place mem i → StepMem P ops J Q o a w vals) else StepAdds P ops A Q i o a w) 0 ops.toList)
    (hfin : ∀ a w vals, vals.length = (mem.filter (· < ops.size)).length ∨ vals.length = mem.length → J vals w → ChDone ops A mem a0 a vals → Q .normal a w) (hmem : ∀ q ∈ mem, q < ops.size) :
    ∀ (fuel : Nat) (listed : Array Bool) (a : Act) (w : World) (vals : List Value) (ep : Nat → Nat), toCome ops listed ≤ fuel → ChInv ops A mem J a0 listed a w vals ep → wpAny P .any ops Q fuel listed a w := by
  have fin : ∀ listed a w vals ep, ChInv ops A mem J a0 listed a w vals ep → Region.ready .any ops listed = [] → Q .normal a w := by
    intro listed a w vals ep inv hr
    have hall := all_listed hbk inv.lsize hr
    have hfull : vals.length = mem.length := by
      cases Nat.lt_or_ge vals.length mem.length with
      | inr h => have := inv.len; omega
      | inl h =>
        exfalso
        have hq : mem[vals.length] ∈ mem := List.getElem_mem h
        have := (inv.done _ hq).1 (hall _ (hmem _ hq))
        have h2 : place mem mem[vals.length] = vals.length := idxOf_get hmn _ h
        omega
    refine hfin a w vals (.inr hfull) inv.inv ⟨inv.defers, inv.size, fun t ht => inv.keep t (fun j o ho hd => (ht j o ho hd).elim), fun j o d ho hd => ?_⟩
    have hl := hall j (Array.getElem?_eq_some_iff.1 ho).1
    split
    · rename_i hm; exact inv.mval j o d ho hl hd hm
    · rename_i hm; exact (inv.val j o d ho hl hd (by simpa using hm)).2
  intro fuel
  induction fuel with
  | zero =>
    intro listed a w vals ep hc inv
    have hr : Region.ready .any ops listed = [] := by
      rw [List.eq_nil_iff_forall_not_mem]
      intro i hi
      obtain ⟨o, _, hi2, hl, _⟩ := mem_ready hi
      have := toCome_set hi2 hl
      omega
    exact ⟨hr, fin _ _ _ _ _ inv hr⟩
  | succ fuel ih =>
    intro listed a w vals ep hc inv
    refine ⟨fin _ _ _ _ _ inv, fun i hi => ?_⟩
    obtain ⟨o, ho, hi2, hl, hpr⟩ := mem_ready hi
    have hlf : listed.getD i false = false := by
      simp only [Array.getD_eq_getD_getElem?] at hl ⊢
      rw [Array.getElem?_eq_getElem (by rw [inv.lsize]; exact hi2)] at hl ⊢
      simpa using hl
    have hprT : ∀ j, ahead ops j i = true → listed.getD j false = true := by
      intro j hj
      cases ahead_reach hj with
      | one h hb => rw [ho] at h; cases h; exact hpr _ hb
      | step h hb hr => rw [ho] at h; cases h; exact hr.listed inv.closed (hpr _ hb)
    have hnot : ∀ q, ahead ops i q = true → listed.getD q false = false := by
      intro q hq
      cases hlq : listed.getD q false with
      | false => rfl
      | true => rw [(ahead_reach hq).listed inv.closed hlq] at hlf; cases hlf
    have hrdy : Ready3 ops A mem a0 a w vals i := by
      refine ⟨inv.defers, inv.size, fun q hq ha => (inv.done q hq).1 (hprT q ha), fun q hq ha => ?_, fun t ht => inv.keep t (fun j oj hj hd => ?_), fun j d ha hd hm hf => ?_, fun j d ha hd hm => ?_, fun j d ha hd hm => ?_⟩
      · have h1 := hnot q ha
        cases Nat.lt_or_ge (place mem q) vals.length with
        | inl h => rw [(inv.done q hq).2 h] at h1; cases h1
        | inr h => exact h
      · have h1 := List.all_eq_true.1 ht (oj, j) (by
          rw [List.mem_iff_getElem?]
          exact ⟨j, by simp [hj]⟩)
        simp only [hd, bne_self_eq_false, Bool.false_or, Bool.or_eq_true, beq_iff_eq] at h1
        cases hlj : listed.getD j false with
        | false => rfl
        | true =>
          rcases h1 with h1 | h1
          · rw [inv.closed j oj hj hlj i h1] at hlf; cases hlf
          · subst h1; rw [hlj] at hlf; cases hlf
      · obtain ⟨oj, hoj, hdj⟩ := Option.bind_eq_some_iff.1 hd
        refine (inv.val j oj d hoj (hprT j ha) hdj hm).1 ?_
        cases Nat.lt_or_ge (ep j) vals.length with
        | inr h => exact h
        | inl h =>
          exfalso
          have hlt : ep j < mem.length := Nat.lt_of_lt_of_le h inv.len
          have hq : mem[ep j] ∈ mem := List.getElem_mem hlt
          have hpl : place mem mem[ep j] = ep j := idxOf_get hmn _ hlt
          have hlq := (inv.done _ hq).2 (by rw [hpl]; exact h)
          have h1 := List.all_eq_true.1 hf _ hq
          simp only [Bool.or_eq_true, beq_iff_eq] at h1
          rcases h1 with (h1 | h1) | h1
          · rw [h1] at hlq; rw [hlq] at hlf; cases hlf
          · have := inv.epoch j (hprT j ha) hm _ hq h1
            omega
          · rw [hnot _ h1] at hlq; cases hlq
      · obtain ⟨oj, hoj, hdj⟩ := Option.bind_eq_some_iff.1 hd
        exact (inv.val j oj d hoj (hprT j ha) hdj hm).2
      · obtain ⟨oj, hoj, hdj⟩ := Option.bind_eq_some_iff.1 hd
        exact inv.mval j oj d hoj (hprT j ha) hdj hm
    have hstep := AllOps.at hop i o (by simpa using ho)
    simp only [Nat.zero_add] at hstep
    have hs := hstep a w vals inv.inv hrdy
    have hct : toCome ops (listed.setIfInBounds i true) ≤ fuel := by have := toCome_set hi2 hl; omega
    have hclosed : ∀ (j : Nat) (oj : Oper), ops[j]? = some oj → (listed.setIfInBounds i true).getD j false = true → ∀ k, binder oj k = true → (listed.setIfInBounds i true).getD k false = true := by
      intro j oj hj hlj k hk
      rcases getD_false_set hlj with e | e
      · subst e
        rw [ho] at hj
        simp only [Option.some.injEq] at hj
        subst hj
        exact getD_set_true (hpr k hk)
      · exact getD_set_true (inv.closed j oj hj e k hk)
    have hkeep : ∀ v t, (∀ (j : Nat) (o : Oper), ops[j]? = some o → o.dst = some t → (listed.setIfInBounds i true).getD j false = false) → (a.put o.dst v).tmps.getD t undef = a0.tmps.getD t undef := by
      intro v t ht
      have hne : o.dst ≠ some t := by
        intro e
        have := ht i o ho e
        simp only [Array.getD_eq_getD_getElem?] at this
        rw [Array.getElem?_setIfInBounds_self_of_lt (by rw [inv.lsize]; exact hi2)] at this
        simp at this
      rw [put_getD _ _ _ _ hne]
      refine inv.keep t (fun j oj hj hd => ?_)
      have := ht j oj hj hd
      cases hlj : listed.getD j false with
      | false => rfl
      | true => rw [getD_set_true hlj] at this; cases this
    have hold : ∀ v (j : Nat) (oj : Oper) (d : Tmp), ops[j]? = some oj → listed.getD j false = true → oj.dst = some d → (a.put o.dst v).tmps.getD d undef = a.tmps.getD d undef := by
      intro v j oj d hj hlj hd
      refine put_getD _ _ _ _ (fun e2 => ?_)
      have := nodup_dst (of_decide_eq_true hnd) i j o oj d (by simpa using ho) (by simpa using hj) e2 hd
      subst this
      rw [hlj] at hlf; cases hlf
    have hself : ∀ v d, o.dst = some d → (a.put o.dst v).tmps.getD d undef = v := by
      intro v d hd
      rw [hd, put_getD_same _ _ _ (by rw [inv.size]; exact hfit _ _ _ ho hd)]
    have hset : (listed.setIfInBounds i true).getD i false = true := by
      simp only [Array.getD_eq_getD_getElem?]
      rw [Array.getElem?_setIfInBounds_self_of_lt (by rw [inv.lsize]; exact hi2)]
      rfl
    unfold wpOp
    rw [ho]
    simp only []
    cases hmi : mem.contains i with
    | false =>
      rw [hmi] at hs
      simp only [Bool.false_eq_true, if_false] at hs
      have himem : i ∉ mem := by simpa using hmi
      have next : ∀ v w', Ext w w' → nth A i w' v → ChInv ops A mem J a0 (listed.setIfInBounds i true) (a.put o.dst v) w' vals (fun j => if j = i then vals.length else ep j) := by
        intro v w' he hv
        refine ⟨by simpa using inv.lsize, hclosed, by rw [put_defers]; exact inv.defers, by rw [put_size]; exact inv.size, hkeep v, inv.len, ?_, hJ _ _ _ inv.inv he, ?_, ?_, ?_⟩
        · intro q hq
          have hqi : q ≠ i := fun e => himem (e ▸ hq)
          rw [← inv.done q hq]
          constructor
          · intro h; rcases getD_false_set h with e | e
            · exact (hqi e).elim
            · exact e
          · exact getD_set_true
        · intro j hlj hm q hq ha
          by_cases hji : j = i
          · subst hji
            simp only [if_true]
            exact (inv.done q hq).1 (hprT q ha)
          · simp only [hji, if_false]
            rcases getD_false_set hlj with e | e
            · exact (hji e).elim
            · exact inv.epoch j e hm q hq ha
        · intro j oj d hj hlj hd hm
          by_cases hji : j = i
          · subst hji
            rw [ho] at hj
            simp only [Option.some.injEq] at hj
            subst hj
            rw [hself v d hd]
            exact ⟨fun _ => hv, _, hv⟩
          · simp only [hji, if_false]
            rcases getD_false_set hlj with e | e
            · exact (hji e).elim
            · rw [hold v j oj d hj e hd]
              exact ⟨fun h => (A.getD j SP.any).st _ _ _ he ((inv.val j oj d hj e hd hm).1 h), (inv.val j oj d hj e hd hm).2⟩
        · intro j oj d hj hlj hd hm
          rcases getD_false_set hlj with e | e
          · subst e; rw [hmi] at hm; cases hm
          · rw [hold v j oj d hj e hd]; exact inv.mval j oj d hj e hd hm
      unfold StepAdds StepOk at hs
      split
      · rename_i hw
        rw [if_pos hw] at hs
        left
        exact Oper.wp_mono (fun a' w' ⟨v, ha, he, hv⟩ => by rw [ha]; exact ih _ _ _ _ _ hct (next v w' he hv)) hs
      · rename_i hw
        rw [if_neg hw] at hs
        exact ih _ _ _ _ _ hct (next undef w (Ext.rfl' _) hs)
    | true =>
      rw [hmi] at hs
      simp only [if_true] at hs
      have himem : i ∈ mem := by simpa using hmi
      have hpi : vals.length = place mem i := by
        have h1 : vals.length ≤ place mem i := by
          cases Nat.lt_or_ge (place mem i) vals.length with
          | inl h => rw [(inv.done i himem).2 h] at hlf; cases hlf
          | inr h => exact h
        have h2 : place mem i ≤ vals.length := by
          cases hp : place mem i with
          | zero => omega
          | succ k =>
            have hlt : k + 1 < mem.length := by rw [← hp]; exact place_lt himem
            have hal := chained_ahead hch k hlt
            have hik : mem[k + 1] = i := by
              have := List.getElem_idxOf (place_lt himem)
              unfold place at hp
              simp only [hp] at this
              exact this
            rw [hik] at hal
            have hq : mem[k] ∈ mem := List.getElem_mem (by omega)
            have := (inv.done _ hq).1 (hprT _ hal)
            rw [show place mem mem[k] = k from idxOf_get hmn _ (by omega)] at this
            omega
        omega
      have hs := hs hpi
      have next : ∀ v w', J (vals ++ [v]) w' → ChInv ops A mem J a0 (listed.setIfInBounds i true) (a.put o.dst v) w' (vals ++ [v]) (fun j => if vals.length < ep j then vals.length else ep j) := by
        intro v w' hv
        refine ⟨by simpa using inv.lsize, hclosed, by rw [put_defers]; exact inv.defers, by rw [put_size]; exact inv.size, hkeep v, by have := place_lt himem; simp; omega, ?_, hv, ?_, ?_, ?_⟩
        · intro q hq
          by_cases hqi : q = i
          · subst hqi
            rw [hset]
            simp
            omega
          · have hne : place mem q ≠ place mem i := fun e => hqi (place_inj hq himem e)
            have h1 := inv.done q hq
            have h2 : (listed.setIfInBounds i true).getD q false = true ↔ listed.getD q false = true := by
              constructor
              · intro h; rcases getD_false_set h with e | e
                · exact (hqi e).elim
                · exact e
              · exact getD_set_true
            rw [h2, h1]
            simp
            omega
        · intro j hlj hm q hq ha
          have hji : j ≠ i := fun e => by subst e; rw [hmi] at hm; cases hm
          have hlj' : listed.getD j false = true := by
            rcases getD_false_set hlj with e | e
            · exact (hji e).elim
            · exact e
          have h1 := inv.epoch j hlj' hm q hq ha
          have h2 := (inv.done q hq).1 ((ahead_reach ha).listed inv.closed hlj')
          show place mem q < if vals.length < ep j then vals.length else ep j
          split <;> omega
        · intro j oj d hj hlj hd hm
          have hji : j ≠ i := fun e => by subst e; rw [hmi] at hm; cases hm
          have hlj' : listed.getD j false = true := by
            rcases getD_false_set hlj with e | e
            · exact (hji e).elim
            · exact e
          rw [hold v j oj d hj hlj' hd]
          refine ⟨fun h => ?_, (inv.val j oj d hj hlj' hd hm).2⟩
          exfalso
          simp at h
          split at h <;> omega
        · intro j oj d hj hlj hd hm
          by_cases hji : j = i
          · subst hji
            rw [ho] at hj
            simp only [Option.some.injEq] at hj
            subst hj
            rw [hself v d hd, ← hpi]
            simp
          · have hlj' : listed.getD j false = true := by
              rcases getD_false_set hlj with e | e
              · exact (hji e).elim
              · exact e
            rw [hold v j oj d hj hlj' hd, inv.mval j oj d hj hlj' hd hm]
            have hjm : j ∈ mem := by simpa using hm
            have := (inv.done j hjm).1 hlj'
            rw [getD_left _ _ _ _ this]
      unfold StepMem at hs
      split
      · rename_i hw
        rw [if_pos hw] at hs
        left
        exact Oper.wp_mono (fun a' w' ⟨v, ha, hv⟩ => by rw [ha]; exact ih _ _ _ _ _ hct (next v w' hv)) hs
      · rename_i hw
        rw [if_neg hw] at hs
        exact ih _ _ _ _ _ hct (next undef w hs)


/-- the facts at the end, an operation each -/
def Facts3 (mem : List Nat) (vals : List Value) : Nat → List SP → List Oper → List Value → Prop
  | i, R :: Rs, o :: os, v :: vs => (o.dst.isSome = true → if mem.contains i then v = vals.getD (place mem i) undef else ∃ w, R.p w v) ∧ Facts3 mem vals (i + 1) Rs os vs
  | _, _, _, _ => True

theorem facts3_of {a : Act} {ops : Array Oper} {A : List SP} {mem : List Nat} {vals : List Value}
    (h : ∀ (j : Nat) (o : Oper) (d : Tmp), ops[j]? = some o → o.dst = some d → if mem.contains j then a.tmps.getD d undef = vals.getD (place mem j) undef else ∃ w, nth A j w (a.tmps.getD d undef)) :
    Facts3 mem vals 0 A ops.toList (ops.toList.map (slotOf a)) := by
  have key : ∀ (Rs : List SP) (os : List Oper) (k : Nat), (∀ j, Rs[j]? = A[k + j]?) → (∀ j, os[j]? = ops[k + j]?) → Facts3 mem vals k Rs os (os.map (slotOf a)) := by
    intro Rs
    induction Rs with
    | nil => intro os k _ _; simp [Facts3]
    | cons R Rs ih =>
      intro os k hR ho
      cases os with
      | nil => simp [Facts3]
      | cons o os =>
        simp only [List.map_cons, Facts3]
        refine ⟨fun hs => ?_, ih os (k + 1) (fun j => by have := hR (j + 1); simpa [Nat.add_assoc, Nat.add_comm 1 j] using this) (fun j => by have := ho (j + 1); simpa [Nat.add_assoc, Nat.add_comm 1 j] using this)⟩
        obtain ⟨d, hd⟩ := Option.isSome_iff_exists.1 hs
        have h0 : ops[k]? = some o := by simpa using (ho 0).symm
        have h1 : A[k]? = some R := by simpa using (hR 0).symm
        have := h k o d h0 hd
        have hAk : A.getD k SP.any = R := by rw [List.getD_eq_getElem?_getD, h1]; rfl
        unfold nth at this
        rw [hAk] at this
        simpa [slotOf, hd] using this
  exact key A ops.toList 0 (fun j => by simp) (fun j => by simp)

/-- A REGION THAT DRAWS ITS ORDER: A CHAIN OF OPERATIONS THAT CHANGE THE WORLD, THE OTHERS ADDING TO MEMORY AT THE MOST. -/
theorem any_chain (A : List SP) (mem : List Nat) (J : List Value → World → Prop) (n : Nat) (hsize : a0.tmps.size = n)
    (hck : (backward ops && onceDst ops && fitsDst ops n && decide mem.Nodup && chained ops mem && mem.all (· < ops.size)) = true)
    (h0 : J [] w0) (hJ : ∀ vals w w', J vals w → Ext w w' → J vals w')
    (hop : AllOps (fun i o => ∀ a w vals, J vals w → Ready3 ops A mem a0 a w vals i → if mem.contains i then (vals.length = place mem i → StepMem P ops J Q o a w vals) else StepAdds P ops A Q i o a w) 0 ops.toList)
    (hfin : ∀ vs w vals, vs.length = ops.size → vals.length = mem.length → J vals w → Facts3 mem vals 0 A ops.toList vs → Q .normal (putAll ops.toList vs a0) w) : wpAny P .any ops Q ops.size (Array.replicate ops.size false) a0 { w0 with drawn := w0.drawn + 1 } := by
  simp only [Bool.and_eq_true] at hck
  obtain ⟨⟨⟨⟨⟨hbk, hnd⟩, hft⟩, hmn⟩, hch⟩, hml⟩ := hck
  have hmn := of_decide_eq_true hmn
  have hmem : ∀ q ∈ mem, q < ops.size := fun q hq => by simpa using List.all_eq_true.1 hml q hq
  have hfit : ∀ (j : Nat) (o : Oper) (d : Tmp), ops[j]? = some o → o.dst = some d → d < a0.tmps.size := by
    intro j o d hj hd
    have := List.all_eq_true.1 hft o (by rw [List.mem_iff_getElem?]; exact ⟨j, by simpa using hj⟩)
    rw [hd] at this
    rw [hsize]
    simpa using this
  have hnl : ∀ j, (Array.replicate ops.size false).getD j false = true → False := by
    intro j hl
    simp only [Array.getD_eq_getD_getElem?] at hl
    by_cases h : j < ops.size <;> simp [h] at hl
  refine (wpAny_chain (a0 := a0) A mem J hbk hnd hmn hch hfit hJ hop (fun a w vals hv hj hd => ?_) hmem _ _ _ _ [] (fun _ => 0) ?_ ?_)
  · have hvl : vals.length = mem.length := by
      rcases hv with h | h
      · rw [h, List.filter_eq_self.2 (fun q hq => by simpa using hmem q hq)]
      · exact h
    have hfacts := facts3_of hd.val
    have heq : a = putAll ops.toList (ops.toList.map (slotOf a)) a0 := by
      refine act_ext ?_ ?_ (fun t => ?_)
      · rw [putAll_size]; exact hd.size
      · rw [putAll_defers]; exact hd.defers
      · rw [putAll_get a _ _ (of_decide_eq_true hnd) (fun o ho d hdd => by
          obtain ⟨j, hj⟩ := List.mem_iff_getElem?.1 ho
          exact hfit j o d (by simpa using hj) hdd)]
        split
        · rfl
        · rename_i hno
          refine hd.keep t (fun j o hj e => hno ?_)
          rw [List.mem_map]
          exact ⟨o, by rw [List.mem_iff_getElem?]; exact ⟨j, by simpa using hj⟩, e⟩
    rw [heq]
    exact hfin _ w vals (by simp) hvl hj hfacts
  · unfold toCome
    exact Nat.le_trans (List.countP_le_length) (by simp)
  · refine ⟨by simp, fun j o hj hl => (hnl j hl).elim, rfl, rfl, fun t _ => rfl, by simp, fun q hq => ⟨fun h => (hnl q h).elim, fun h => by simp at h⟩, hJ _ _ _ h0 (Ext.drew' w0), fun j hl => (hnl j hl).elim, fun j o d hj hl => (hnl j hl).elim, fun j o d hj hl => (hnl j hl).elim⟩

theorem wp_region_chain {id : Nat} (hm : P.follows .mixedOrders = true) (A : List SP) (mem : List Nat) (J : List Value → World → Prop) (n : Nat) (hsize : a0.tmps.size = n)
    (hck : (backward ops && onceDst ops && fitsDst ops n && decide mem.Nodup && chained ops mem && mem.all (· < ops.size)) = true)
    (h0 : J [] w0) (hJ : ∀ vals w w', J vals w → Ext w w' → J vals w')
    (hop : AllOps (fun i o => ∀ a w vals, J vals w → Ready3 ops A mem a0 a w vals i → if mem.contains i then (vals.length = place mem i → StepMem P ops J Q o a w vals) else StepAdds P ops A Q i o a w) 0 ops.toList)
    (hfin : ∀ vs w vals, vs.length = ops.size → vals.length = mem.length → J vals w → Facts3 mem vals 0 A ops.toList vs → Q .normal (putAll ops.toList vs a0) w) : (Code.region id ops true).wp P Q a0 w0 :=
  wp_region_any hm (any_chain A mem J n hsize hck h0 hJ hop hfin)

theorem stepMem_of {J : List Value → World → Prop} {o : Oper} {a : Act} {w w' : World} {v : Value} {vals : List Value} (hg : Region.wanted o (yielded ops a.tmps) = true) (hrun : (execOp a.eval o).run P w = .ok (.value v) w') (hA : J (vals ++ [v]) w') : StepMem P ops J Q o a w vals := by
  unfold StepMem
  rw [if_pos hg]
  unfold Oper.wp
  rw [hrun]
  exact ⟨v, rfl, hA⟩
theorem stepMem_skip {J : List Value → World → Prop} {o : Oper} {a : Act} {w w' : World} {vals : List Value} (hg : Region.wanted o (yielded ops a.tmps) = true) (hrun : (execOp a.eval o).run P w = .ok .skip w') (hA : J (vals ++ [undef]) w') : StepMem P ops J Q o a w vals := by
  unfold StepMem
  rw [if_pos hg]
  unfold Oper.wp
  rw [hrun]
  exact ⟨undef, rfl, hA⟩
theorem stepMem_not {J : List Value → World → Prop} {o : Oper} {a : Act} {w : World} {vals : List Value} (hg : Region.wanted o (yielded ops a.tmps) = false) (hA : J (vals ++ [undef]) w) : StepMem P ops J Q o a w vals := by
  unfold StepMem
  rw [if_neg (by rw [hg]; decide)]
  exact hA
theorem stepMem_calls {J : List Value → World → Prop} {o : Oper} {a : Act} {w : World} {vals : List Value} {f : FuncId} {xs : Array Operand} {ts : Array TypeId} {args : Array Value} (hf : Callable P f) (hg : Region.wanted o (yielded ops a.tmps) = true)
    (ho : o.op = .call { callee := .value (.func f), args := xs, argTypes := ts }) (hx : xs.map a.eval = args) (hc : Calls P f args w fun e w' => ∃ v, e = .returned v ∧ J (vals ++ [v]) w') : StepMem P ops J Q o a w vals := by
  unfold StepMem
  rw [if_pos hg]
  unfold Oper.wp
  obtain ⟨fn, h1, h2, h3⟩ := hf
  have : execOp a.eval o = callFunc f (#[] ++ xs.map a.eval ++ #[]) := by
    obtain ⟨d, op, ty, pos, af, gd⟩ := o
    simp only at ho
    subst ho
    rfl
  have hb : ¬ fn.body = none := by intro h; rw [h] at h3; cases h3
  have hn : ¬ fn.name = "runtime.NumGoroutine" := by simpa using h2
  have hr : (execOp a.eval o).run P w = .ok (.enter f args) w := by rw [this, hx]; simp [callFunc, h1, hn, hb]
  rw [hr]
  exact hc.mono fun e w' ⟨v, he, h1⟩ => by subst he; exact ⟨v, rfl, h1⟩
end
end Go.Pm
