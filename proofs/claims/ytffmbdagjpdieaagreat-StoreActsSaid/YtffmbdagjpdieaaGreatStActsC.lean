/- The order of texts; blocks of entries as one row; the index's model. -/
import Derived.Test.YtffmbdagjpdieaaGreatStActsB
import Derived.Test.YtffmbdagjpdieaaGreatRows
import Derived.Lib.AppendZerosOnto
import Derived.Lib.Overlaps
import Derived.Laws.Externs
set_option maxRecDepth 100000
namespace Go.Pm
open Go.RowKit
theorem lt_irrefl (a : List UInt8) : Op.bytesLess a a = false := by
 induction a with
 | nil => rfl
 | cons x l ih => simp [Op.bytesLess, ih]
theorem lt_trans : ∀ (a b c : List UInt8), Op.bytesLess a b = true → Op.bytesLess b c = true → Op.bytesLess a c = true
 | _, _, [], _, h => by cases ‹List UInt8› <;> simp [Op.bytesLess] at h
 | _, [], _ :: _, h, _ => by cases ‹List UInt8› <;> simp [Op.bytesLess] at h
 | [], _ :: _, _ :: _, _, _ => rfl
 | x :: a, y :: b, z :: c, h, k => by
  simp only [Op.bytesLess, Bool.or_eq_true, Bool.and_eq_true, decide_eq_true_eq, beq_iff_eq] at h k ⊢
  rcases h with h | ⟨rfl, h⟩
  ·rcases k with k | ⟨rfl, k⟩
   ·exact .inl (UInt8.lt_trans h k)
   exact .inl h
  rcases k with k | ⟨rfl, k⟩
  ·exact .inl k
  exact .inr ⟨rfl, lt_trans a b c h k⟩
theorem lt_total : ∀ (a b : List UInt8), Op.bytesLess a b = false → Op.bytesLess b a = false → a = b
 | [], [], _, _ => rfl
 | [], _ :: _, h, _ => by simp [Op.bytesLess] at h
 | _ :: _, [], _, h => by simp [Op.bytesLess] at h
 | x :: a, y :: b, h, k => by
  simp only [Op.bytesLess, Bool.or_eq_false_iff, Bool.and_eq_false_iff, decide_eq_false_iff_not, beq_eq_false_iff_ne] at h k
  have e : x = y := by
   rcases Nat.lt_trichotomy x.toNat y.toNat with e | e | e
   ·exact absurd (UInt8.lt_iff_toNat_lt.2 e) h.1
   ·exact UInt8.toNat_inj.1 e
   exact absurd (UInt8.lt_iff_toNat_lt.2 e) k.1
  subst e
  rw [lt_total a b (by rcases h.2 with h | h; exact absurd rfl h; exact h) (by rcases k.2 with h | h; exact absurd rfl h; exact h)]
theorem lt_asymm {a b : List UInt8} (h : Op.bytesLess a b = true) : Op.bytesLess b a = false := by
 cases e : Op.bytesLess b a with
 | false => rfl
 | true => have := lt_trans a b a h e; rw [lt_irrefl] at this; cases this
theorem lt_ne {a b : List UInt8} (h : Op.bytesLess a b = true) : a ≠ b := fun e => by subst e; rw [lt_irrefl] at h; cases h
theorem gt_eq (a b : List UInt8) : (!(Op.bytesLess a b || a == b)) = Op.bytesLess b a := by
 cases h1 : Op.bytesLess a b with
 | true => rw [lt_asymm h1]; rfl
 | false =>
  cases h2 : Op.bytesLess b a with
  | true =>
   have : (a == b) = false := beq_eq_false_iff_ne.2 fun e => by subst e; rw [lt_irrefl] at h2; cases h2
   rw [this]; rfl
  | false => rw [lt_total a b h1 h2]; simp
theorem ge_trans {a b k : List UInt8} (h : Op.bytesLess a k = false) (h2 : Op.bytesLess a b = true) : Op.bytesLess b k = false := by
 cases e : Op.bytesLess b k with
 | false => rfl
 | true => rw [lt_trans a b k h2 e] at h; cases h
section
variable {α : Type}
theorem flatten_at {X : List (List α)} {i : Nat} {es : List α} (h : X[i]? = some es) : X.flatten = (X.take i).flatten ++ (es ++ (X.drop (i + 1)).flatten) := by
 obtain ⟨hi, rfl⟩ := List.getElem?_eq_some_iff.1 h
 have h2 := congrArg List.flatten (List.take_append_drop i X)
 rw [List.drop_eq_getElem_cons hi, List.flatten_append, List.flatten_cons] at h2
 exact h2.symm
theorem flatten_set {X : List (List α)} {i : Nat} {es : List α} (h : X[i]? = some es) (es' : List α) : (X.set i es').flatten = (X.take i).flatten ++ (es' ++ (X.drop (i + 1)).flatten) := by
 have hi := (List.getElem?_eq_some_iff.1 h).1
 rw [flatten_at (i := i) (es := es') (by rw [List.getElem?_set_self hi])]
 rw [List.take_set_of_le (Nat.le_refl _), List.drop_set_of_lt (by omega)]
end
def posOf (X : List (List Ent)) (i j : Nat) : Nat := (X.take i).flatten.length + j
def IxSorted (X : List (List Ent)) : Prop := X.flatten.Pairwise (fun a b => Op.bytesLess a.1 b.1 = true)
structure FindP (l : List Ent) (key : List UInt8) (k : Nat) (ok : Bool) : Prop where
 le : k ≤ l.length
 lo : ∀ e ∈ l.take k, Op.bytesLess e.1 key = true
 hi : ∀ e ∈ l.drop k, Op.bytesLess e.1 key = false
 ok : ok = true ↔ ∃ e, l[k]? = some e ∧ e.1 = key
theorem pw_take_lt {l : List Ent} (hs : l.Pairwise (fun a b => Op.bytesLess a.1 b.1 = true)) {k : Nat} {e : Ent} (he : l[k]? = some e) : (∀ x ∈ l.take k, Op.bytesLess x.1 e.1 = true) ∧ ∀ x ∈ l.drop (k + 1), Op.bytesLess e.1 x.1 = true := by
 obtain ⟨hk, rfl⟩ := List.getElem?_eq_some_iff.1 he
 have h := hs
 rw [← List.take_append_drop k l, List.drop_eq_getElem_cons hk, List.pairwise_append] at h
 exact ⟨fun x hx => h.2.2 x hx _ (List.mem_cons_self), (List.pairwise_cons.1 h.2.1).1⟩
theorem FindI.pos {X : List (List Ent)} {key : List UInt8} {i j : Nat} {ok : Bool} (hs : IxSorted X) (h : FindI X key i j ok) : FindP X.flatten key (posOf X i j) ok := by
 -- what is ahead of block i
 have hpre : ∀ e ∈ (X.take i).flatten, Op.bytesLess e.1 key = true := by
  intro e he
  cases i with
  | zero => simp at he
  | succ k =>
   have hk : k < X.length := by have := h.le; omega
   obtain ⟨es, hes⟩ : ∃ es, X[k]? = some es := ⟨_, List.getElem?_eq_getElem hk⟩
   obtain ⟨la, hla, hlt⟩ := h.lo k es rfl hes
   have hsub : (X.take (k + 1)).flatten = (X.take k).flatten ++ es := by
    rw [List.take_add_one, hes, List.flatten_append]; simp
   rw [hsub] at he
   have hsx : ((X.take k).flatten ++ es).Pairwise (fun a b => Op.bytesLess a.1 b.1 = true) := by
    have := hs
    unfold IxSorted at this
    rw [flatten_at hes, ← List.append_assoc] at this
    exact (List.pairwise_append.1 this).1
   rw [List.getLast?_eq_getElem?] at hla
   have hl2 := (List.getElem?_eq_some_iff.1 hla).1
   have hget : ((X.take k).flatten ++ es)[((X.take k).flatten.length + (es.length - 1))]? = some la := by
    rw [List.getElem?_append_right (by omega), Nat.add_sub_cancel_left]; exact hla
   obtain ⟨m, hm, rfl⟩ := List.mem_iff_getElem.1 he
   rcases Nat.lt_or_ge m ((X.take k).flatten.length + (es.length - 1)) with hlt2 | hge
   ·refine lt_trans _ _ _ ((pw_take_lt hsx hget).1 _ ?_) hlt
    rw [List.mem_take_iff_getElem]
    exact ⟨m, by omega, rfl⟩
   rw [List.length_append] at hm
   have hmm : m = (X.take k).flatten.length + (es.length - 1) := by omega
   have : ((X.take k).flatten ++ es)[m]? = some la := by rw [hmm]; exact hget
   rw [List.getElem?_eq_getElem (by rw [List.length_append]; exact hm)] at this
   cases this
   exact hlt
 rcases Nat.lt_or_ge i X.length with hi | hi
 ·obtain ⟨es, hes⟩ : ∃ es, X[i]? = some es := ⟨_, List.getElem?_eq_getElem hi⟩
  obtain ⟨e, hej, hge, hok, hlo⟩ := h.at_ es hes
  have hj := (List.getElem?_eq_some_iff.1 hej).1
  have hfl := flatten_at hes
  have hget : X.flatten[posOf X i j]? = some e := by
   rw [hfl, posOf, List.getElem?_append_right (by omega), Nat.add_sub_cancel_left, List.getElem?_append_left hj]; exact hej
  have hlt := (List.getElem?_eq_some_iff.1 hget).1
  refine ⟨Nat.le_of_lt hlt, fun x hx => ?_, fun x hx => ?_, ?_⟩
  ·rw [hfl, posOf, List.take_append, List.take_of_length_le (by omega), Nat.add_sub_cancel_left, List.take_append_of_le_length (by omega)] at hx
   rcases List.mem_append.1 hx with hx | hx
   ·exact hpre x hx
   cases j with
   | zero => simp at hx
   | succ k =>
    have hk : k < es.length := by omega
    obtain ⟨f, hf⟩ : ∃ f, es[k]? = some f := ⟨_, List.getElem?_eq_getElem hk⟩
    have hflt := hlo k f rfl hf
    rw [take_next hf] at hx
    rcases List.mem_append.1 hx with hx | hx
    ·have hes' : es.Pairwise (fun a b => Op.bytesLess a.1 b.1 = true) := by
      have := hs
      unfold IxSorted at this
      rw [hfl] at this
      exact (List.pairwise_append.1 (List.pairwise_append.1 this).2.1).1
     exact lt_trans _ _ _ ((pw_take_lt hes' hf).1 x hx) hflt
    simp at hx; subst hx; exact hflt
  ·rw [List.drop_eq_getElem_cons hlt] at hx
   have e1 : X.flatten[posOf X i j] = e := by rw [List.getElem?_eq_getElem hlt] at hget; exact Option.some.inj hget
   rcases List.mem_cons.1 hx with hx | hx
   ·rw [hx, e1]; exact hge
   exact ge_trans hge ((pw_take_lt hs hget).2 x hx)
  rw [hok, decide_eq_true_iff]
  constructor
  ·intro hk; exact ⟨e, hget, hk⟩
  rintro ⟨e2, h1, h2⟩
  rw [hget] at h1; cases h1; exact h2
 have hiX : i = X.length := by have := h.le; omega
 obtain ⟨rfl, rfl⟩ := h.out hiX
 have hp : posOf X i 0 = X.flatten.length := by rw [posOf, hiX, List.take_length, Nat.add_zero]
 refine ⟨by omega, fun x hx => ?_, fun x hx => ?_, ?_⟩
 ·rw [hp, List.take_length] at hx
  rw [hiX, List.take_length] at hpre
  exact hpre x hx
 ·rw [hp, List.drop_length] at hx; cases hx
 constructor
 ·intro h; cases h
 rintro ⟨e, h1, -⟩
 rw [hp, List.getElem?_eq_none (Nat.le_refl _)] at h1; cases h1
section
variable {P : Program} {a : Act} {w : World} {o : Oper} {t u : TypeId} {x y : Operand}
theorem ex_sgtr {s s' : List UInt8} {b : Bool} (ho : o.op = .binOp .gtr t x y u) (hx : a.eval x = .string ⟨s.toArray⟩) (hy : a.eval y = .string ⟨s'.toArray⟩) (hb : Op.bytesLess s' s = b) : Ex P a o w (.bool b) w := by
 rw [← gt_eq] at hb
 subst hb; unfold Ex; simp [execOp, ho, hx, hy, eqGuard, binOp, Op.stringOp]
end
end Go.Pm
/- The index's model: keys and chains. -/
namespace Go.Pm
open Go.RowKit
abbrev Model := List (List UInt8 × List Ver)
def Mods (B : Base) : List Ent → Model → Prop
 | [], [] => True
 | e :: l, m :: M => (e.1 = m.1 ∧ ChainB B e.2 m.2) ∧ Mods B l M
 | _, _ => False
theorem Mods.len {B : Base} : ∀ {l : List Ent} {M : Model}, Mods B l M → l.length = M.length
 | [], [], _ => rfl
 | _ :: _, _ :: _, h => by simp [Mods.len h.2]
 | [], _ :: _, h => h.elim
 | _ :: _, [], h => h.elim
theorem Mods.more {B C : Base} (hB : B.Le C) : ∀ {l : List Ent} {M : Model}, Mods B l M → Mods C l M
 | [], [], _ => trivial
 | _ :: _, _ :: _, h => ⟨⟨h.1.1, h.1.2.more hB⟩, Mods.more hB h.2⟩
 | [], _ :: _, h => h.elim
 | _ :: _, [], h => h.elim
theorem Mods.get {B : Base} : ∀ {l : List Ent} {M : Model} {k : Nat} {e : Ent}, Mods B l M → l[k]? = some e → ∃ m, M[k]? = some m ∧ e.1 = m.1 ∧ ChainB B e.2 m.2
 | [], [], k, e, _, h => by simp at h
 | a :: l, m :: M, 0, e, h, he => by
  simp only [List.getElem?_cons_zero, Option.some.injEq] at he
  subst he
  exact ⟨m, rfl, h.1⟩
 | a :: l, m :: M, k + 1, e, h, he => by
  obtain ⟨m', h1, h2⟩ := Mods.get (k := k) h.2 (by simpa using he)
  exact ⟨m', by simpa using h1, h2⟩
 | [], _ :: _, _, _, h, _ => h.elim
 | _ :: _, [], _, _, h, _ => h.elim
theorem Mods.back {B : Base} : ∀ {l : List Ent} {M : Model} {k : Nat} {m : List UInt8 × List Ver}, Mods B l M → M[k]? = some m → ∃ e, l[k]? = some e ∧ e.1 = m.1 ∧ ChainB B e.2 m.2
 | [], [], k, m, _, h => by simp at h
 | a :: l, m :: M, 0, m', h, he => by
  simp only [List.getElem?_cons_zero, Option.some.injEq] at he
  subst he
  exact ⟨a, rfl, h.1⟩
 | a :: l, m :: M, k + 1, m', h, he => by
  obtain ⟨e', h1, h2⟩ := Mods.back (k := k) h.2 (by simpa using he)
  exact ⟨e', by simpa using h1, h2⟩
 | [], _ :: _, _, _, h, _ => h.elim
 | _ :: _, [], _, _, h, _ => h.elim
theorem Mods.append {B : Base} {l' : List Ent} {M' : Model} (hk : Mods B l' M') : ∀ {l : List Ent} {M : Model}, Mods B l M → Mods B (l ++ l') (M ++ M')
 | [], [], _ => hk
 | _ :: _, _ :: _, h => ⟨h.1, Mods.append hk h.2⟩
 | [], _ :: _, h => h.elim
 | _ :: _, [], h => h.elim
theorem Mods.take {B : Base} : ∀ {l : List Ent} {M : Model} (k : Nat), Mods B l M → Mods B (l.take k) (M.take k)
 | [], [], k, _ => by simp [Mods]
 | _ :: _, _ :: _, 0, h => trivial
 | _ :: _, _ :: _, k + 1, h => ⟨h.1, Mods.take k h.2⟩
 | [], _ :: _, _, h => h.elim
 | _ :: _, [], _, h => h.elim
theorem Mods.drop {B : Base} : ∀ {l : List Ent} {M : Model} (k : Nat), Mods B l M → Mods B (l.drop k) (M.drop k)
 | [], [], k, _ => by simp [Mods]
 | _ :: _, _ :: _, 0, h => h
 | _ :: _, _ :: _, k + 1, h => Mods.drop k h.2
 | [], _ :: _, _, h => h.elim
 | _ :: _, [], _, h => h.elim
def getM (M : Model) (key : List UInt8) : List Ver := ((M.find? fun m => m.1 == key).map (·.2)).getD []
theorem find_none {M : Model} {key : List UInt8} (h : ∀ m ∈ M, m.1 ≠ key) : M.find? (fun m => m.1 == key) = none := by
 rw [List.find?_eq_none]
 intro m hm
 simpa using h m hm
theorem Mods.keys {B : Base} {l : List Ent} {M : Model} (h : Mods B l M) {m : List UInt8 × List Ver} (hm : m ∈ M) : ∃ e ∈ l, e.1 = m.1 := by
 obtain ⟨k, hk⟩ := List.mem_iff_getElem?.1 hm
 obtain ⟨e, h1, h2, -⟩ := h.back hk
 exact ⟨e, List.mem_of_getElem? h1, h2⟩
theorem getM_split {l r : Model} {key : List UInt8} (h : ∀ m ∈ l, m.1 ≠ key) : getM (l ++ r) key = getM r key := by
 unfold getM
 rw [List.find?_append, find_none h]; rfl
theorem getM_none {M : Model} {key : List UInt8} (h : ∀ m ∈ M, m.1 ≠ key) : getM M key = [] := by
 unfold getM
 rw [find_none h]; rfl
theorem getM_cons_self {M : Model} {key : List UInt8} {c : List Ver} : getM ((key, c) :: M) key = c := by
 unfold getM
 simp
theorem getM_cons_ne {M : Model} {key k : List UInt8} {c : List Ver} (h : k ≠ key) : getM ((k, c) :: M) key = getM M key := by
 unfold getM
 rw [List.find?_cons_of_neg (by simpa using h)]
section
variable {B : Base} {l : List Ent} {M : Model} {key : List UInt8} {k : Nat} {ok : Bool}
theorem FindP.takeNe (h : FindP l key k ok) (hm : Mods B l M) : ∀ m ∈ M.take k, m.1 ≠ key := fun m hmm => by
 obtain ⟨e, he, hk⟩ := (hm.take k).keys hmm
 rw [← hk]
 exact lt_ne (h.lo e he)
theorem FindP.some (h : FindP l key k true) (hm : Mods B l M) : ∃ e m, l[k]? = some e ∧ M[k]? = some m ∧ e.1 = key ∧ m.1 = key ∧ getM M key = m.2 ∧ ChainB B e.2 (getM M key) := by
 obtain ⟨e, he, hk⟩ := h.ok.1 rfl
 obtain ⟨m, h1, h2, h3⟩ := hm.get he
 have hkm := (List.getElem?_eq_some_iff.1 h1).1
 have hg : getM M key = m.2 := by
  rw [← List.take_append_drop k M, getM_split (h.takeNe hm), List.drop_eq_getElem_cons hkm]
  have e1 : M[k] = m := by rw [List.getElem?_eq_getElem hkm] at h1; exact Option.some.inj h1
  rw [e1]
  have e2 : m = (key, m.2) := by rw [← hk, h2]
  rw [e2, getM_cons_self]
 exact ⟨e, m, he, h1, hk, by rw [← h2, hk], hg, by rw [hg]; exact h3⟩
theorem pw_of (hs : l.Pairwise (fun a b => Op.bytesLess a.1 b.1 = true)) (h : FindP l key k false) : ∀ e ∈ l.drop k, e.1 ≠ key ∧ Op.bytesLess key e.1 = true := by
 have key0 : ∀ e ∈ l.drop k, Op.bytesLess key e.1 = true := by
  intro e he
  cases hlt : Op.bytesLess key e.1 with
  | true => rfl
  | false =>
   exfalso
   have heq := lt_total _ _ (h.hi e he) hlt
   obtain ⟨i, hi⟩ := List.mem_iff_getElem?.1 he
   rw [List.getElem?_drop] at hi
   cases i with
   | zero => have := h.ok.2 ⟨e, hi, heq⟩; cases this
   | succ i =>
    have hk : k < l.length := by have := (List.getElem?_eq_some_iff.1 hi).1; omega
    obtain ⟨f, hf⟩ : ∃ f, l[k]? = some f := ⟨_, List.getElem?_eq_getElem hk⟩
    have hfe : Op.bytesLess f.1 e.1 = true := (pw_take_lt hs hf).2 e (by
     refine List.mem_iff_getElem?.2 ⟨i, ?_⟩
     rw [List.getElem?_drop, ← hi]; congr 1; omega)
    have hff := h.hi f (by
     refine List.mem_iff_getElem?.2 ⟨0, ?_⟩
     rw [List.getElem?_drop]; exact hf)
    rw [heq, hff] at hfe
    cases hfe
 exact fun e he => ⟨fun e2 => (by have := key0 e he; rw [e2, lt_irrefl] at this; cases this), key0 e he⟩
theorem FindP.none (hs : l.Pairwise (fun a b => Op.bytesLess a.1 b.1 = true)) (h : FindP l key k false) (hm : Mods B l M) : getM M key = [] := by
 refine getM_none fun m hmm => ?_
 rw [← List.take_append_drop k M] at hmm
 rcases List.mem_append.1 hmm with h1 | h1
 ·exact h.takeNe hm m h1
 obtain ⟨e, he, hk⟩ := (hm.drop k).keys h1
 rw [← hk]
 exact (pw_of hs h e he).1
def setM (M : Model) (key : List UInt8) (c : List Ver) (k : Nat) (ok : Bool) : Model := M.take k ++ (key, c) :: M.drop (if ok then k + 1 else k)
theorem getM_setM (h : FindP l key k ok) (hm : Mods B l M) (c : List Ver) (key' : List UInt8) : getM (setM M key c k ok) key' = if key' = key then c else getM M key' := by
 unfold setM
 by_cases hk : key' = key
 ·subst hk
  rw [if_pos rfl, getM_split (h.takeNe hm), getM_cons_self]
 rw [if_neg hk]
 have hM : M = M.take k ++ M.drop k := (List.take_append_drop k M).symm
 have key0 : getM ((key, c) :: M.drop (if ok then k + 1 else k)) key' = getM (M.drop k) key' := by
  rw [getM_cons_ne (fun e => hk e.symm)]
  cases ok with
  | false => rfl
  | true =>
   obtain ⟨e, m, h1, h2, h3, h4, -, -⟩ := h.some hm
   have hkm := (List.getElem?_eq_some_iff.1 h2).1
   rw [if_pos rfl, List.drop_eq_getElem_cons hkm]
   have e1 : M[k] = m := by rw [List.getElem?_eq_getElem hkm] at h2; exact Option.some.inj h2
   rw [e1, show m = (key, m.2) by rw [← h4], getM_cons_ne (fun e => hk e.symm)]
 have app : ∀ (a x y : Model), getM x key' = getM y key' → getM (a ++ x) key' = getM (a ++ y) key' := fun a x y hxy => by
  unfold getM at hxy ⊢
  rw [List.find?_append, List.find?_append]
  cases a.find? fun m => m.1 == key' with
  | some z => rfl
  | none => exact hxy
 rw [app _ _ _ key0, ← hM]
end
theorem flat_get {X : List (List Ent)} {i j : Nat} {es : List Ent} {f : Ent} (h : X[i]? = some es) (hf : es[j]? = some f) : X.flatten[posOf X i j]? = some f := by
 have hj := (List.getElem?_eq_some_iff.1 hf).1
 rw [flatten_at h, posOf, List.getElem?_append_right (by omega), Nat.add_sub_cancel_left, List.getElem?_append_left hj]
 exact hf
structure IxM (B : Base) (X : List (List Ent)) (M : Model) : Prop where
 ne : ∀ es ∈ X, es ≠ []
 so : IxSorted X
 mo : Mods B X.flatten M
 ch : ∀ m ∈ M, m.2 ≠ [] ∧ m.2.length ≤ 1000
 sm : M.length ≤ 100000
theorem IxM.more {B C : Base} {X : List (List Ent)} {M : Model} (h : IxM B X M) (hB : B.Le C) : IxM C X M := ⟨h.ne, h.so, h.mo.more hB, h.ch, h.sm⟩
theorem len_flatten {X : List (List Ent)} (h : ∀ es ∈ X, es ≠ []) : X.length ≤ X.flatten.length ∧ ∀ es ∈ X, es.length ≤ X.flatten.length := by
 induction X with
 | nil => exact ⟨Nat.le_refl _, fun _ h => by cases h⟩
 | cons a X ih =>
  obtain ⟨h1, h2⟩ := ih (fun es he => h es (List.mem_cons_of_mem _ he))
  have h3 : 0 < a.length := List.length_pos_iff.2 (h a List.mem_cons_self)
  rw [List.flatten_cons, List.length_append, List.length_cons]
  refine ⟨by omega, fun es he => ?_⟩
  rcases List.mem_cons.1 he with rfl | he
  ·omega
  have := h2 es he; omega
theorem IxM.ok {B : Base} {X : List (List Ent)} {M : Model} (h : IxM B X M) : IxOk X := by
 have hl := h.mo.len
 have hs := h.sm
 obtain ⟨h1, h2⟩ := len_flatten h.ne
 exact ⟨h.ne, by omega, fun es he => by have := h2 es he; omega⟩
theorem getM_mem {M : Model} {key : List UInt8} (h : getM M key ≠ []) : (key, getM M key) ∈ M := by
 unfold getM at h ⊢
 cases hf : M.find? (fun m => m.1 == key) with
 | none => rw [hf] at h; exact absurd rfl h
 | some m =>
  have h1 := List.mem_of_find?_eq_some hf
  have h2 := List.find?_some hf
  have h3 : m.1 = key := by simpa using h2
  rw [← h3]
  exact h1
theorem IxM.glen {B : Base} {X : List (List Ent)} {M : Model} (h : IxM B X M) (key : List UInt8) : (getM M key).length ≤ 1000 := by
 by_cases hg : getM M key = []
 ·rw [hg]; exact Nat.zero_le _
 exact (h.ch _ (getM_mem hg)).2
theorem IxM.none {B : Base} {X : List (List Ent)} {M : Model} (h : IxM B X M) {key : List UInt8} {i j : Nat} (hf : FindI X key i j false) : getM M key = [] := (hf.pos h.so).none h.so h.mo
theorem FindI.lt {X : List (List Ent)} {key : List UInt8} {i j : Nat} (hf : FindI X key i j true) : i < X.length := by
 rcases Nat.lt_or_ge i X.length with h | h
 ·exact h
 have := (hf.out (by have := hf.le; omega)).2; cases this
theorem IxM.some {B : Base} {X : List (List Ent)} {M : Model} (h : IxM B X M) {key : List UInt8} {i j : Nat} {es : List Ent} {f : Ent} (hf : FindI X key i j true) (hes : X[i]? = some es) (hj : es[j]? = some f) : ChainB B f.2 (getM M key) := by
 obtain ⟨e, m, h1, -, -, -, -, h2⟩ := (hf.pos h.so).some h.mo
 rw [flat_get hes hj] at h1
 cases h1
 exact h2
theorem chain_nil (B : Base) : ChainB B (.slice none 0 0) [] := ⟨none, 0, [], rfl, ⟨Nat.le_refl _, Nat.zero_le _, fun _ => rfl⟩, rdV_nil, rfl⟩
theorem ChainB.shape {B : Base} {v : Value} {l : List Ver} (h : ChainB B v l) : ∃ ad c, v = .slice ad l.length c := by
 obtain ⟨ad, c, xs, rfl, -⟩ := h
 exact ⟨ad, c, rfl⟩
theorem ChainB.one {B : Base} {v : Value} {l : List Ver} (h : ChainB B v l) : v.oneCell' = true := by
 obtain ⟨ad, c, xs, rfl, -⟩ := h
 rfl
theorem ChainB.cells {B : Base} {v : Value} {l : List Ver} (h : ChainB B v l) : v.cells = #[v] := by
 obtain ⟨ad, c, xs, rfl, -⟩ := h
 rfl
end Go.Pm
/- index: find, Get, Len. -/
namespace Go.Proofs.YtffmbdagjpdieaaGreat
open Go.RowKit Go.Pm
theorem s3na62 (w : World) : (isAgg 62).run Tryz.prog w = .ok false w := by kernel_rfl
theorem s3fa89_0 (w : World) (b o : Nat) : (Instr.fieldAt 89 (.pointer (some ⟨b, o, none⟩)) 0).run Tryz.prog w = .ok (.pointer (some ⟨b, o + 0, none⟩)) w := by kernel_rfl
theorem s3na87 (w : World) : (isAgg 87).run Tryz.prog w = .ok false w := by kernel_rfl
theorem s3es87 (w : World) : (sizeOf (Tryz.prog.elem 87)).run Tryz.prog w = .ok 1 w := by kernel_rfl
theorem s3na101 (w : World) : (isAgg 101).run Tryz.prog w = .ok false w := by kernel_rfl
theorem s3es101 (w : World) : (sizeOf (Tryz.prog.elem 101)).run Tryz.prog w = .ok 2 w := by kernel_rfl
theorem s3fa100_0 (w : World) (b o : Nat) : (Instr.fieldAt 100 (.pointer (some ⟨b, o, none⟩)) 0).run Tryz.prog w = .ok (.pointer (some ⟨b, o + 0, none⟩)) w := by kernel_rfl
theorem s3na9 (w : World) : (isAgg 9).run Tryz.prog w = .ok false w := by kernel_rfl
set_option maxHeartbeats 2000000 in
theorem findFn1 (B : Base) (H : List Res) (w : World) (b1 b2 k m : Nat) (es : List Ent) (la : Ent) (p : Nat) (n : Int) (X : List (List Ent)) (ad : Option Addr) (c : Nat) (bvs : List Value) (key : List UInt8) (R : List Res) (hRH : ∀ r ∈ R, r ∈ H) (hp : Reads B R p 0 [.slice ad X.length c, .int .i64 n]) (hr : RdW B R ad bvs) (hbv : BlksAt B R X bvs) (hes : X[k]? = some es) (hm : es.length = m + 1) (hla : es[m]? = some la) (hv : Inv B (Res.cell b2 [.string ⟨key.toArray⟩] 9 :: Res.cell b1 [.pointer (some ⟨p, 0, none⟩)] 62 :: H) w) :
  Calls Tryz.prog 70 #[.int .i64 (k : Int), .pointer (some ⟨b1, 0, none⟩), .pointer (some ⟨b2, 0, none⟩)] w fun e w' => e = .returned (.bool (!Op.bytesLess la.1 key)) ∧ Inv B (Res.cell b2 [.string ⟨key.toArray⟩] 9 :: Res.cell b1 [.pointer (some ⟨p, 0, none⟩)] 62 :: H) w' := by
 have hkX : k < X.length := (List.getElem?_eq_some_iff.1 hes).1
 refine cW Tryz.func70 rfl Tryz.ntmps70 ?_
 simp only [al]
 refine sK fun _ k1 => rL (xA (.bool false) rfl ?_)
 simp only [zP, po]
 refine wK k1 (sK fun _ k2 => ?_)
 obtain ⟨ead, ec, hbvead, hokead, hreead⟩ := hbv.2 _ _ hes
 obtain ⟨bb, bo, had, hrbead⟩ := row1_reads hr hbvead
 subst had
 refine rL (xL _ rfl (run_load1 s3na62 (hv.load 1 0 rfl rfl)) ?_)
 refine xG (.pointer (some ⟨p, 0, none⟩)) rfl (ex_nil rfl rfl) (xF (.pointer (some ⟨p, 0, none⟩)) rfl (s3fa89_0 _ _ _) ?_)
 simp only [zP, po]
 refine xL _ rfl (run_load1 s3na87 (hp _ _ _ (Base.Le.refl _) (fun r9 hr9 => (List.mem_cons_of_mem _ (List.mem_cons_of_mem _ (hRH r9 hr9)))) hv 0 _ rfl)) (xM (.int .i64 (k : Int)) rfl ?_)
 refine xG (.pointer (some ⟨bb, bo + k, none⟩)) rfl (ex_index rfl rfl rfl (run_idx1 (k := k) Tryz.underlying87 s3es87 (by omega))) ?_
 simp only [zP, po]
 refine xL _ rfl (run_load1 s3na101 (hrbead _ _ _ (Base.Le.refl _) (fun r9 hr9 => (List.mem_cons_of_mem _ (List.mem_cons_of_mem _ (hRH r9 hr9)))) hv 0 _ rfl)) (xA (.slice ead es.length ec) rfl ?_)
 simp only [zP, po]
 refine wK k2 (sK fun _ k3 => ?_)
 obtain ⟨eb, eo, had2, hrdeb⟩ := ent_reads hreead hla
 subst had2
 refine rW mixed [] [0,1,2,3,4,5,6,7,8,9] 22 rfl (by kernel_rfl) hv ?_
 simp only [qm, opAt]
 refine dM (.slice (some ⟨eb, eo, none⟩) es.length ec) rfl (dM (.slice (some ⟨eb, eo, none⟩) es.length ec) rfl ?_)
 refine dG (.int .i64 (es.length : Int)) rfl (ex_len0 Tryz.underlying101 rfl rfl) ?_
 simp only [zP, po]
 refine dG (.int .i64 (m : Int)) rfl (ex_sub rfl rfl rfl (by rw [hm, i64_in (by have := hokead.max; unfold maxLen at this; have := hokead.le; omega)]; omega)) (dG (.pointer (some ⟨eb, eo + m * 2, none⟩)) rfl (ex_index rfl rfl rfl (run_idx (k := m) Tryz.underlying101 s3es101 (by omega))) ?_)
 refine dG (.pointer (some ⟨eb, eo + m * 2, none⟩)) rfl (ex_field rfl rfl (s3fa100_0 _ _ _)) ?_
 simp only [zP, po]
 refine dL _ rfl (fun hv => ex_load rfl rfl (run_load1 s3na9 (hrdeb _ _ _ (Base.Le.refl _) (fun r9 hr9 => (List.mem_cons_of_mem _ (List.mem_cons_of_mem _ (hRH r9 hr9)))) hv 0 _ rfl))) (dL _ rfl (fun hv => ex_load rfl rfl (run_load1 s3na9 (hv.load 0 0 rfl rfl))) ?_)
 refine dG (.bool (!Op.bytesLess la.1 key)) rfl (ex_sgeq rfl rfl rfl rfl) ?_
 simp only [zP, po]
 refine dA (.bool (!Op.bytesLess la.1 key)) rfl (dE fun w4 hv => ?_)
 simp only [zP, po]
 refine tK k3 (rR ?_)
 refine bR rfl rfl (⟨rfl, hv⟩)
set_option maxHeartbeats 2000000 in
theorem findFn2 (B : Base) (H : List Res) (w : World) (b2 b3 k : Nat) (es : List Ent) (f : Ent) (key : List UInt8) (ead : Option Addr) (ec : Nat) (R : List Res) (hRH : ∀ r ∈ R, r ∈ H) (hre : RdW B R ead (entCells es)) (hf : es[k]? = some f) (hv : Inv B (Res.cell b3 [.slice ead es.length ec] 101 :: Res.cell b2 [.string ⟨key.toArray⟩] 9 :: H) w) :
  Calls Tryz.prog 71 #[.int .i64 (k : Int), .pointer (some ⟨b3, 0, none⟩), .pointer (some ⟨b2, 0, none⟩)] w fun e w' => e = .returned (.bool (!Op.bytesLess f.1 key)) ∧ Inv B (Res.cell b3 [.slice ead es.length ec] 101 :: Res.cell b2 [.string ⟨key.toArray⟩] 9 :: H) w' := by
 have hkl : k < es.length := (List.getElem?_eq_some_iff.1 hf).1
 refine cW Tryz.func71 rfl Tryz.ntmps71 ?_
 simp only [al]
 refine sK fun _ k1 => rL (xA (.bool false) rfl ?_)
 simp only [zP, po]
 refine wK k1 (sK fun _ k2 => ?_)
 obtain ⟨eb, eo, had2, hrdeb⟩ := ent_reads hre hf
 subst had2
 refine rW mixed [] [0,1,2,3,4,5,6,7] 12 rfl (by kernel_rfl) hv ?_
 simp only [qm, opAt]
 refine dL _ rfl (fun hv => ex_load rfl rfl (run_load1 s3na101 (hv.load 0 0 rfl rfl))) (dM (.int .i64 (k : Int)) rfl ?_)
 refine dG (.pointer (some ⟨eb, eo + k * 2, none⟩)) rfl (ex_index rfl rfl rfl (run_idx (k := k) Tryz.underlying101 s3es101 (by omega))) ?_
 simp only [zP, po]
 refine dG (.pointer (some ⟨eb, eo + k * 2, none⟩)) rfl (ex_field rfl rfl (s3fa100_0 _ _ _)) (dL _ rfl (fun hv => ex_load rfl rfl (run_load1 s3na9 (hrdeb _ _ _ (Base.Le.refl _) (fun r9 hr9 => (List.mem_cons_of_mem _ (List.mem_cons_of_mem _ (hRH r9 hr9)))) hv 0 _ rfl))) ?_)
 refine dL _ rfl (fun hv => ex_load rfl rfl (run_load1 s3na9 (hv.load 1 0 rfl rfl))) ?_
 simp only [zP, po]
 refine dG (.bool (!Op.bytesLess f.1 key)) rfl (ex_sgeq rfl rfl rfl rfl) (dA (.bool (!Op.bytesLess f.1 key)) rfl ?_)
 refine dE fun w3 hv => ?_
 simp only [zP, po]
 refine tK k2 (rR ?_)
 refine bR rfl rfl (⟨rfl, hv⟩)
theorem last_of {α : Type} {l : List α} (h : l ≠ []) : ∃ (m : Nat) (x : α), l.length = m + 1 ∧ l[m]? = some x ∧ l.getLast? = some x := by
 have h0 : 0 < l.length := List.length_pos_iff.2 h
 refine ⟨l.length - 1, l[l.length - 1], by omega, List.getElem?_eq_getElem (by omega), ?_⟩
 rw [List.getLast?_eq_getElem?, List.getElem?_eq_getElem (by omega)]
theorem s3callable70 : Callable Tryz.prog 70 := ⟨_, Tryz.func70, by kernel_rfl, by kernel_rfl⟩
theorem s3al101 (w : World) : (Instr.alloc 101 true (.tuple #[])).run Tryz.prog w = .ok (.pointer (some ⟨w.heap.size, 0, none⟩)) (w.alloc (.cells ([.slice none 0 0] : List Value).toArray 101)) := by kernel_rfl
theorem s3sz101 : (Tryz.prog.info? 101).map (·.size) = some 1 := by kernel_rfl
theorem s3callable71 : Callable Tryz.prog 71 := ⟨_, Tryz.func71, by kernel_rfl, by kernel_rfl⟩
set_option maxHeartbeats 2000000 in
theorem ixFind (B : Base) (H : List Res) (w : World) (p : Nat) (n : Int) (X : List (List Ent)) (ad : Option Addr) (c : Nat) (bvs : List Value) (key : List UInt8) (R : List Res) (hRH : ∀ r ∈ R, r ∈ H) (hp : Reads B R p 0 [.slice ad X.length c, .int .i64 n]) (hr : RdW B R ad bvs) (hbv : BlksAt B R X bvs) (hx : IxOk X) (hv : Inv B H w) :
  Calls Tryz.prog 51 #[.pointer (some ⟨p, 0, none⟩), .string ⟨key.toArray⟩] w fun e w' => ∃ (i j : Nat) (ok : Bool), FindI X key i j ok ∧ e = .returned (.tuple #[.int .i64 (i : Int), .int .i64 (j : Int), .bool ok]) ∧ Inv B H w' := by
 refine cW Tryz.func51 rfl Tryz.ntmps51 ?_
 simp only [al]
 refine sK fun _ k1 => rL (sl_box (L := [.pointer (some ⟨p, 0, none⟩)]) tV (wn rfl) rfl rfl hv (fun w => by kernel_rfl) (fun b2 w3 hv => ?_))
 refine sl_box (L := [.string ⟨key.toArray⟩]) tV (wn rfl) rfl rfl hv (fun w => by kernel_rfl) (fun b4 w5 hv => ?_)
 refine xA (.int .i64 0) rfl ?_
 simp only [zP, po]
 refine xA (.int .i64 0) rfl (xA (.bool false) rfl ?_)
 simp only [zP, po]
 refine wK k1 (sK fun _ k6 => ?_)
 refine rL (xL _ rfl (run_load1 s3na62 (hv.load 1 0 rfl rfl)) ?_)
 refine xG (.pointer (some ⟨p, 0, none⟩)) rfl (ex_nil rfl rfl) (xF (.pointer (some ⟨p, 0, none⟩)) rfl (s3fa89_0 _ _ _) ?_)
 simp only [zP, po]
 refine xL _ rfl (run_load1 s3na87 (hp _ _ _ (Base.Le.refl _) (fun r9 hr9 => (List.mem_cons_of_mem _ (List.mem_cons_of_mem _ (hRH r9 hr9)))) hv 0 _ rfl)) (xG (.int .i64 (X.length : Int)) rfl (ex_len0 Tryz.underlying87 rfl rfl) ?_)
 refine xG (.func (.func 70) #[] #[.pointer (some ⟨b2, 0, none⟩), .pointer (some ⟨b4, 0, none⟩)]) rfl (ex_makeFunc (c' := #[.pointer (some ⟨b2, 0, none⟩), .pointer (some ⟨b4, 0, none⟩)]) rfl (by simp only [List.map_toArray, List.map_nil]) (by simp only [List.map_toArray, List.map_cons, List.map_nil]; rfl)) ?_
 simp only [zP, po]
 have hfn : ∀ k, k < X.length → ∀ w, Inv B (Res.cell b4 [.string ⟨key.toArray⟩] 9 :: Res.cell b2 [.pointer (some ⟨p, 0, none⟩)] 62 :: H) w → Calls Tryz.prog 70 (#[.int .i64 (k : Int)] ++ #[.pointer (some ⟨b2, 0, none⟩), .pointer (some ⟨b4, 0, none⟩)]) w fun e w' => e = .returned (.bool ((X[k]?.map fun es => (es.getLast?.map fun la => !Op.bytesLess la.1 key).getD false).getD false)) ∧ Inv B (Res.cell b4 [.string ⟨key.toArray⟩] 9 :: Res.cell b2 [.pointer (some ⟨p, 0, none⟩)] 62 :: H) w' := fun k hk w hv => by
  obtain ⟨es, hes⟩ : ∃ es, X[k]? = some es := ⟨_, List.getElem?_eq_getElem hk⟩
  obtain ⟨m, la, hm, hla, hgl⟩ := last_of (hx.ne es (List.mem_of_getElem? hes))
  rw [hes]
  simp only [Option.map_some, Option.getD_some, hgl]
  exact findFn1 B H w _ _ k m es la p n X ad c bvs key R hRH hp hr hbv hes hm hla hv
 refine xC s2callable69 rfl ((sortSearch B _ _ 70 _ X.length _ s3callable70 hfn (by have := hx.lenX; omega) hv).mono ?_) rfl
 rintro e w8 ⟨i7, hi1, hi2, hi3, rfl, hv⟩
 refine ⟨_, rfl, ?_⟩
 refine xA (.int .i64 (i7 : Int)) rfl ?_
 simp only [zP, po]
 refine wK k6 (sK fun _ k9 => ?_)
 refine sK fun _ k10 => rL (xM (.int .i64 (i7 : Int)) rfl ?_)
 refine xL _ rfl (run_load1 s3na62 (hv.load 1 0 rfl rfl)) (xG (.pointer (some ⟨p, 0, none⟩)) rfl (ex_nil rfl rfl) ?_)
 simp only [zP, po]
 refine xF (.pointer (some ⟨p, 0, none⟩)) rfl (s3fa89_0 _ _ _) (xL _ rfl (run_load1 s3na87 (hp _ _ _ (Base.Le.refl _) (fun r9 hr9 => (List.mem_cons_of_mem _ (List.mem_cons_of_mem _ (hRH r9 hr9)))) hv 0 _ rfl)) ?_)
 refine xG (.int .i64 (X.length : Int)) rfl (ex_len0 Tryz.underlying87 rfl rfl) ?_
 simp only [zP, po]
 by_cases hb11 : (i7 : Int) = (X.length : Int)
 ·refine xG (.bool true) rfl (ex_eql rfl rfl rfl (decide_eq_true hb11)) ?_
  simp only [zP, po]
  refine wK k10 (cT rfl ?_)
  refine sK fun _ k12 => rL (xM (.int .i64 (i7 : Int)) rfl ?_)
  refine xA (.int .i64 (i7 : Int)) rfl (xA (.int .i64 0) rfl ?_)
  simp only [zP, po]
  refine xA (.bool false) rfl ?_
  simp only [zP, po]
  refine wK k12 (rR ?_)
  refine tR (bodyPost_ret (results_tmp3 rfl _ _ _) rfl ?_)
  refine ⟨i7, 0, false, ⟨hi1, fun es he => ?_, fun k es hk he => ?_, fun _ => ⟨rfl, rfl⟩, fun es he => ?_⟩, rfl, (hv.sub (List.Sublist.cons _ (List.Sublist.cons _ (List.Sublist.refl _))))⟩
  ·have := (List.getElem?_eq_some_iff.1 he).1
   omega
  ·obtain ⟨m, la, hm, hla, hgl⟩ := last_of (hx.ne es (List.mem_of_getElem? he))
   have := hi3 k hk
   rw [he] at this
   exact ⟨la, hgl, by simpa [hgl] using this⟩
  have := (List.getElem?_eq_some_iff.1 he).1
  omega
 refine xG (.bool false) rfl (ex_eql rfl rfl rfl (decide_eq_false hb11)) ?_
 simp only [zP, po]
 refine wK k10 (cF rfl ?_)
 refine kS (tK k9 ?_)
 refine sK fun _ k13 => ?_
 obtain ⟨es, hes⟩ : ∃ es, X[i7]? = some es := ⟨_, List.getElem?_eq_getElem (by omega)⟩
 obtain ⟨m, la, hm, hla, hgl⟩ := last_of (hx.ne es (List.mem_of_getElem? hes))
 have hlast : Op.bytesLess la.1 key = false := by
  have := hi2 (by omega)
  rw [hes] at this
  simpa [hgl] using this
 obtain ⟨ead, ec, hbvead, hokead, hreead⟩ := hbv.2 _ _ hes
 obtain ⟨bb, bo, had, hrbead⟩ := row1_reads hr hbvead
 subst had
 refine rL (xL _ rfl (run_load1 s3na62 (hv.load 1 0 rfl rfl)) ?_)
 refine xG (.pointer (some ⟨p, 0, none⟩)) rfl (ex_nil rfl rfl) (xF (.pointer (some ⟨p, 0, none⟩)) rfl (s3fa89_0 _ _ _) ?_)
 simp only [zP, po]
 refine xL _ rfl (run_load1 s3na87 (hp _ _ _ (Base.Le.refl _) (fun r9 hr9 => (List.mem_cons_of_mem _ (List.mem_cons_of_mem _ (hRH r9 hr9)))) hv 0 _ rfl)) (xM (.int .i64 (i7 : Int)) rfl ?_)
 refine xG (.pointer (some ⟨bb, bo + i7, none⟩)) rfl (ex_index rfl rfl rfl (run_idx1 (k := i7) Tryz.underlying87 s3es87 (by omega))) ?_
 simp only [zP, po]
 refine xL _ rfl (run_load1 s3na101 (hrbead _ _ _ (Base.Le.refl _) (fun r9 hr9 => (List.mem_cons_of_mem _ (List.mem_cons_of_mem _ (hRH r9 hr9)))) hv 0 _ rfl)) (sl_alloc tV (wn rfl) rfl hv s3al101 (fun b14 w15 hv => ?_))
 refine xV 0 (.slice ead es.length ec) rfl hv s3sz101 rfl rfl (fun w16 hv => ?_)
 simp only [zO, sp] at hv
 simp only [zP, po]
 refine wK k13 (sK fun _ k17 => ?_)
 refine rL (xL _ rfl (run_load1 s3na101 (hv.load 0 0 rfl rfl)) ?_)
 refine xG (.int .i64 (es.length : Int)) rfl (ex_len0 Tryz.underlying101 rfl rfl) (xG (.func (.func 71) #[] #[.pointer (some ⟨b14, 0, none⟩), .pointer (some ⟨b4, 0, none⟩)]) rfl (ex_makeFunc (c' := #[.pointer (some ⟨b14, 0, none⟩), .pointer (some ⟨b4, 0, none⟩)]) rfl (by simp only [List.map_toArray, List.map_nil]) (by simp only [List.map_toArray, List.map_cons, List.map_nil]; rfl)) ?_)
 simp only [zP, po]
 have hfn2 : ∀ k, k < es.length → ∀ w, Inv B (Res.cell b14 [.slice ead es.length ec] 101 :: Res.cell b4 [.string ⟨key.toArray⟩] 9 :: Res.cell b2 [.pointer (some ⟨p, 0, none⟩)] 62 :: H) w → Calls Tryz.prog 71 (#[.int .i64 (k : Int)] ++ #[.pointer (some ⟨b14, 0, none⟩), .pointer (some ⟨b4, 0, none⟩)]) w fun e w' => e = .returned (.bool ((es[k]?.map fun f => !Op.bytesLess f.1 key).getD false)) ∧ Inv B (Res.cell b14 [.slice ead es.length ec] 101 :: Res.cell b4 [.string ⟨key.toArray⟩] 9 :: Res.cell b2 [.pointer (some ⟨p, 0, none⟩)] 62 :: H) w' := fun k hk w hv => by
  obtain ⟨f, hf⟩ : ∃ f, es[k]? = some f := ⟨_, List.getElem?_eq_getElem hk⟩
  rw [hf]
  exact findFn2 B _ w _ _ k es f key ead ec R (fun r9 hr9 => List.mem_cons_of_mem _ (hRH r9 hr9)) hreead hf hv
 refine xC s2callable69 rfl ((sortSearch B _ _ 71 _ es.length _ s3callable71 hfn2 (by have := hx.lenE es (List.mem_of_getElem? hes); omega) hv).mono ?_) rfl
 rintro e w19 ⟨i18, hj1, hj2, hj3, rfl, hv⟩
 refine ⟨_, rfl, ?_⟩
 refine xA (.int .i64 (i18 : Int)) rfl ?_
 simp only [zP, po]
 refine wK k17 (sK fun _ k20 => ?_)
 have hjl : i18 < es.length := by
  rcases Nat.lt_or_ge i18 es.length with h | h
  ·exact h
  exfalso
  have := hj3 m (by omega)
  rw [hla] at this
  simp [hlast] at this
 obtain ⟨f, hf⟩ : ∃ f, es[i18]? = some f := ⟨_, List.getElem?_eq_getElem hjl⟩
 obtain ⟨eb, eo, had2, hrdeb⟩ := ent_reads hreead hf
 subst had2
 refine rW mixed [] [0,1,2,3,4,5,6,7,8,9,10,11] 45 rfl (by kernel_rfl) hv ?_
 simp only [qm, opAt]
 refine dM (.int .i64 (i7 : Int)) rfl (dM (.int .i64 (i18 : Int)) rfl ?_)
 refine dL _ rfl (fun hv => ex_load rfl rfl (run_load1 s3na101 (hv.load 0 0 rfl rfl))) ?_
 simp only [zP, po]
 refine dM (.int .i64 (i18 : Int)) rfl (dG (.pointer (some ⟨eb, eo + i18 * 2, none⟩)) rfl (ex_index rfl rfl rfl (run_idx (k := i18) Tryz.underlying101 s3es101 (by omega))) ?_)
 refine dG (.pointer (some ⟨eb, eo + i18 * 2, none⟩)) rfl (ex_field rfl rfl (s3fa100_0 _ _ _)) ?_
 simp only [zP, po]
 refine dL _ rfl (fun hv => ex_load rfl rfl (run_load1 s3na9 (hrdeb _ _ _ (Base.Le.refl _) (fun r9 hr9 => (List.mem_cons_of_mem _ (List.mem_cons_of_mem _ (List.mem_cons_of_mem _ (hRH r9 hr9))))) hv 0 _ rfl))) (dL _ rfl (fun hv => ex_load rfl rfl (run_load1 s3na9 (hv.load 1 0 rfl rfl))) ?_)
 refine dG (.bool (decide (f.1 = key))) rfl (ex_seql rfl rfl rfl rfl) ?_
 simp only [zP, po]
 refine dA (.int .i64 (i7 : Int)) rfl (dA (.int .i64 (i18 : Int)) rfl ?_)
 refine dA (.bool (decide (f.1 = key))) rfl (dE fun w21 hv => ?_)
 simp only [zP, po]
 refine tK k20 (rR ?_)
 refine bodyPost_ret (results_tmp3 rfl _ _ _) rfl (⟨i7, i18, decide (f.1 = key), ⟨hi1, fun es2 he => ?_, fun k es2 hk he => ?_, fun h => by omega, fun es2 he => ?_⟩, rfl, (hv.sub (List.Sublist.cons _ (List.Sublist.cons _ (List.Sublist.cons _ (List.Sublist.refl _)))))⟩)
 ·rw [hes] at he; cases he
  exact ⟨la, hgl, hlast⟩
 ·obtain ⟨m, la, hm, hla, hgl⟩ := last_of (hx.ne es2 (List.mem_of_getElem? he))
  have := hi3 k hk
  rw [he] at this
  exact ⟨la, hgl, by simpa [hgl] using this⟩
 rw [hes] at he; cases he
 refine ⟨f, hf, ?_, rfl, fun k f2 hk hf2 => ?_⟩
 ·have := hj2 hjl
  rw [hf] at this
  simpa using this
 have := hj3 k hk
 rw [hf2] at this
 simpa using this
theorem s3callable51 : Callable Tryz.prog 51 := ⟨_, Tryz.func51, by kernel_rfl, by kernel_rfl⟩
theorem s3fa100_1 (w : World) (b o : Nat) : (Instr.fieldAt 100 (.pointer (some ⟨b, o, none⟩)) 1).run Tryz.prog w = .ok (.pointer (some ⟨b, o + 1, none⟩)) w := by kernel_rfl
theorem s3callable52 : Callable Tryz.prog 52 := ⟨_, Tryz.func52, by kernel_rfl, by kernel_rfl⟩
set_option maxHeartbeats 2000000 in
theorem ixGet (B : Base) (H : List Res) (w : World) (p : Nat) (n : Int) (X : List (List Ent)) (ad : Option Addr) (c : Nat) (bvs : List Value) (key : List UInt8) (R : List Res) (hRH : ∀ r ∈ R, r ∈ H) (hp : Reads B R p 0 [.slice ad X.length c, .int .i64 n]) (hr : RdW B R ad bvs) (hbv : BlksAt B R X bvs) (M : Model) (hx : IxM B X M) (hv : Inv B H w) :
  Calls Tryz.prog 28 #[.pointer (some ⟨p, 0, none⟩), .string ⟨key.toArray⟩] w fun e w' => ∃ C v', B.Le C ∧ e = .returned v' ∧ ChainB C v' (getM M key) ∧ Inv C H w' := by
 refine cW Tryz.func28 rfl Tryz.ntmps28 ?_
 simp only [al]
 refine sK fun _ k1 => rL (xA (.slice none 0 0) rfl ?_)
 simp only [zP, po]
 refine wK k1 (sK fun _ k2 => ?_)
 refine rL (xM (.pointer (some ⟨p, 0, none⟩)) rfl ?_)
 refine xM (.string ⟨key.toArray⟩) rfl (xC s3callable51 rfl ((ixFind B _ _ p n X ad c bvs key R hRH hp hr hbv hx.ok hv).mono ?_) rfl)
 rintro e w3 ⟨i, j, ok, hfi, rfl, hv⟩
 refine ⟨_, rfl, ?_⟩
 simp only [zP, po]
 refine xM (.tuple #[.int .i64 (i : Int), .int .i64 (j : Int), .bool ok]) rfl (xG (.int .i64 (i : Int)) rfl (ex_extract rfl rfl rfl) ?_)
 refine xG (.int .i64 (j : Int)) rfl (ex_extract rfl rfl rfl) ?_
 simp only [zP, po]
 refine xG (.bool ok) rfl (ex_extract rfl rfl rfl) (xA (.int .i64 (i : Int)) rfl ?_)
 refine xA (.int .i64 (j : Int)) rfl ?_
 simp only [zP, po]
 refine xA (.bool ok) rfl ?_
 simp only [zP, po]
 refine wK k2 (sK fun _ k4 => ?_)
 refine sK fun _ k5 => rL (xM (.bool ok) rfl ?_)
 refine xG (.bool (!ok)) rfl (ex_not rfl rfl rfl) ?_
 simp only [zP, po]
 refine wK k5 (wpIn_cond_split (t := !ok) rfl (fun hc6 => ?_) (fun hc6 => ?_))
 ·refine sK fun _ k7 => rL (xA (.slice none 0 0) rfl ?_)
  simp only [zP, po]
  refine wK k7 (rR ?_)
  refine tR (bR rfl rfl ?_)
  have hok : ok = false := by simpa using hc6
  subst hok
  exact ⟨B, _, Base.Le.refl _, rfl, by rw [hx.none hfi]; exact chain_nil B, hv⟩
 refine kS (tK k4 ?_)
 refine sK fun _ k8 => ?_
 have hok : ok = true := by simpa using hc6
 subst hok
 have hilt := hfi.lt
 obtain ⟨es, hes⟩ : ∃ es, X[i]? = some es := ⟨_, List.getElem?_eq_getElem hilt⟩
 obtain ⟨f, hf, -, -, -⟩ := hfi.at_ es hes
 have hjl : j < es.length := (List.getElem?_eq_some_iff.1 hf).1
 have hch := hx.some hfi hes hf
 obtain ⟨ead, ec, hbvead, hokead, hreead⟩ := hbv.2 _ _ hes
 obtain ⟨bb, bo, had, hrbead⟩ := row1_reads hr hbvead
 subst had
 obtain ⟨eb, eo, had2, hrdeb⟩ := ent_reads hreead hf
 subst had2
 refine rL (xM (.pointer (some ⟨p, 0, none⟩)) rfl ?_)
 refine xG (.pointer (some ⟨p, 0, none⟩)) rfl (ex_nil rfl rfl) (xF (.pointer (some ⟨p, 0, none⟩)) rfl (s3fa89_0 _ _ _) ?_)
 simp only [zP, po]
 refine xL _ rfl (run_load1 s3na87 (hp _ _ _ (Base.Le.refl _) (fun r9 hr9 => (hRH r9 hr9)) hv 0 _ rfl)) (xM (.int .i64 (i : Int)) rfl ?_)
 refine xG (.pointer (some ⟨bb, bo + i, none⟩)) rfl (ex_index rfl rfl rfl (run_idx1 (k := i) Tryz.underlying87 s3es87 (by omega))) ?_
 simp only [zP, po]
 refine xL _ rfl (run_load1 s3na101 (hrbead _ _ _ (Base.Le.refl _) (fun r9 hr9 => (hRH r9 hr9)) hv 0 _ rfl)) (xM (.int .i64 (j : Int)) rfl ?_)
 refine xG (.pointer (some ⟨eb, eo + j * 2, none⟩)) rfl (ex_index rfl rfl rfl (run_idx (k := j) Tryz.underlying101 s3es101 (by omega))) ?_
 simp only [zP, po]
 refine xF (.pointer (some ⟨eb, eo + j * 2 + 1, none⟩)) rfl (s3fa100_1 _ _ _) (xL _ rfl (run_load1 s2na70 (hrdeb _ _ _ (Base.Le.refl _) (fun r9 hr9 => (hRH r9 hr9)) hv 1 _ rfl)) ?_)
 refine xC s3callable52 rfl ((indexClone _ _ _ f.2 (getM M key) hch (by have := hx.glen key; omega) hv).mono ?_) rfl
 rintro e w11 ⟨C9, q10, hC9, rfl, hq, hv⟩
 refine ⟨_, rfl, ?_⟩
 simp only [zP, po]
 refine xA q10 rfl ?_
 simp only [zP, po]
 refine wK k8 (rR ?_)
 refine bR rfl rfl (⟨_, q10, hC9, rfl, hq, hv⟩)
theorem s3fa89_1 (w : World) (b o : Nat) : (Instr.fieldAt 89 (.pointer (some ⟨b, o, none⟩)) 1).run Tryz.prog w = .ok (.pointer (some ⟨b, o + 1, none⟩)) w := by kernel_rfl
set_option maxHeartbeats 2000000 in
theorem ixLen (B : Base) (H : List Res) (w : World) (p : Nat) (n : Int) (v : Value) (R : List Res) (hRH : ∀ r ∈ R, r ∈ H) (hp : Reads B R p 0 [v, .int .i64 n]) (hv : Inv B H w) :
  Calls Tryz.prog 49 #[.pointer (some ⟨p, 0, none⟩)] w fun e w' => e = .returned (.int .i64 n) ∧ Inv B H w' := by
 refine cW Tryz.func49 rfl Tryz.ntmps49 ?_
 simp only [al]
 refine sK fun _ k1 => rL (xA (.int .i64 0) rfl ?_)
 simp only [zP, po]
 refine wK k1 (sK fun _ k2 => ?_)
 refine rL (xM (.pointer (some ⟨p, 0, none⟩)) rfl ?_)
 refine xG (.pointer (some ⟨p, 0, none⟩)) rfl (ex_nil rfl rfl) (xF (.pointer (some ⟨p, 1, none⟩)) rfl (s3fa89_1 _ _ _) ?_)
 simp only [zP, po]
 refine xL _ rfl (run_load1 s2na3 (hp _ _ _ (Base.Le.refl _) (fun r9 hr9 => (hRH r9 hr9)) hv 1 _ rfl)) (xA (.int .i64 n) rfl ?_)
 simp only [zP, po]
 refine wK k2 (rR ?_)
 refine bR rfl rfl (⟨rfl, hv⟩)
end Go.Proofs.YtffmbdagjpdieaaGreat
/- Rules for rows that are moved in place: slicing, copy, append of made elements, clear; loads and stores of a row's cells. -/
namespace Go.Pm
open Go.RowKit
section
variable {P : Program} {t e : TypeId} {w : World}
theorem run_fromAny {ad : Option Addr} {n c l size : Nat} (ht : P.underlying t = some (.slice (P.elem t))) (hs : ∀ w, (sizeOf (P.elem t)).run P w = .ok size w) (h1 : l ≤ n) :
  (Instr.sliceAt t (.slice ad n c) (some (.int .i64 (l : Int))) none none).run P w = .ok (sliced ad l n c size) w := by
 rw [run_sliceAt_slice w t _ _ _ _ ht, run_slice_l w t _ n c ht .i64 l (by omega) (by omega), hs]
 simp only [Result.andThen, Int.toNat_natCast]
theorem run_hi {g off n c h size : Nat} (ht : P.underlying t = some (.slice (P.elem t))) (hs : ∀ w, (sizeOf (P.elem t)).run P w = .ok size w) (h1 : h ≤ c) :
  (Instr.sliceAt t (.slice (some ⟨g, off, none⟩) n c) none (some (.int .i64 (h : Int))) none).run P w = .ok (.slice (some ⟨g, off, none⟩) h c) w := by
 rw [run_sliceAt_slice w t _ _ _ _ ht, run_slice_h w t _ n c ht .i64 h (by omega) (by omega), hs]
 simp only [Result.andThen, sliced, Int.toNat_natCast, Option.map_some, addr_add, Nat.zero_mul, Nat.add_zero, Nat.sub_zero, ite_self]
theorem run_copyN {dT el ty : TypeId} {g off dLen dCap k size : Nat} {pre mid post cs : List Value} {a : Addr} {sLen sCap : Nat} (hu : P.underlying dT = some (.slice el)) (hs : (P.info? el).map (·.size) = some size)
  (hb : Blk w g (pre ++ mid ++ post) e) (ho : pre.length = off) (hm : mid.length = cs.length) (hk : k = Nat.min sLen dLen) (hn : cs.length = k * size) (hsrc : Src w (some a) cs) (h1 : ∀ v ∈ cs, v.oneCell' = true) :
  (Builtin.copy_ #[dT, dT] ty #[.slice (some ⟨g, off, none⟩) dLen dCap, .slice (some a) sLen sCap]).run P w = .ok (.int .i64 (k : Int)) (setBlk w g (pre ++ cs ++ post)) := by
 subst ho
 have hl := run_loadCells_list (P := P) w a cs (fun j v hv => by
  obtain ⟨hj, rfl⟩ := List.getElem?_eq_some_iff.1 hv
  obtain ⟨b, off, ha, hc⟩ := hsrc j hj
  simp only [Option.some.injEq] at ha
  subst ha
  rw [addr_add]; exact hc)
 have hst := run_storeCells_at P g pre.length e cs 0 _ w hb (by simp; omega) h1
 have e1 : ((pre ++ mid ++ post).take (pre.length + 0)) ++ cs ++ ((pre ++ mid ++ post).drop (pre.length + 0 + cs.length)) = pre ++ cs ++ post := by
  rw [← hm, List.append_assoc pre mid post]
  simp
 rw [hn] at hl
 obtain ⟨i, hi, hsz⟩ := Option.map_eq_some_iff.1 hs
 have hst' : (storeCells ⟨g, pre.length, none⟩ cs 0).run P w = .ok () (setBlk w g (pre ++ cs ++ post)) := by
  rw [hst]
  simp only [setBlk]
  rw [e1]
 simp [Builtin.copy_, run_underlying hu, Builtin.lenOf, Builtin.firstCells, sizeOf, typeInfo, hi, hsz, ← hk, hl, hst', goInt]
theorem overlaps_cells {tS tR : TypeId} {a b oa ob la ca lb cb size : Nat} {LA LB : List Value} {tA tB : TypeId} (ht : P.underlying tS = some (.slice e)) (hz : ∀ w, (sizeOf e).run P w = .ok size w) (hA : Blk w a LA tA) (hB : Blk w b LB tB) (hne : a ≠ b) (hLB : LB ≠ []) :
  (Extern.SlicesOverlaps.overlaps #[tS, tS] #[tR] #[.slice (some ⟨a, oa, none⟩) la ca, .slice (some ⟨b, ob, none⟩) lb cb]).run P w = .ok (.bool false) w := by
 refine Lib.run_overlaps_apart w tS tR e ht size hz ⟨a, oa, none⟩ ⟨b, ob, none⟩ la ca lb cb hne tA tB LA.length LB.length ?_ ?_ (fun h => hLB (List.eq_nil_of_length_eq_zero h)) (hA.free _) (hA.free _)
 ·simp only [World.shape?, show w.heap[a]? = _ from hA]; simp
 simp only [World.shape?, show w.heap[b]? = _ from hB]; simp
end
theorem row_load {w : World} {e : TypeId} {size n c b j : Nat} {xs : List Value} {v : Value} (h : w.ownsRow 0 e size (.slice (some ⟨b, 0, none⟩) n c) n xs) (hj : xs[j]? = some v) : w.cell? ⟨b, 0 + j, none⟩ = some v := by
 rcases h.2 with ⟨h1, -⟩ | ⟨g, cap, cur, h1, -, hg, -, -, -, htake⟩
 ·cases h1
 simp only [Value.slice.injEq, Option.some.injEq, Addr.mk.injEq] at h1
 obtain ⟨⟨rfl, -, -⟩, -, -⟩ := h1
 rw [cell_of_row w b (0 + j) cur e (0, 0) hg, Nat.zero_add]
 have hjl : j < n * size := by have := (List.getElem?_eq_some_iff.1 hj).1; have := h.1; omega
 rw [← htake, List.getElem?_take_of_lt hjl] at hj
 rw [← Array.getElem?_toList]; exact hj
theorem Src.drop {w : World} {b off : Nat} {xs : List Value} (h : Src w (some ⟨b, off, none⟩) xs) (k : Nat) : Src w (some ⟨b, off + k, none⟩) (xs.drop k) := fun i hi => by
 rw [List.length_drop] at hi
 obtain ⟨b', off', h1, h2⟩ := h (k + i) (by omega)
 cases h1
 refine ⟨b, off + k, rfl, ?_⟩
 rw [List.getElem_drop, Nat.add_assoc]
 exact h2
theorem row_some {w : World} {e : TypeId} {size n c : Nat} {ad : Option Addr} {xs : List Value} (h : w.ownsRow 0 e size (.slice ad n c) n xs) (hn : 0 < n) : ∃ b, ad = some ⟨b, 0, none⟩ := by
 rcases h.2 with ⟨-, h2⟩ | ⟨g, cap, cur, h1, -⟩
 ·omega
 simp only [Value.slice.injEq] at h1
 exact ⟨g, h1.1⟩
theorem rdW_row {B : Base} {e : TypeId} {size n c b : Nat} {xs : List Value} : RdW B [Res.row e size (.slice (some ⟨b, 0, none⟩) n c) n xs] (some ⟨b, 0, none⟩) xs := fun i hi =>
 ⟨b, 0, rfl, fun _ _ _ _ hR hv => row_load (hv.own _ (hR _ (List.mem_singleton.2 rfl))) (List.getElem?_eq_getElem hi)⟩
theorem rdW_cell {B : Base} {b : Nat} {L : List Value} {t : TypeId} : RdW B [Res.cell b L t] (some ⟨b, 0, none⟩) L := fun i hi =>
 ⟨b, 0, rfl, fun _ _ _ _ hR hv => by rw [Blk.cell (hv.own _ (hR _ (List.mem_singleton.2 rfl)) : Blk _ b L t), Nat.zero_add, List.getElem?_eq_getElem hi]⟩
theorem RdW.drop {B : Base} {R : List Res} {b off : Nat} {xs : List Value} (h : RdW B R (some ⟨b, off, none⟩) xs) (k : Nat) : RdW B R (some ⟨b, off + k, none⟩) (xs.drop k) := fun i hi => by
 rw [List.length_drop] at hi
 obtain ⟨b', off', h1, h2⟩ := h (k + i) (by omega)
 cases h1
 refine ⟨b, off + k, rfl, fun C K w hB hR hv => ?_⟩
 rw [List.getElem_drop, Nat.add_assoc]
 exact h2 C K w hB hR hv
theorem Inv.ne2 {B : Base} {a b : Nat} {L M : List Value} {s t : TypeId} {H : List Res} {w : World} (hv : Inv B (Res.cell a L s :: Res.cell b M t :: H) w) : a ≠ b := fun e => by
 have hd := hv.dis
 simp only [List.flatMap_cons] at hd
 rw [e] at hd
 simp at hd
theorem Inv.storeRow {B : Base} {e : TypeId} {size n c b j : Nat} {xs : List Value} {v : Value} {H : List Res} {w : World} (hv : Inv B (Res.row e size (.slice (some ⟨b, 0, none⟩) n c) n xs :: H) w) (hj : j < xs.length) :
  ∃ L : List Value, Blk w b L e ∧ j < L.length ∧ Inv B (Res.row e size (.slice (some ⟨b, 0, none⟩) n c) n (xs.set j v) :: H) (setBlk w b (L.set j v)) := by
 have hlen := (hv.head : World.ownsRow _ _ _ _ _ _ _).1
 obtain ⟨L, h1, h2, h3, h4, hc⟩ := hv.rowCell
 have hle : n * size ≤ c * size := Nat.mul_le_mul_right _ h3
 refine ⟨L, hc.head, by omega, ?_⟩
 have := (hc.put (L.set j v)).cellRow (n := n) (c := c) (size := size) (by rw [List.length_set, h1]) h3 h4
 rw [List.take_set, h2] at this
 exact this
section
variable {F : Fence} {n : Nat} {P : Program} {ops : Array Oper} {Q : Exit → Act → World → Prop} {a : Act} {w : World} {rest : List Oper} {o : Oper} {v zv : Value} {B : Base} {H : List Res} {t e u : TypeId} {x y : Operand} {bytes size : Nat} {J : List Value → World → Prop} {vals : List Value}
theorem ex_cap0 {pa : Option Addr} {l c : Nat} (ht : P.underlying t = some (.slice e)) (ho : o.op = .call { callee := .builtin .cap, args := #[x], argTypes := #[t] }) (hx : a.eval x = .slice pa l c) : Ex P a o w (.int .i64 c) w := by
 unfold Ex; simp [execOp, ho, hx, resolve, invoke, builtin, Builtin.cap_, run_underlying ht, goInt]
theorem ex_extern {f : FuncId} {xs : Array Operand} {ts : Array TypeId} {args : Array Value} {w' : World} (ho : o.op = .call { callee := .value (.func f), args := xs, argTypes := ts }) (hx : xs.map a.eval = args) (hr : (callFunc f args).run P w = .ok (.value v) w') : Ex P a o w v w' := by
 have : execOp a.eval o = callFunc f (#[] ++ xs.map a.eval ++ #[]) := by
  obtain ⟨d, op, ty, pos, af, gd⟩ := o
  simp only at ho
  subst ho
  rfl
 unfold Ex
 rw [this, hx]
 simpa using hr
theorem sl_storeRow {b c m j : Nat} {xs : List Value} (hF : ∀ f, F.fn f) (hg : Region.wanted o (yielded ops a.tmps) = true) (ho : o.op = .store t x y) (hx : a.eval x = .pointer (some ⟨b, j, none⟩)) (hy : a.eval y = v) (hv : Inv B (Res.row e size (.slice (some ⟨b, 0, none⟩) m c) m xs :: H) w) (hz : (P.info? t).map (·.size) = some 1)
  (hj : j < xs.length) (hc : v.cells = #[v]) (h1 : v.oneCell' = true) (h : ∀ w', Inv B (Res.row e size (.slice (some ⟨b, 0, none⟩) m c) m (xs.set j v) :: H) w' → wpListIn F n P ops Q rest (a.put o.dst undef) w') : wpListIn F n P ops Q (o :: rest) a w := by
 obtain ⟨L, h2, h3, h4⟩ := hv.storeRow (v := v) hj
 exact wpi_exUG hF hg (by unfold isDefer; rw [ho]) (ex_store ho hx hy (run_store1 hz h2 h3 hc h1)) (h _ h4)
theorem mem_storeRow {b c m j : Nat} {xs : List Value} (hg : Region.wanted o (yielded ops a.tmps) = true) (ho : o.op = .store t x y) (hx : a.eval x = .pointer (some ⟨b, j, none⟩)) (hy : a.eval y = v) (hv : Inv B (Res.row e size (.slice (some ⟨b, 0, none⟩) m c) m xs :: H) w) (hz : (P.info? t).map (·.size) = some 1)
  (hj : j < xs.length) (hc : v.cells = #[v]) (h1 : v.oneCell' = true) (h : ∀ w', Inv B (Res.row e size (.slice (some ⟨b, 0, none⟩) m c) m (xs.set j v) :: H) w' → J (vals ++ [undef]) w') : StepMem P ops J Q o a w vals := by
 obtain ⟨L, h2, h3, h4⟩ := hv.storeRow (v := v) hj
 exact ExU.mem (ex_store ho hx hy (run_store1 hz h2 h3 hc h1)) hg (h _ h4)
theorem mem_rowAgg {L : List Value} (hg : Region.wanted o (yielded ops a.tmps) = true) (ho : o.op = .buildSlice t 1 #[(0, x)]) (hx : a.eval x = .agg L.toArray) (hv : Inv B H w) (E : Elem P t e zv size bytes) (hL : L.length = size) (hk : size * 1 ≤ 16777216)
  (h : ∀ b w', Inv B (Res.cell b L e :: H) w' → J (vals ++ [.slice (some ⟨b, 0, none⟩) 1 1]) w') : StepMem P ops J Q o a w vals :=
 Ex.mem (ex_row1 ho hx (run_row1 E L hL hk)) hg (h _ _ (hv.alloc L e))
theorem mem_row2 {v1 v2 : Value} (hg : Region.wanted o (yielded ops a.tmps) = true) (ho : o.op = .buildSlice t 2 #[(0, x), (1, y)]) (hx : a.eval x = v1) (hy : a.eval y = v2) (hv : Inv B H w)
  (hr : ∀ w, (Instr.buildSlice t 2 #[(0, v1), (1, v2)]).run P w = .ok (.slice (some ⟨w.heap.size, 0, none⟩) 2 2) (w.alloc (.cells [v1, v2].toArray e)))
  (h : ∀ b w', Inv B (Res.cell b [v1, v2] e :: H) w' → J (vals ++ [.slice (some ⟨b, 0, none⟩) 2 2]) w') : StepMem P ops J Q o a w vals :=
 Ex.mem (by unfold Ex; simp [execOp, ho, hx, hy, hr]) hg (h _ _ (hv.alloc [v1, v2] e))
theorem sl_copyAt (i : Nat) {g off dLen dCap k sLen sCap : Nat} {pre mid post cs : List Value} {ad : Addr} (hF : ∀ f, F.fn f) (hg : Region.wanted o (yielded ops a.tmps) = true) (ho : o.op = .call { callee := .builtin .copy, args := #[x, y], argTypes := #[t, t] }) (hx : a.eval x = .slice (some ⟨g, off, none⟩) dLen dCap) (hy : a.eval y = .slice (some ad) sLen sCap)
  (hu : P.underlying t = some (.slice u)) (hs : (P.info? u).map (·.size) = some size) (hv : Inv B H w) {L : List Value} (hi : H[i]? = some (Res.cell g L e)) (hL : L = pre ++ mid ++ post) (hoff : pre.length = off) (hm : mid.length = cs.length) (hk : k = Nat.min sLen dLen) (hn : cs.length = k * size) (hsrc : Src w (some ad) cs) (h1 : ∀ v ∈ cs, v.oneCell' = true)
  (h : ∀ w', Inv B (H.set i (Res.cell g (pre ++ cs ++ post) e)) w' → wpListIn F n P ops Q rest (a.put o.dst (.int .i64 (k : Int))) w') : wpListIn F n P ops Q (o :: rest) a w := by
 subst hL
 exact wpi_exG hF hg (by unfold isDefer; rw [ho]) (ex_copy ho hx hy (run_copyN hu hs (hv.get i hi) hoff hm hk hn hsrc h1)) (h _ (hv.putAt i hi _))
theorem mem_copyAt (i : Nat) {g off dLen dCap k sLen sCap : Nat} {pre mid post cs : List Value} {ad : Addr} (hg : Region.wanted o (yielded ops a.tmps) = true) (ho : o.op = .call { callee := .builtin .copy, args := #[x, y], argTypes := #[t, t] }) (hx : a.eval x = .slice (some ⟨g, off, none⟩) dLen dCap) (hy : a.eval y = .slice (some ad) sLen sCap)
  (hu : P.underlying t = some (.slice u)) (hs : (P.info? u).map (·.size) = some size) (hv : Inv B H w) {L : List Value} (hi : H[i]? = some (Res.cell g L e)) (hL : L = pre ++ mid ++ post) (hoff : pre.length = off) (hm : mid.length = cs.length) (hk : k = Nat.min sLen dLen) (hn : cs.length = k * size) (hsrc : Src w (some ad) cs) (h1 : ∀ v ∈ cs, v.oneCell' = true)
  (h : ∀ w', Inv B (H.set i (Res.cell g (pre ++ cs ++ post) e)) w' → J (vals ++ [.int .i64 (k : Int)]) w') : StepMem P ops J Q o a w vals := by
 subst hL
 exact Ex.mem (ex_copy ho hx hy (run_copyN hu hs (hv.get i hi) hoff hm hk hn hsrc h1)) hg (h _ (hv.putAt i hi _))
theorem sl_appendZ {g m c k : Nat} {olds : List Value} {kn : IntKind} (hF : ∀ f, F.fn f) (hg : Region.wanted o (yielded ops a.tmps) = true) (ho : o.op = .call { callee := .builtin .append, args := #[x, y], argTypes := #[t, u] }) (hx : a.eval x = .slice (some ⟨g, 0, none⟩) m c) (hy : a.eval y = .int .i64 (k : Int)) (E : Elem P t e zv size bytes) (hu : P.underlying u = some (.int kn))
  (hv : Inv B H w) (hlo : olds.length = m * size) (hsrc : Src w (some ⟨g, 0, none⟩) olds) (h0 : 0 < k) (hgr : c < m + k) (h63 : m + k ≤ 100000000) (hbytes : (m + k) * bytes ≤ 140737488355328)
  (h : ∀ b c' zs w', m + k ≤ c' → c' ≤ maxLen → zs.length = (c' - m) * size → Inv B (Res.cell b (olds ++ zs) e :: H) w' → wpListIn F n P ops Q rest (a.put o.dst (.slice (some ⟨b, 0, none⟩) (m + k) c')) w') : wpListIn F n P ops Q (o :: rest) a w := by
 obtain ⟨ht, ⟨i, hi, hz, hs, hby⟩, hzs, hpos⟩ := E
 have hholds : ∀ j v, olds[j]? = some v → w.drew.cell? ((⟨g, 0, none⟩ : Addr).add j) = some v := fun j v hj => by
  obtain ⟨hj1, rfl⟩ := List.getElem?_eq_some_iff.1 hj
  obtain ⟨b, off, ha, hc⟩ := hsrc j hj1
  cases ha
  rw [addr_add]; exact hc
 have hold := run_firstCells_some (P := P) w.drew i.size m ⟨g, 0, none⟩ m c olds (by rw [hs]; exact hlo) hholds
 have hcap := nextslicecap_le hgr
 have hbm : Builtin.nextslicecap (m + k) c * i.bytes ≤ 281474976710656 := by
  have := Nat.mul_le_mul_right i.bytes hcap
  rw [Nat.mul_assoc, hby] at this
  rw [hby]
  omega
 have hkb : k * i.bytes ≤ 281474976710656 := by
  have := Nat.mul_le_mul_right bytes (show k ≤ m + k by omega)
  rw [hby]; omega
 have hr := Lib.run_append_grow_zeros (P := P) w t u o.type e i zv .i64 kn ht hu hi hz (some ⟨g, 0, none⟩) m c olds hold k h0 (by omega) hgr (by omega) hkb hbm
 have hex : Ex P a o w _ _ := show (execOp a.eval o).run P w = _ by
  simp only [execOp, ho, resolve, invoke, builtin, List.map_toArray, List.map_cons, List.map_nil, hx, hy, Sem.run_bind, Sem.run_pure, Result.andThen_ok, hr]
  rfl
 have hge := grownCap_ge w (m + k) c e
 refine wpi_exG hF hg (by unfold isDefer; rw [ho]) hex (h w.drew.heap.size (grownCap w (m + k) c e) ((Builtin.zeroCells zv.cells k).toList ++ (Builtin.zeroCells zv.cells (grownCap w (m + k) c e - (m + k))).toList) _ hge (grownCap_le_maxLen w (m + k) c e (by unfold maxLen; omega)) ?_ ?_)
 ·simp only [List.length_append, Array.length_toList, size_zeroCells, hzs, ← Nat.add_mul]
  congr 1; omega
 have := hv.drew.alloc (olds ++ ((Builtin.zeroCells zv.cells k).toList ++ (Builtin.zeroCells zv.cells (grownCap w (m + k) c e - (m + k))).toList)) e
 rw [show (olds ++ ((Builtin.zeroCells zv.cells k).toList ++ (Builtin.zeroCells zv.cells (grownCap w (m + k) c e - (m + k))).toList)).toArray = olds.toArray ++ Builtin.zeroCells zv.cells k ++ Builtin.zeroCells zv.cells (grownCap w (m + k) c e - (m + k)) from Array.ext' (by simp)] at this
 exact this
theorem sl_clearAt (i : Nat) {g off m c : Nat} {pre mid post : List Value} (hF : ∀ f, F.fn f) (hg : Region.wanted o (yielded ops a.tmps) = true) (ho : o.op = .call { callee := .builtin .clear, args := #[x], argTypes := #[t] }) (hx : a.eval x = .slice (some ⟨g, off, none⟩) m c) (E : Elem P t u zv size bytes) (hz1 : ∀ v ∈ zv.cells.toList, v.oneCell' = true)
  (hv : Inv B H w) {L : List Value} (hi : H[i]? = some (Res.cell g L e)) (hL : L = pre ++ mid ++ post) (hoff : pre.length = off) (hm : mid.length = m * size)
  (h : ∀ zs w', zs.length = mid.length → Inv B (H.set i (Res.cell g (pre ++ zs ++ post) e)) w' → wpListIn F n P ops Q rest (a.put o.dst (.tuple #[])) w') : wpListIn F n P ops Q (o :: rest) a w := by
 subst hL hoff
 obtain ⟨ht, ⟨inf, hinf, hz, hs, hby⟩, hzs, hpos⟩ := E
 cases m with
 | zero =>
  have hmid : mid = [] := List.eq_nil_of_length_eq_zero (by simpa using hm)
  have hex : Ex P a o w (.tuple #[]) w := by
   unfold Ex; simp [execOp, ho, resolve, invoke, builtin, hx, Builtin.clear_, run_underlying ht]
  refine wpi_exG hF hg (by unfold isDefer; rw [ho]) hex (h mid w rfl ?_)
  have := hv.putAt i hi (pre ++ mid ++ post)
  have e1 : setBlk w g (pre ++ mid ++ post) = w := setRow_self w g _ e (0, 0) (hv.get i hi : Blk _ _ _ _)
  rw [e1] at this
  exact this
 | succ m =>
  have hzc : (Builtin.zeroCells zv.cells (m + 1)).toList.length = mid.length := by
   rw [Array.length_toList, size_zeroCells, hzs, hm]
  have hone : ∀ v ∈ (Builtin.zeroCells zv.cells (m + 1)).toList, v.oneCell' = true := by
   intro v hvm
   simp only [Builtin.zeroCells, Array.toList_map, List.mem_map] at hvm
   obtain ⟨k, -, rfl⟩ := hvm
   have hk : k % zv.cells.size < zv.cells.size := Nat.mod_lt _ (by omega)
   rw [getElem!_pos zv.cells (k % zv.cells.size) hk]
   exact hz1 _ (by simp)
  have hst := run_storeCells_at P g pre.length e (Builtin.zeroCells zv.cells (m + 1)).toList 0 _ w (hv.get i hi : Blk _ _ _ _) (by rw [hzc]; simp) hone
  have e1 : ((pre ++ mid ++ post).take (pre.length + 0)) ++ (Builtin.zeroCells zv.cells (m + 1)).toList ++ ((pre ++ mid ++ post).drop (pre.length + 0 + (Builtin.zeroCells zv.cells (m + 1)).toList.length)) = pre ++ (Builtin.zeroCells zv.cells (m + 1)).toList ++ post := by
   rw [hzc, List.append_assoc pre mid post]
   simp
  have hst' : (storeCells ⟨g, pre.length, none⟩ (Builtin.zeroCells zv.cells (m + 1)).toList 0).run P w = .ok () (setBlk w g (pre ++ (Builtin.zeroCells zv.cells (m + 1)).toList ++ post)) := by
   rw [hst]
   simp only [setBlk]
   rw [e1]
  have hex : Ex P a o w (.tuple #[]) (setBlk w g (pre ++ (Builtin.zeroCells zv.cells (m + 1)).toList ++ post)) := by
   unfold Ex
   simp [execOp, ho, resolve, invoke, builtin, hx, Builtin.clear_, run_underlying ht, zeroValue, typeInfo, hinf, hz, hst']
  exact wpi_exG hF hg (by unfold isDefer; rw [ho]) hex (h _ _ hzc (hv.putAt i hi _))
end
end Go.Pm
/- slices.Insert of one element, of entries and of blocks; slices.Clone of entries. -/
namespace Go.Proofs.YtffmbdagjpdieaaGreat
open Go.RowKit Go.Pm
theorem s4mk100 : (Tryz.prog.info? 100).map (fun i => (i.zero, i.size, i.bytes)) = some (some (.agg #[.string ⟨([] : List UInt8).toArray⟩, .slice none 0 0]), 2, 40) := by kernel_rfl
theorem s4el101 : Elem Tryz.prog 101 100 (.agg #[.string ⟨([] : List UInt8).toArray⟩, .slice none 0 0]) 2 40 := elem_of Tryz.underlying101 s4mk100 (by rfl) (by decide)
theorem s4sz100 : (Tryz.prog.info? 100).map (·.size) = some 2 := by kernel_rfl
set_option maxHeartbeats 4000000 in
theorem insEnt (B : Base) (H : List Res) (w : World) (b c n i k q : Nat) (p d new : List Value) (hn1 : 1 ≤ n) (hnk : n = i + k) (hm : n ≤ 1000000) (hp : p.length = i * 2) (hd : d.length = k * 2) (hnew : new.length = 2) (h1p : ∀ u ∈ p, u.oneCell' = true) (h1d : ∀ u ∈ d, u.oneCell' = true) (h1n : ∀ u ∈ new, u.oneCell' = true) (hv : Inv B (Res.row 100 2 (.slice (some ⟨b, 0, none⟩) n c) n (p ++ d) :: Res.cell q new 100 :: H) w) :
  Calls Tryz.prog 73 #[.slice (some ⟨b, 0, none⟩) n c, .int .i64 (i : Int), .slice (some ⟨q, 0, none⟩) 1 1] w fun e w' => ∃ b' c', e = .returned (.slice (some ⟨b', 0, none⟩) (n + 1) c') ∧ Inv B (Res.row 100 2 (.slice (some ⟨b', 0, none⟩) (n + 1) c') (n + 1) (p ++ new ++ d) :: H) w' := by
 have hnc : n ≤ c := (hv.rowOk).1.le
 refine cW Tryz.func73 rfl Tryz.ntmps73 ?_
 simp only [al]
 refine sK fun _ k1 => rL (xA (.slice none 0 0) rfl ?_)
 simp only [zP, po]
 refine wK k1 (sK fun _ k2 => ?_)
 refine rL (xM (.slice (some ⟨b, 0, none⟩) n c) rfl ?_)
 refine xM (.int .i64 (i : Int)) rfl (xG (sliced (some ⟨b, 0, none⟩) i n c 2) rfl (ex_slice (lo' := some (.int .i64 (i : Int))) rfl rfl (congrArg some rfl) rfl rfl (run_fromAny Tryz.underlying101 s3es101 (by omega))) ?_)
 simp only [zP, po]
 refine wK k2 (sK fun _ k3 => ?_)
 refine rL (xM (.slice (some ⟨q, 0, none⟩) 1 1) rfl ?_)
 refine xG (.int .i64 1) rfl (ex_len0 Tryz.underlying101 rfl rfl) (xA (.int .i64 1) rfl ?_)
 simp only [zP, po]
 refine wK k3 (sK fun _ k4 => ?_)
 refine sK fun _ k5 => rL (xM (.int .i64 1) rfl ?_)
 refine xG (.bool false) rfl (ex_eql rfl rfl rfl (by decide)) ?_
 simp only [zP, po]
 refine wK k5 (cF rfl ?_)
 refine kS (tK k4 ?_)
 refine sK fun _ k6 => rL (xM (.slice (some ⟨b, 0, none⟩) n c) rfl ?_)
 refine xG (.int .i64 (n : Int)) rfl (ex_len0 Tryz.underlying101 rfl rfl) (xA (.int .i64 (n : Int)) rfl ?_)
 simp only [zP, po]
 refine wK k6 (sK fun _ k7 => ?_)
 refine sK fun _ k8 => rL (xM (.int .i64 (i : Int)) rfl ?_)
 refine xM (.int .i64 (n : Int)) rfl ?_
 by_cases hb9 : (i : Int) = (n : Int)
 ·refine xG (.bool true) rfl (ex_eql rfl rfl rfl (decide_eq_true hb9)) ?_
  simp only [zP, po]
  refine wK k8 (cT rfl ?_)
  refine sK fun _ k10 => rL (xM (.slice (some ⟨b, 0, none⟩) n c) rfl ?_)
  refine xM (.slice (some ⟨q, 0, none⟩) 1 1) rfl (sl_append (news := new) tV (wn rfl) rfl rfl rfl s4el101 hv (ok_full (by omega)) (by rw [hnew]) (rd_all (hv.get 1 rfl)) (h1n) (by unfold maxLen; omega) (by omega) (fun rv11 w14 hv => ?_))
  obtain ⟨ra12, rc13, rfl⟩ := row_slice hv.head
  simp only [zP, po]
  refine xA (.slice ra12 (n + 1) rc13) rfl ?_
  simp only [zP, po]
  refine wK k10 (rR ?_)
  refine tR (bR rfl rfl ?_)
  obtain ⟨b3, hb3⟩ := row_some hv.head (by omega)
  subst hb3
  obtain rfl : d = [] := List.eq_nil_of_length_eq_zero (by rw [hd]; omega)
  have h9 := (hv.sub (List.Sublist.cons_cons _ (List.Sublist.cons _ (List.Sublist.refl _))))
  simp only [List.append_nil] at h9 ⊢
  exact ⟨b3, _, rfl, h9⟩
 refine xG (.bool false) rfl (ex_eql rfl rfl rfl (decide_eq_false hb9)) ?_
 simp only [zP, po]
 refine wK k8 (cF rfl ?_)
 refine kS (tK k7 ?_)
 refine sK fun _ k15 => sK fun _ k16 => rL (xM (.int .i64 (n : Int)) rfl ?_)
 refine xM (.int .i64 1) rfl (xG (.int .i64 ((n + 1 : Nat) : Int)) rfl (ex_add rfl rfl rfl (by rw [i64_in (by omega)]; omega)) ?_)
 simp only [zP, po]
 refine xM (.slice (some ⟨b, 0, none⟩) n c) rfl (xG (.int .i64 (c : Int)) rfl (ex_cap0 Tryz.underlying101 rfl rfl) ?_)
 by_cases hb17 : ((n + 1 : Nat) : Int) > (c : Int)
 ·refine xG (.bool true) rfl (ex_gtr rfl rfl rfl (decide_eq_true hb17)) ?_
  simp only [zP, po]
  refine wK k16 (cT rfl ?_)
  refine sK fun _ k18 => rL (xM (.slice (some ⟨b, 0, none⟩) n c) rfl ?_)
  refine xM (.int .i64 (i : Int)) rfl (xG (.slice (some ⟨b, 0, none⟩) i c) rfl (ex_slice (hi' := some (.int .i64 (i : Int))) rfl rfl rfl (congrArg some rfl) rfl (run_hi Tryz.underlying101 s3es101 (by omega))) ?_)
  simp only [zP, po]
  refine xM (.int .i64 (n : Int)) rfl (xM (.int .i64 1) rfl ?_)
  refine xG (.int .i64 ((n + 1 : Nat) : Int)) rfl (ex_add rfl rfl rfl (by rw [i64_in (by omega)]; omega)) ?_
  simp only [zP, po]
  refine xM (.int .i64 (i : Int)) rfl (xG (.int .i64 ((k + 1 : Nat) : Int)) rfl (ex_sub rfl rfl rfl (by rw [i64_in (by omega)]; omega)) ?_)
  refine sl_appendZ (m := i) (k := k + 1) (olds := p) tV (wn rfl) rfl rfl rfl s4el101 Tryz.underlying3 hv hp (by have h9 := (hv.rowOk).2.1.take (i * 2); rw [List.take_left' hp] at h9; exact h9) (by omega) (by omega) (by omega) (by omega) (fun b2 c2 zs w19 hc2 hc2m hzs hv => ?_)
  obtain ⟨z1, z2, rfl, hz1⟩ : ∃ z1 z2 : List Value, zs = z1 ++ z2 ∧ z1.length = 2 := ⟨zs.take 2, zs.drop 2, (List.take_append_drop _ _).symm, by rw [List.length_take, hzs]; omega⟩
  obtain ⟨z3, z4, rfl, hz3⟩ : ∃ z3 z4 : List Value, z2 = z3 ++ z4 ∧ z3.length = k * 2 := ⟨z2.take (k * 2), z2.drop (k * 2), (List.take_append_drop _ _).symm, by rw [List.length_append] at hzs; rw [List.length_take]; omega⟩
  simp only [zP, po]
  refine xA (.slice (some ⟨b2, 0, none⟩) (i + (k + 1)) c2) rfl ?_
  simp only [zP, po]
  refine wK k18 (sK fun _ k20 => ?_)
  refine rL (xM (.slice (some ⟨b2, 0, none⟩) (i + (k + 1)) c2) rfl ?_)
  refine xM (.int .i64 (i : Int)) rfl (xG (.slice (some ⟨b2, 0 + i * 2, none⟩) ((i + (k + 1)) - i) (c2 - i)) rfl (ex_slice (lo' := some (.int .i64 (i : Int))) rfl rfl (congrArg some rfl) rfl rfl (run_from (size := 2) Tryz.underlying101 s3es101 (by omega) (by omega))) ?_)
  simp only [zP, po]
  refine xM (.slice (some ⟨q, 0, none⟩) 1 1) rfl (sl_copyAt 0 (size := 2) (k := 1) (pre := p) (mid := z1) (post := z3 ++ z4) (cs := new) tV (wn rfl) rfl rfl rfl Tryz.underlying101 s4sz100 hv rfl (by simp only [List.append_assoc]) (by rw [hp]; omega) (by rw [hz1, hnew]) (by show 1 = min 1 _; omega) (by rw [hnew]) (rd_all (hv.get 2 rfl)) h1n (fun w21 hv => ?_))
  simp only [zO] at hv
  simp only [zP, po]
  refine wK k20 (sK fun _ k22 => ?_)
  refine rW mixed [8] [0,1,2,3,4,5,6,7,8] 95 rfl (by kernel_rfl) hv ?_
  simp only [qm, opAt]
  refine dM (.slice (some ⟨b2, 0, none⟩) (i + (k + 1)) c2) rfl (dM (.int .i64 (i : Int)) rfl ?_)
  refine dM (.int .i64 1) rfl ?_
  simp only [zP, po]
  refine dG (.int .i64 ((i + 1 : Nat) : Int)) rfl (ex_add rfl rfl rfl (by rw [i64_in (by omega)]; omega)) (dG (.slice (some ⟨b2, 0 + (i + 1 : Nat) * 2, none⟩) ((i + (k + 1)) - (i + 1 : Nat)) (c2 - (i + 1 : Nat))) rfl (ex_slice (lo' := some (.int .i64 ((i + 1 : Nat) : Int))) rfl rfl (congrArg some rfl) rfl rfl (run_from (size := 2) Tryz.underlying101 s3es101 (by omega) (by omega))) ?_)
  refine dM (.slice (some ⟨b, 0, none⟩) n c) rfl ?_
  simp only [zP, po]
  refine dM (.int .i64 (i : Int)) rfl (dG (.slice (some ⟨b, 0 + i * 2, none⟩) (n - i) (c - i)) rfl (ex_slice (lo' := some (.int .i64 (i : Int))) rfl rfl (congrArg some rfl) rfl rfl (run_from (size := 2) Tryz.underlying101 s3es101 (by omega) (by omega))) ?_)
  refine dS rfl fun w23 hv => mem_copyAt 0 (size := 2) (k := k) (pre := p ++ new) (mid := z3) (post := z4) (cs := d) rfl rfl rfl rfl Tryz.underlying101 s4sz100 hv rfl (by simp only [List.append_assoc]) (by rw [List.length_append, hp, hnew]; omega) (by rw [hz3, hd]) (by show k = min _ _; omega) (hd) (by have h9 := (hv.front 1 rfl).rowOk.2.1.drop (i * 2); rw [List.drop_left' hp] at h9; exact h9) h1d (fun w24 hv => ?_)
  simp only [zO] at hv
  refine dW hv (dE fun w25 hv => ?_)
  simp only [zP, po]
  refine tK k22 (sK fun _ k26 => ?_)
  refine rL (xM (.slice (some ⟨b2, 0, none⟩) (i + (k + 1)) c2) rfl ?_)
  refine xA (.slice (some ⟨b2, 0, none⟩) (i + (k + 1)) c2) rfl ?_
  simp only [zP, po]
  refine wK k26 (rR ?_)
  refine tR (bR rfl rfl ?_)
  have h9 := (hv.sub (List.Sublist.cons_cons _ (List.Sublist.cons _ (List.Sublist.cons _ (List.Sublist.refl _)))))
  rw [show (p ++ new) ++ d ++ z4 = (p ++ new ++ d) ++ z4 by simp only [List.append_assoc]] at h9
  have h8 := h9.cellRow (n := n + 1) (c := c2) (size := 2) (by simp only [List.length_append, hp, hd, hnew] at hzs ⊢; omega) (by omega) hc2m
  rw [List.take_left' (by rw [List.length_append, List.length_append, hp, hd, hnew]; omega)] at h8
  rw [show i + (k + 1) = n + 1 by omega]
  exact ⟨b2, _, rfl, h8⟩
 refine xG (.bool false) rfl (ex_gtr rfl rfl rfl (decide_eq_false hb17)) ?_
 obtain ⟨L, hL1, hL2, hL3, hL4, hv⟩ := hv.rowCell
 obtain ⟨t1, t2, hLe, ht1⟩ : ∃ t1 t2 : List Value, L = p ++ (d ++ (t1 ++ t2)) ∧ t1.length = 2 := ⟨(L.drop (n * 2)).take 2, (L.drop (n * 2)).drop 2, by rw [List.take_append_drop, ← List.append_assoc, ← hL2, List.take_append_drop], by rw [List.length_take, List.length_drop, hL1]; omega⟩
 subst hLe
 simp only [zP, po]
 refine wK k16 (cF rfl ?_)
 refine kS (tK k15 ?_)
 refine sK fun _ k27 => rL (xM (.slice (some ⟨b, 0, none⟩) n c) rfl ?_)
 refine xM (.int .i64 (n : Int)) rfl (xM (.int .i64 1) rfl ?_)
 simp only [zP, po]
 refine xG (.int .i64 ((n + 1 : Nat) : Int)) rfl (ex_add rfl rfl rfl (by rw [i64_in (by omega)]; omega)) (xG (.slice (some ⟨b, 0, none⟩) (n + 1 : Nat) c) rfl (ex_slice (hi' := some (.int .i64 ((n + 1 : Nat) : Int))) rfl rfl rfl (congrArg some rfl) rfl (run_hi Tryz.underlying101 s3es101 (by omega))) ?_)
 refine xA (.slice (some ⟨b, 0, none⟩) (n + 1 : Nat) c) rfl ?_
 simp only [zP, po]
 refine wK k27 (sK fun _ k28 => ?_)
 refine sK fun _ k29 => rL (xM (.slice (some ⟨q, 0, none⟩) 1 1) rfl ?_)
 refine xM (.slice (some ⟨b, 0, none⟩) (n + 1 : Nat) c) rfl (xM (.int .i64 (i : Int)) rfl ?_)
 simp only [zP, po]
 refine xM (.int .i64 1) rfl (xG (.int .i64 ((i + 1 : Nat) : Int)) rfl (ex_add rfl rfl rfl (by rw [i64_in (by omega)]; omega)) ?_)
 refine xG (.slice (some ⟨b, 0 + (i + 1 : Nat) * 2, none⟩) ((n + 1 : Nat) - (i + 1 : Nat)) (c - (i + 1 : Nat))) rfl (ex_slice (lo' := some (.int .i64 ((i + 1 : Nat) : Int))) rfl rfl (congrArg some rfl) rfl rfl (run_from (size := 2) Tryz.underlying101 s3es101 (by omega) (by omega))) ?_
 simp only [zP, po]
 have hov : (callFunc 89 #[.slice (some ⟨q, 0, none⟩) 1 1, .slice (some ⟨b, 0 + (i + 1 : Nat) * 2, none⟩) ((n + 1 : Nat) - (i + 1 : Nat)) (c - (i + 1 : Nat))]).run Tryz.prog w = .ok (.value (.bool false)) w := by
  rw [run_callFunc_extern Tryz.func89 (by kernel_rfl) (by kernel_rfl) (by kernel_rfl) (e := Extern.SlicesOverlaps.overlaps #[101, 101] #[4]) (by kernel_rfl), overlaps_cells (tR := 4) (size := 2) Tryz.underlying101 (Go.Pm.run_sizeOf s4sz100) (hv.get 1 rfl) (hv.get 0 rfl) hv.ne2.symm (by intro h9; have := congrArg List.length h9; simp [ht1] at this)]
  rfl
 refine xG (.bool false) rfl (ex_extern (args := #[.slice (some ⟨q, 0, none⟩) 1 1, .slice (some ⟨b, 0 + (i + 1 : Nat) * 2, none⟩) ((n + 1 : Nat) - (i + 1 : Nat)) (c - (i + 1 : Nat))]) rfl (by simp only [List.map_toArray, List.map_cons, List.map_nil]; rfl) hov) (xG (.bool true) rfl (ex_not rfl rfl rfl) ?_)
 simp only [zP, po]
 refine wK k29 (cT rfl ?_)
 refine sK fun _ k30 => rW mixed [8] [0,1,2,3,4,5,6,7,8] 95 rfl (by kernel_rfl) hv ?_
 simp only [qm, opAt]
 refine dM (.slice (some ⟨b, 0, none⟩) (n + 1 : Nat) c) rfl (dM (.int .i64 (i : Int)) rfl ?_)
 refine dM (.int .i64 1) rfl ?_
 simp only [zP, po]
 refine dG (.int .i64 ((i + 1 : Nat) : Int)) rfl (ex_add rfl rfl rfl (by rw [i64_in (by omega)]; omega)) (dG (.slice (some ⟨b, 0 + (i + 1 : Nat) * 2, none⟩) ((n + 1 : Nat) - (i + 1 : Nat)) (c - (i + 1 : Nat))) rfl (ex_slice (lo' := some (.int .i64 ((i + 1 : Nat) : Int))) rfl rfl (congrArg some rfl) rfl rfl (run_from (size := 2) Tryz.underlying101 s3es101 (by omega) (by omega))) ?_)
 refine dM (.slice (some ⟨b, 0, none⟩) (n + 1 : Nat) c) rfl ?_
 simp only [zP, po]
 refine dM (.int .i64 (i : Int)) rfl (dG (.slice (some ⟨b, 0 + i * 2, none⟩) ((n + 1 : Nat) - i) (c - i)) rfl (ex_slice (lo' := some (.int .i64 (i : Int))) rfl rfl (congrArg some rfl) rfl rfl (run_from (size := 2) Tryz.underlying101 s3es101 (by omega) (by omega))) ?_)
 refine dS rfl fun w31 hv => mem_copyAt 0 (size := 2) (k := k) (pre := p ++ (d ++ t1).take 2) (mid := (d ++ t1).drop 2) (post := t2) (cs := d) rfl rfl rfl rfl Tryz.underlying101 s4sz100 hv rfl (by rw [List.append_assoc p, List.take_append_drop]; simp only [List.append_assoc]) (by rw [List.length_append, List.length_take, List.length_append, hp, hd, ht1]; omega) (by rw [List.length_drop, List.length_append, hd, ht1]; omega) (by show k = min _ _; omega) (hd) (src_mid (pre := p) (mid := d) (post := t1 ++ t2) (by have h9 := hv.get 0 rfl; simpa only [List.append_assoc] using h9) (by rw [hp]; omega)) h1d (fun w32 hv => ?_)
 simp only [zO] at hv
 refine dW hv (dE fun w33 hv => ?_)
 simp only [zP, po]
 refine tK k30 (sK fun _ k34 => ?_)
 refine rL (xM (.slice (some ⟨b, 0, none⟩) (n + 1 : Nat) c) rfl ?_)
 refine xM (.int .i64 (i : Int)) rfl (xG (.slice (some ⟨b, 0 + i * 2, none⟩) ((n + 1 : Nat) - i) (c - i)) rfl (ex_slice (lo' := some (.int .i64 (i : Int))) rfl rfl (congrArg some rfl) rfl rfl (run_from (size := 2) Tryz.underlying101 s3es101 (by omega) (by omega))) ?_)
 simp only [zP, po]
 refine xM (.slice (some ⟨q, 0, none⟩) 1 1) rfl (sl_copyAt 0 (size := 2) (k := 1) (pre := p) (mid := (d ++ t1).take 2) (post := d ++ t2) (cs := new) tV (wn rfl) rfl rfl rfl Tryz.underlying101 s4sz100 hv rfl (by simp only [List.append_assoc]) (by rw [hp]; omega) (by rw [List.length_take, List.length_append, hd, ht1, hnew]; omega) (by show 1 = min 1 _; omega) (by rw [hnew]) (rd_all (hv.get 1 rfl)) h1n (fun w35 hv => ?_))
 simp only [zO] at hv
 simp only [zP, po]
 refine wK k34 (sK fun _ k36 => ?_)
 refine rL (xM (.slice (some ⟨b, 0, none⟩) (n + 1 : Nat) c) rfl ?_)
 refine xA (.slice (some ⟨b, 0, none⟩) (n + 1 : Nat) c) rfl ?_
 simp only [zP, po]
 refine wK k36 (rR ?_)
 refine tR (bR rfl rfl ?_)
 have h9 := (hv.sub (List.Sublist.cons_cons _ (List.Sublist.cons _ (List.Sublist.refl _))))
 rw [show p ++ new ++ (d ++ t2) = (p ++ new ++ d) ++ t2 by simp only [List.append_assoc]] at h9
 have h8 := h9.cellRow (n := n + 1) (c := c) (size := 2) (by simp only [List.length_append, hp, hd, hnew] at hL1 ⊢; omega) (by omega) hL4
 rw [List.take_left' (by rw [List.length_append, List.length_append, hp, hd, hnew]; omega)] at h8
 exact ⟨b, _, rfl, h8⟩
theorem s4mk101 : (Tryz.prog.info? 101).map (fun i => (i.zero, i.size, i.bytes)) = some (some (.slice none 0 0), 1, 24) := by kernel_rfl
theorem s4el87 : Elem Tryz.prog 87 101 (.slice none 0 0) 1 24 := elem_of Tryz.underlying87 s4mk101 (by rfl) (by decide)
set_option maxHeartbeats 4000000 in
theorem insBlk (B : Base) (H : List Res) (w : World) (b c n i k q : Nat) (p d new : List Value) (hn1 : 1 ≤ n) (hnk : n = i + k) (hm : n ≤ 1000000) (hp : p.length = i * 1) (hd : d.length = k * 1) (hnew : new.length = 1) (h1p : ∀ u ∈ p, u.oneCell' = true) (h1d : ∀ u ∈ d, u.oneCell' = true) (h1n : ∀ u ∈ new, u.oneCell' = true) (hv : Inv B (Res.row 101 1 (.slice (some ⟨b, 0, none⟩) n c) n (p ++ d) :: Res.cell q new 101 :: H) w) :
  Calls Tryz.prog 74 #[.slice (some ⟨b, 0, none⟩) n c, .int .i64 (i : Int), .slice (some ⟨q, 0, none⟩) 1 1] w fun e w' => ∃ b' c', e = .returned (.slice (some ⟨b', 0, none⟩) (n + 1) c') ∧ Inv B (Res.row 101 1 (.slice (some ⟨b', 0, none⟩) (n + 1) c') (n + 1) (p ++ new ++ d) :: H) w' := by
 have hnc : n ≤ c := (hv.rowOk).1.le
 refine cW Tryz.func74 rfl Tryz.ntmps74 ?_
 simp only [al]
 refine sK fun _ k1 => rL (xA (.slice none 0 0) rfl ?_)
 simp only [zP, po]
 refine wK k1 (sK fun _ k2 => ?_)
 refine rL (xM (.slice (some ⟨b, 0, none⟩) n c) rfl ?_)
 refine xM (.int .i64 (i : Int)) rfl (xG (sliced (some ⟨b, 0, none⟩) i n c 1) rfl (ex_slice (lo' := some (.int .i64 (i : Int))) rfl rfl (congrArg some rfl) rfl rfl (run_fromAny Tryz.underlying87 s3es87 (by omega))) ?_)
 simp only [zP, po]
 refine wK k2 (sK fun _ k3 => ?_)
 refine rL (xM (.slice (some ⟨q, 0, none⟩) 1 1) rfl ?_)
 refine xG (.int .i64 1) rfl (ex_len0 Tryz.underlying87 rfl rfl) (xA (.int .i64 1) rfl ?_)
 simp only [zP, po]
 refine wK k3 (sK fun _ k4 => ?_)
 refine sK fun _ k5 => rL (xM (.int .i64 1) rfl ?_)
 refine xG (.bool false) rfl (ex_eql rfl rfl rfl (by decide)) ?_
 simp only [zP, po]
 refine wK k5 (cF rfl ?_)
 refine kS (tK k4 ?_)
 refine sK fun _ k6 => rL (xM (.slice (some ⟨b, 0, none⟩) n c) rfl ?_)
 refine xG (.int .i64 (n : Int)) rfl (ex_len0 Tryz.underlying87 rfl rfl) (xA (.int .i64 (n : Int)) rfl ?_)
 simp only [zP, po]
 refine wK k6 (sK fun _ k7 => ?_)
 refine sK fun _ k8 => rL (xM (.int .i64 (i : Int)) rfl ?_)
 refine xM (.int .i64 (n : Int)) rfl ?_
 by_cases hb9 : (i : Int) = (n : Int)
 ·refine xG (.bool true) rfl (ex_eql rfl rfl rfl (decide_eq_true hb9)) ?_
  simp only [zP, po]
  refine wK k8 (cT rfl ?_)
  refine sK fun _ k10 => rL (xM (.slice (some ⟨b, 0, none⟩) n c) rfl ?_)
  refine xM (.slice (some ⟨q, 0, none⟩) 1 1) rfl (sl_append (news := new) tV (wn rfl) rfl rfl rfl s4el87 hv (ok_full (by omega)) (by rw [hnew]) (rd_all (hv.get 1 rfl)) (h1n) (by unfold maxLen; omega) (by omega) (fun rv11 w14 hv => ?_))
  obtain ⟨ra12, rc13, rfl⟩ := row_slice hv.head
  simp only [zP, po]
  refine xA (.slice ra12 (n + 1) rc13) rfl ?_
  simp only [zP, po]
  refine wK k10 (rR ?_)
  refine tR (bR rfl rfl ?_)
  obtain ⟨b3, hb3⟩ := row_some hv.head (by omega)
  subst hb3
  obtain rfl : d = [] := List.eq_nil_of_length_eq_zero (by rw [hd]; omega)
  have h9 := (hv.sub (List.Sublist.cons_cons _ (List.Sublist.cons _ (List.Sublist.refl _))))
  simp only [List.append_nil] at h9 ⊢
  exact ⟨b3, _, rfl, h9⟩
 refine xG (.bool false) rfl (ex_eql rfl rfl rfl (decide_eq_false hb9)) ?_
 simp only [zP, po]
 refine wK k8 (cF rfl ?_)
 refine kS (tK k7 ?_)
 refine sK fun _ k15 => sK fun _ k16 => rL (xM (.int .i64 (n : Int)) rfl ?_)
 refine xM (.int .i64 1) rfl (xG (.int .i64 ((n + 1 : Nat) : Int)) rfl (ex_add rfl rfl rfl (by rw [i64_in (by omega)]; omega)) ?_)
 simp only [zP, po]
 refine xM (.slice (some ⟨b, 0, none⟩) n c) rfl (xG (.int .i64 (c : Int)) rfl (ex_cap0 Tryz.underlying87 rfl rfl) ?_)
 by_cases hb17 : ((n + 1 : Nat) : Int) > (c : Int)
 ·refine xG (.bool true) rfl (ex_gtr rfl rfl rfl (decide_eq_true hb17)) ?_
  simp only [zP, po]
  refine wK k16 (cT rfl ?_)
  refine sK fun _ k18 => rL (xM (.slice (some ⟨b, 0, none⟩) n c) rfl ?_)
  refine xM (.int .i64 (i : Int)) rfl (xG (.slice (some ⟨b, 0, none⟩) i c) rfl (ex_slice (hi' := some (.int .i64 (i : Int))) rfl rfl rfl (congrArg some rfl) rfl (run_hi Tryz.underlying87 s3es87 (by omega))) ?_)
  simp only [zP, po]
  refine xM (.int .i64 (n : Int)) rfl (xM (.int .i64 1) rfl ?_)
  refine xG (.int .i64 ((n + 1 : Nat) : Int)) rfl (ex_add rfl rfl rfl (by rw [i64_in (by omega)]; omega)) ?_
  simp only [zP, po]
  refine xM (.int .i64 (i : Int)) rfl (xG (.int .i64 ((k + 1 : Nat) : Int)) rfl (ex_sub rfl rfl rfl (by rw [i64_in (by omega)]; omega)) ?_)
  refine sl_appendZ (m := i) (k := k + 1) (olds := p) tV (wn rfl) rfl rfl rfl s4el87 Tryz.underlying3 hv hp (by have h9 := (hv.rowOk).2.1.take (i * 1); rw [List.take_left' hp] at h9; exact h9) (by omega) (by omega) (by omega) (by omega) (fun b2 c2 zs w19 hc2 hc2m hzs hv => ?_)
  obtain ⟨z1, z2, rfl, hz1⟩ : ∃ z1 z2 : List Value, zs = z1 ++ z2 ∧ z1.length = 1 := ⟨zs.take 1, zs.drop 1, (List.take_append_drop _ _).symm, by rw [List.length_take, hzs]; omega⟩
  obtain ⟨z3, z4, rfl, hz3⟩ : ∃ z3 z4 : List Value, z2 = z3 ++ z4 ∧ z3.length = k * 1 := ⟨z2.take (k * 1), z2.drop (k * 1), (List.take_append_drop _ _).symm, by rw [List.length_append] at hzs; rw [List.length_take]; omega⟩
  simp only [zP, po]
  refine xA (.slice (some ⟨b2, 0, none⟩) (i + (k + 1)) c2) rfl ?_
  simp only [zP, po]
  refine wK k18 (sK fun _ k20 => ?_)
  refine rL (xM (.slice (some ⟨b2, 0, none⟩) (i + (k + 1)) c2) rfl ?_)
  refine xM (.int .i64 (i : Int)) rfl (xG (.slice (some ⟨b2, 0 + i, none⟩) (i + (k + 1) - i) (c2 - i)) rfl (ex_slice (lo' := some (.int .i64 (i : Int))) rfl rfl (congrArg some rfl) rfl rfl (run_from1 Tryz.underlying87 s3es87 (by omega) (by omega))) ?_)
  simp only [zP, po]
  refine xM (.slice (some ⟨q, 0, none⟩) 1 1) rfl (sl_copyAt 0 (size := 1) (k := 1) (pre := p) (mid := z1) (post := z3 ++ z4) (cs := new) tV (wn rfl) rfl rfl rfl Tryz.underlying87 s3sz101 hv rfl (by simp only [List.append_assoc]) (by rw [hp]; omega) (by rw [hz1, hnew]) (by show 1 = min 1 _; omega) (by rw [hnew]) (rd_all (hv.get 2 rfl)) h1n (fun w21 hv => ?_))
  simp only [zO] at hv
  simp only [zP, po]
  refine wK k20 (sK fun _ k22 => ?_)
  refine rW mixed [8] [0,1,2,3,4,5,6,7,8] 95 rfl (by kernel_rfl) hv ?_
  simp only [qm, opAt]
  refine dM (.slice (some ⟨b2, 0, none⟩) (i + (k + 1)) c2) rfl (dM (.int .i64 (i : Int)) rfl ?_)
  refine dM (.int .i64 1) rfl ?_
  simp only [zP, po]
  refine dG (.int .i64 ((i + 1 : Nat) : Int)) rfl (ex_add rfl rfl rfl (by rw [i64_in (by omega)]; omega)) (dG (.slice (some ⟨b2, 0 + (i + 1 : Nat), none⟩) (i + (k + 1) - (i + 1 : Nat)) (c2 - (i + 1 : Nat))) rfl (ex_slice (lo' := some (.int .i64 ((i + 1 : Nat) : Int))) rfl rfl (congrArg some rfl) rfl rfl (run_from1 Tryz.underlying87 s3es87 (by omega) (by omega))) ?_)
  refine dM (.slice (some ⟨b, 0, none⟩) n c) rfl ?_
  simp only [zP, po]
  refine dM (.int .i64 (i : Int)) rfl (dG (.slice (some ⟨b, 0 + i, none⟩) (n - i) (c - i)) rfl (ex_slice (lo' := some (.int .i64 (i : Int))) rfl rfl (congrArg some rfl) rfl rfl (run_from1 Tryz.underlying87 s3es87 (by omega) (by omega))) ?_)
  refine dS rfl fun w23 hv => mem_copyAt 0 (size := 1) (k := k) (pre := p ++ new) (mid := z3) (post := z4) (cs := d) rfl rfl rfl rfl Tryz.underlying87 s3sz101 hv rfl (by simp only [List.append_assoc]) (by rw [List.length_append, hp, hnew]; omega) (by rw [hz3, hd]) (by show k = min _ _; omega) (hd) (by have h9 := (hv.front 1 rfl).rowOk.2.1.drop (i * 1); rw [List.drop_left' hp] at h9; rw [Nat.mul_one] at h9; exact h9) h1d (fun w24 hv => ?_)
  simp only [zO] at hv
  refine dW hv (dE fun w25 hv => ?_)
  simp only [zP, po]
  refine tK k22 (sK fun _ k26 => ?_)
  refine rL (xM (.slice (some ⟨b2, 0, none⟩) (i + (k + 1)) c2) rfl ?_)
  refine xA (.slice (some ⟨b2, 0, none⟩) (i + (k + 1)) c2) rfl ?_
  simp only [zP, po]
  refine wK k26 (rR ?_)
  refine tR (bR rfl rfl ?_)
  have h9 := (hv.sub (List.Sublist.cons_cons _ (List.Sublist.cons _ (List.Sublist.cons _ (List.Sublist.refl _)))))
  rw [show (p ++ new) ++ d ++ z4 = (p ++ new ++ d) ++ z4 by simp only [List.append_assoc]] at h9
  have h8 := h9.cellRow (n := n + 1) (c := c2) (size := 1) (by simp only [List.length_append, hp, hd, hnew] at hzs ⊢; omega) (by omega) hc2m
  rw [List.take_left' (by rw [List.length_append, List.length_append, hp, hd, hnew]; omega)] at h8
  rw [show i + (k + 1) = n + 1 by omega]
  exact ⟨b2, _, rfl, h8⟩
 refine xG (.bool false) rfl (ex_gtr rfl rfl rfl (decide_eq_false hb17)) ?_
 obtain ⟨L, hL1, hL2, hL3, hL4, hv⟩ := hv.rowCell
 obtain ⟨t1, t2, hLe, ht1⟩ : ∃ t1 t2 : List Value, L = p ++ (d ++ (t1 ++ t2)) ∧ t1.length = 1 := ⟨(L.drop (n * 1)).take 1, (L.drop (n * 1)).drop 1, by rw [List.take_append_drop, ← List.append_assoc, ← hL2, List.take_append_drop], by rw [List.length_take, List.length_drop, hL1]; omega⟩
 subst hLe
 simp only [zP, po]
 refine wK k16 (cF rfl ?_)
 refine kS (tK k15 ?_)
 refine sK fun _ k27 => rL (xM (.slice (some ⟨b, 0, none⟩) n c) rfl ?_)
 refine xM (.int .i64 (n : Int)) rfl (xM (.int .i64 1) rfl ?_)
 simp only [zP, po]
 refine xG (.int .i64 ((n + 1 : Nat) : Int)) rfl (ex_add rfl rfl rfl (by rw [i64_in (by omega)]; omega)) (xG (.slice (some ⟨b, 0, none⟩) (n + 1 : Nat) c) rfl (ex_slice (hi' := some (.int .i64 ((n + 1 : Nat) : Int))) rfl rfl rfl (congrArg some rfl) rfl (run_hi Tryz.underlying87 s3es87 (by omega))) ?_)
 refine xA (.slice (some ⟨b, 0, none⟩) (n + 1 : Nat) c) rfl ?_
 simp only [zP, po]
 refine wK k27 (sK fun _ k28 => ?_)
 refine sK fun _ k29 => rL (xM (.slice (some ⟨q, 0, none⟩) 1 1) rfl ?_)
 refine xM (.slice (some ⟨b, 0, none⟩) (n + 1 : Nat) c) rfl (xM (.int .i64 (i : Int)) rfl ?_)
 simp only [zP, po]
 refine xM (.int .i64 1) rfl (xG (.int .i64 ((i + 1 : Nat) : Int)) rfl (ex_add rfl rfl rfl (by rw [i64_in (by omega)]; omega)) ?_)
 refine xG (.slice (some ⟨b, 0 + (i + 1 : Nat), none⟩) ((n + 1 : Nat) - (i + 1 : Nat)) (c - (i + 1 : Nat))) rfl (ex_slice (lo' := some (.int .i64 ((i + 1 : Nat) : Int))) rfl rfl (congrArg some rfl) rfl rfl (run_from1 Tryz.underlying87 s3es87 (by omega) (by omega))) ?_
 simp only [zP, po]
 have hov : (callFunc 91 #[.slice (some ⟨q, 0, none⟩) 1 1, .slice (some ⟨b, 0 + (i + 1 : Nat), none⟩) ((n + 1 : Nat) - (i + 1 : Nat)) (c - (i + 1 : Nat))]).run Tryz.prog w = .ok (.value (.bool false)) w := by
  rw [run_callFunc_extern Tryz.func91 (by kernel_rfl) (by kernel_rfl) (by kernel_rfl) (e := Extern.SlicesOverlaps.overlaps #[87, 87] #[4]) (by kernel_rfl), overlaps_cells (tR := 4) (size := 1) Tryz.underlying87 (Go.Pm.run_sizeOf s3sz101) (hv.get 1 rfl) (hv.get 0 rfl) hv.ne2.symm (by intro h9; have := congrArg List.length h9; simp [ht1] at this)]
  rfl
 refine xG (.bool false) rfl (ex_extern (args := #[.slice (some ⟨q, 0, none⟩) 1 1, .slice (some ⟨b, 0 + (i + 1 : Nat), none⟩) ((n + 1 : Nat) - (i + 1 : Nat)) (c - (i + 1 : Nat))]) rfl (by simp only [List.map_toArray, List.map_cons, List.map_nil]; rfl) hov) (xG (.bool true) rfl (ex_not rfl rfl rfl) ?_)
 simp only [zP, po]
 refine wK k29 (cT rfl ?_)
 refine sK fun _ k30 => rW mixed [8] [0,1,2,3,4,5,6,7,8] 95 rfl (by kernel_rfl) hv ?_
 simp only [qm, opAt]
 refine dM (.slice (some ⟨b, 0, none⟩) (n + 1 : Nat) c) rfl (dM (.int .i64 (i : Int)) rfl ?_)
 refine dM (.int .i64 1) rfl ?_
 simp only [zP, po]
 refine dG (.int .i64 ((i + 1 : Nat) : Int)) rfl (ex_add rfl rfl rfl (by rw [i64_in (by omega)]; omega)) (dG (.slice (some ⟨b, 0 + (i + 1 : Nat), none⟩) ((n + 1 : Nat) - (i + 1 : Nat)) (c - (i + 1 : Nat))) rfl (ex_slice (lo' := some (.int .i64 ((i + 1 : Nat) : Int))) rfl rfl (congrArg some rfl) rfl rfl (run_from1 Tryz.underlying87 s3es87 (by omega) (by omega))) ?_)
 refine dM (.slice (some ⟨b, 0, none⟩) (n + 1 : Nat) c) rfl ?_
 simp only [zP, po]
 refine dM (.int .i64 (i : Int)) rfl (dG (.slice (some ⟨b, 0 + i, none⟩) ((n + 1 : Nat) - i) (c - i)) rfl (ex_slice (lo' := some (.int .i64 (i : Int))) rfl rfl (congrArg some rfl) rfl rfl (run_from1 Tryz.underlying87 s3es87 (by omega) (by omega))) ?_)
 refine dS rfl fun w31 hv => mem_copyAt 0 (size := 1) (k := k) (pre := p ++ (d ++ t1).take 1) (mid := (d ++ t1).drop 1) (post := t2) (cs := d) rfl rfl rfl rfl Tryz.underlying87 s3sz101 hv rfl (by rw [List.append_assoc p, List.take_append_drop]; simp only [List.append_assoc]) (by rw [List.length_append, List.length_take, List.length_append, hp, hd, ht1]; omega) (by rw [List.length_drop, List.length_append, hd, ht1]; omega) (by show k = min _ _; omega) (hd) (src_mid (pre := p) (mid := d) (post := t1 ++ t2) (by have h9 := hv.get 0 rfl; simpa only [List.append_assoc] using h9) (by rw [hp]; omega)) h1d (fun w32 hv => ?_)
 simp only [zO] at hv
 refine dW hv (dE fun w33 hv => ?_)
 simp only [zP, po]
 refine tK k30 (sK fun _ k34 => ?_)
 refine rL (xM (.slice (some ⟨b, 0, none⟩) (n + 1 : Nat) c) rfl ?_)
 refine xM (.int .i64 (i : Int)) rfl (xG (.slice (some ⟨b, 0 + i, none⟩) ((n + 1 : Nat) - i) (c - i)) rfl (ex_slice (lo' := some (.int .i64 (i : Int))) rfl rfl (congrArg some rfl) rfl rfl (run_from1 Tryz.underlying87 s3es87 (by omega) (by omega))) ?_)
 simp only [zP, po]
 refine xM (.slice (some ⟨q, 0, none⟩) 1 1) rfl (sl_copyAt 0 (size := 1) (k := 1) (pre := p) (mid := (d ++ t1).take 1) (post := d ++ t2) (cs := new) tV (wn rfl) rfl rfl rfl Tryz.underlying87 s3sz101 hv rfl (by simp only [List.append_assoc]) (by rw [hp]; omega) (by rw [List.length_take, List.length_append, hd, ht1, hnew]; omega) (by show 1 = min 1 _; omega) (by rw [hnew]) (rd_all (hv.get 1 rfl)) h1n (fun w35 hv => ?_))
 simp only [zO] at hv
 simp only [zP, po]
 refine wK k34 (sK fun _ k36 => ?_)
 refine rL (xM (.slice (some ⟨b, 0, none⟩) (n + 1 : Nat) c) rfl ?_)
 refine xA (.slice (some ⟨b, 0, none⟩) (n + 1 : Nat) c) rfl ?_
 simp only [zP, po]
 refine wK k36 (rR ?_)
 refine tR (bR rfl rfl ?_)
 have h9 := (hv.sub (List.Sublist.cons_cons _ (List.Sublist.cons _ (List.Sublist.refl _))))
 rw [show p ++ new ++ (d ++ t2) = (p ++ new ++ d) ++ t2 by simp only [List.append_assoc]] at h9
 have h8 := h9.cellRow (n := n + 1) (c := c) (size := 1) (by simp only [List.length_append, hp, hd, hnew] at hL1 ⊢; omega) (by omega) hL4
 rw [List.take_left' (by rw [List.length_append, List.length_append, hp, hd, hnew]; omega)] at h8
 exact ⟨b, _, rfl, h8⟩
end Go.Proofs.YtffmbdagjpdieaaGreat
