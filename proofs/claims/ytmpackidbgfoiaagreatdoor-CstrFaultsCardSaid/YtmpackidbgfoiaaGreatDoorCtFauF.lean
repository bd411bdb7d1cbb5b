/- A region that draws its order, with two operations that change memory and wait for none of each other: walked both ways. -/
import Derived.Test.YtmpackidbgfoiaaGreatDoorCtFauB
import Derived.Shelf.SlIter.Collect
import Derived.Shelf.Sort.Plain
import Derived.Shelf.Slices.In.CompactS
import Derived.Shelf.Slices.In.SortNone
import Derived.Ground.NamesProg
import Derived.Ground.GgzProg
import Derived.Test.YtmpackidbgfoiaaGreatDoorRows
import Derived.Sort.KeysCollected
import Derived.Sort.OwnSorted
import Derived.Test.YtmpackidbgfoiaaGreatDoorCtFauC
import Derived.Test.YtmpackidbgfoiaaGreatDoorCtFauE
import Derived.Laws.StructEq
set_option maxRecDepth 100000
set_option maxHeartbeats 16000000
set_option synthInstance.maxSize 4096
set_option synthInstance.maxHeartbeats 400000
namespace Go.Pm
open Go.RowKit
def DW2 (P : Program) (ops : Array Oper) (mem : List Nat) (R : Act → World → Prop) (l1 l2 : List (Nat × Oper)) : List (Nat × Oper) → List (Nat × (World → Prop)) → (World → Prop) → Act → Prop
 | [], Fl, J, a => DW P ops mem R l1 Fl J a ∧ DW P ops mem R l2 Fl J a
 | x :: is, Fl, J, a =>
  (Region.wanted x.2 (yielded ops a.tmps) = false ∧ DW2 P ops mem R l1 l2 is Fl J (a.put x.2.dst undef)) ∨ (Region.wanted x.2 (yielded ops a.tmps) = true ∧
  ∃ v, ((∀ w, Adds P x.2 a w v) ∧ DW2 P ops mem R l1 l2 is Fl J (a.put x.2.dst v)) ∨ ∃ f : World → Prop, (∀ w, f w → Adds P x.2 a w v) ∧ (∀ w, J w → f w) ∧ DW2 P ops mem R l1 l2 is ((x.1, f) :: Fl) J (a.put x.2.dst v))
structure Rd (ops : Array Oper) (listed : Array Bool) (i : Nat) (o : Oper) : Prop where
 ho : ops[i]? = some o
 lt : i < ops.size
 lf : listed.getD i false = false
 prT : ∀ j, ahead ops j i = true → listed.getD j false = true
 not_ : ∀ q, ahead ops i q = true → listed.getD q false = false
 ct : toCome ops (listed.setIfInBounds i true) < toCome ops listed
 ls : ∀ q, (listed.setIfInBounds i true).getD q false = true ↔ q = i ∨ listed.getD q false = true
 closed : ∀ (j : Nat) (oj : Oper), ops[j]? = some oj → (listed.setIfInBounds i true).getD j false = true → ∀ k, binder oj k = true → (listed.setIfInBounds i true).getD k false = true
theorem rd_of {ops : Array Oper} {listed : Array Bool} {i : Nat} (hs : listed.size = ops.size) (hcl : ∀ (j : Nat) (o : Oper), ops[j]? = some o → listed.getD j false = true → ∀ k, binder o k = true → listed.getD k false = true) (hi : i ∈ Region.ready .any ops listed) : ∃ o, Rd ops listed i o := by
 obtain ⟨o, ho, hi2, hl, hpr⟩ := mem_ready hi
 have hlf : listed.getD i false = false := by
  simp only [Array.getD_eq_getD_getElem?] at hl ⊢
  rw [Array.getElem?_eq_getElem (by rw [hs]; exact hi2)] at hl ⊢
  simpa using hl
 have hls : ∀ q, (listed.setIfInBounds i true).getD q false = true ↔ q = i ∨ listed.getD q false = true := by
  intro q
  constructor
  ·exact getD_false_set
  rintro (rfl | h)
  ·simp only [Array.getD_eq_getD_getElem?]
   rw [Array.getElem?_setIfInBounds_self_of_lt (by rw [hs]; exact hi2)]
   rfl
  exact getD_set_true h
 refine ⟨o, ho, hi2, hlf, fun j hj => ?_, fun q hq => ?_, by have := toCome_set hi2 hl; omega, hls, fun j oj hj hlj k hk => ?_⟩
 ·cases ahead_reach hj with
  | one h hb => rw [ho] at h; cases h; exact hpr _ hb
  | step h hb hr => rw [ho] at h; cases h; exact hr.listed hcl (hpr _ hb)
 ·cases hlq : listed.getD q false with
  | false => rfl
  | true => rw [(ahead_reach hq).listed hcl hlq] at hlf; cases hlf
 rcases (hls j).1 hlj with e | e
 ·subst e; rw [ho] at hj; cases hj
  exact (hls k).2 (.inr (hpr k hk))
 exact (hls k).2 (.inr (hcl j oj hj e k hk))
section
variable {P : Program} {ops : Array Oper} {mem perm pre is : List Nat} {R : Act → World → Prop} {Q : Exit → Act → World → Prop} {a0 a aS : Act} {listed : Array Bool} {w w' : World} {val : Nat → Value} {Fl : List (Nat × (World → Prop))} {J : World → Prop} {i : Nat} {o : Oper} {K : Act → World → Prop}
theorem Rd.lf2 (r : Rd ops listed i o) (q : Nat) (hq : (listed.setIfInBounds i true).getD q false = false) : q ≠ i ∧ listed.getD q false = false := by
 refine ⟨fun e => ?_, ?_⟩
 ·rw [(r.ls q).2 (.inl e)] at hq; cases hq
 cases h : listed.getD q false with
 | false => rfl
 | true => rw [(r.ls q).2 (.inr h)] at hq; cases hq
theorem DI.agr (hsel : ∀ (j : Nat) (o : Oper), ops[j]? = some o → notSel o = true) (hlook : ∀ (i : Nat) (o : Oper), ops[i]? = some o → ∀ t ∈ o.looksAt ops, ∀ (q : Nat) (o' : Oper), ops[q]? = some o' → o'.dst = some t → q = i ∨ ahead ops q i = true ∨ ahead ops i q = true)
  (I : DI P ops mem R a0 perm listed a w pre is val Fl J aS) (r : Rd ops listed i o) (ai : Act) (L : Nat → Prop) (hT : Tk ops L val a0 ai) (h1 : ∀ q, ahead ops q i = true → L q) (h2 : ∀ q, L q → q ≠ i ∧ ahead ops i q = false) :
  execOp ai.eval o = execOp a.eval o ∧ Region.wanted o (yielded ops ai.tmps) = Region.wanted o (yielded ops a.tmps) := by
 refine same_of (by rw [hT.size, I.tk.size]) (hsel i o r.ho) fun t ht => hT.agree I.tk t fun q o' hq hd => ?_
 rcases hlook i o r.ho t ht q o' hq hd with h | h | h
 ·subst h
  exact ⟨fun h => ((h2 _ h).1 rfl).elim, fun h => by rw [r.lf] at h; cases h⟩
 ·exact ⟨fun _ => r.prT q h, fun _ => h1 q h⟩
 exact ⟨fun h3 => (by rw [(h2 q h3).2] at h; cases h), fun h3 => by rw [r.not_ q h] at h3; cases h3⟩
theorem DI.fired (hnd : onceDst ops = true) (hfit : ∀ (j : Nat) (o : Oper) (d : Tmp), ops[j]? = some o → o.dst = some d → d < a0.tmps.size) (I : DI P ops mem R a0 perm listed a w pre is val Fl J aS) (r : Rd ops listed i o) (hip : i ∈ pre) (hx : Ext w w') :
  DI P ops mem R a0 perm (listed.setIfInBounds i true) (a.put o.dst (val i)) w' pre is val Fl J aS := by
 refine ⟨by simpa using I.lsize, r.closed, (Tk.put hnd hfit I.tk r.ho (by rw [r.lf]; decide) rfl).iff (fun q => (r.ls q).symm) (fun _ _ => rfl), I.perm, I.tkS, I.dw, I.st, I.st _ _ I.inv hx, fun f hf hq => I.fl f hf (r.lf2 _ hq).2, fun q hq => ?_, fun q hq h => (r.ls q).2 (.inr (I.memd q hq h)), fun q hq h => I.pend q hq (r.lf2 q h).2⟩
 rcases (r.ls q).1 hq with h | h
 ·subst h; exact hip
 exact I.sub q h
theorem DI.fire (hsel : ∀ (j : Nat) (o : Oper), ops[j]? = some o → notSel o = true) (hlook : ∀ (i : Nat) (o : Oper), ops[i]? = some o → ∀ t ∈ o.looksAt ops, ∀ (q : Nat) (o' : Oper), ops[q]? = some o' → o'.dst = some t → q = i ∨ ahead ops q i = true ∨ ahead ops i q = true)
  (I : DI P ops mem R a0 perm listed a w pre is val Fl J aS) (r : Rd ops listed i o) (hip : i ∈ pre) (hK : ∀ w', Ext w w' → K (a.put o.dst (val i)) w') : wpOp P ops Q i K a w := by
 obtain ⟨o', ai, L, h1, h2, h3, h4, h5, h6⟩ := I.pend i hip r.lf
 rw [r.ho] at h1; cases h1
 obtain ⟨he, hw⟩ := I.agr hsel hlook r ai L h2 h3 h4
 unfold wpOp
 rw [r.ho]
 simp only []
 rcases h6 with ⟨h6, h7⟩ | ⟨h6, h7⟩
 ·rw [← hw, h6]
  simp only [Bool.false_eq_true, if_false]
  have := hK w (Ext.rfl' _)
  rw [h7] at this
  exact this
 rw [← hw, h6]
 simp only [if_true]
 have hA : Adds P o ai w (val i) := by
  rcases h7 with h7 | ⟨h7, -⟩ | ⟨f, h7, h8⟩
  ·exact h7 w
  ·exact h7 w I.inv
  exact h8 w (I.fl _ h7 r.lf w I.inv)
 refine .inl (Oper.wp_mono (fun a' w' ⟨v, ha, hv, hx⟩ => ?_) (wp_move he (by rw [h2.size, I.tk.size]) hA))
 rw [ha, hv]
 exact hK w' hx
theorem DI.step (hnd : onceDst ops = true) (hfit : ∀ (j : Nat) (o : Oper) (d : Tmp), ops[j]? = some o → o.dst = some d → d < a0.tmps.size) (hsel : ∀ (j : Nat) (o : Oper), ops[j]? = some o → notSel o = true) (hlook : ∀ (i : Nat) (o : Oper), ops[i]? = some o → ∀ t ∈ o.looksAt ops, ∀ (q : Nat) (o' : Oper), ops[q]? = some o' → o'.dst = some t → q = i ∨ ahead ops q i = true ∨ ahead ops i q = true)
  (hnp : perm.Nodup) (hpo : pwOk ops [] perm = true) (I : DI P ops mem R a0 perm listed a w pre (i :: is) val Fl J aS) (hm : i ∈ mem) (r : Rd ops listed i o)
  (hK : ∀ a' w' val' J' aS', DI P ops mem R a0 perm (listed.setIfInBounds i true) a' w' (pre ++ [i]) is val' Fl J' aS' → K a' w') : wpOp P ops Q i K a w := by
 have hnp2 : (pre ++ i :: is).Nodup := I.perm ▸ hnp
 have hpw2 : pwOk ops [] (pre ++ i :: is) = true := I.perm ▸ hpo
 have hmp2 : i ∉ pre := fun h => by
  rw [List.nodup_append] at hnp2
  exact hnp2.2.2 i h i (by simp) rfl
 have hpb : ∀ q, q ∈ pre → q ≠ i ∧ ahead ops i q = false := by
  intro q hq
  refine ⟨fun e => hmp2 (e ▸ hq), ?_⟩
  obtain ⟨p1, p2, rfl⟩ := List.append_of_mem hq
  rw [List.append_assoc, List.cons_append] at hpw2
  exact (pwOk_at hpw2 i (by simp)).1
 obtain ⟨he, hw⟩ := I.agr hsel hlook r aS (· ∈ pre) I.tkS (fun q hq => I.sub q (r.prT q hq)) hpb
 have hdw := I.dw
 simp only [pm, List.map_cons, DWE] at hdw
 rw [if_pos (by simpa using hm)] at hdw
 have hoo : ops.getD i default = o := by simp [Array.getD_eq_getD_getElem?, r.ho]
 rw [hoo] at hdw
 unfold wpOp
 rw [r.ho]
 simp only []
 suffices nx : ∀ v J' w', (∀ w w', J' w → Ext w w' → J' w') → J' w' → (∀ f ∈ Fl, ahead ops f.1 i = false → ∀ w, listed.getD f.1 false = false → J' w → f.2 w) → DW P ops mem R (pm ops is) Fl J' (aS.put o.dst v) → K (a.put o.dst v) w' by
  rcases hdw with ⟨h1, h2⟩ | ⟨h1, h2⟩
  ·rw [← hw, h1]
   simp only [Bool.false_eq_true, if_false]
   exact nx undef J w I.st I.inv (fun f hf _ w hl hJ => I.fl f hf hl w hJ) h2
  rw [← hw, h1]
  simp only [if_true]
  refine .inl (Oper.wp_mono (fun a' w' ⟨v, ha, J', hst, hJ', hfl, hdw'⟩ => ?_) (wp_move he (by rw [I.tkS.size, I.tk.size]) (h2 w I.inv)))
  rw [ha]
  exact nx v J' w' hst hJ' (fun f hf ha w _ => hfl.at f hf ha w) hdw'
 intro v J' w' hst hJ' hfl hdw'
 have hval : ∀ q, q ∈ pre → val q = if q = i then v else val q := fun q hq => by rw [if_neg (hpb q hq).1]
 refine hK _ _ (fun q => if q = i then v else val q) J' (aS.put o.dst v) ⟨by simpa using I.lsize, r.closed, ?_, by rw [I.perm]; simp, ?_, hdw', hst, hJ', ?_, ?_, ?_, ?_⟩
 ·exact (Tk.put hnd hfit (I.tk.iff (fun _ => Iff.rfl) fun q hq => hval q (I.sub q hq)) r.ho (by rw [r.lf]; decide) (if_pos rfl)).iff (fun q => (r.ls q).symm) (fun _ _ => rfl)
 ·refine (Tk.put hnd hfit (I.tkS.iff (fun _ => Iff.rfl) hval) r.ho hmp2 (if_pos rfl)).iff (fun q => ?_) (fun _ _ => rfl)
  simp [or_comm]
 ·intro f hf hq
  refine fun w => hfl f hf ?_ w (r.lf2 _ hq).2
  cases ha : ahead ops f.1 i with
  | false => rfl
  | true => have h9 := (r.lf2 _ hq).2; rw [r.prT _ ha] at h9; cases h9
 ·intro q hq
  rcases (r.ls q).1 hq with h | h
  ·subst h; simp
  simp [I.sub q h]
 ·intro q hq hqp
  rcases List.mem_append.1 hqp with h | h
  ·exact (r.ls q).2 (.inr (I.memd q hq h))
  exact (r.ls q).2 (.inl (List.mem_singleton.1 h))
 intro q hq hlq
 obtain ⟨hqi, hlq⟩ := r.lf2 q hlq
 have hqp : q ∈ pre := by
  rcases List.mem_append.1 hq with h | h
  ·exact h
  exact (hqi (List.mem_singleton.1 h)).elim
 obtain ⟨o2, ai, L, h1, h2, h3, h4, h5, h6⟩ := I.pend q hqp hlq
 have hqv := hval q hqp
 refine ⟨o2, ai, L, h1, h2.iff (fun _ => Iff.rfl) (fun r hr => hval r (h5 r hr)), h3, h4, fun r hr => by simp [h5 r hr], ?_⟩
 simp only [← hqv]
 rcases h6 with h6 | ⟨h6, h7⟩
 ·exact .inl h6
 refine .inr ⟨h6, ?_⟩
 rcases h7 with h7 | ⟨h7, h8⟩ | ⟨f, h7, h8⟩
 ·exact .inl h7
 ·exfalso
  simp only [pm, List.map_cons, tied] at h8
  rw [show mem.contains i = true by simpa using hm] at h8
  rw [r.prT q h8] at hlq; cases hlq
 exact .inr (.inr ⟨f, h7, h8⟩)
end
structure Pre2 (P : Program) (ops : Array Oper) (a0 : Act) (pre : List Nat) (val : Nat → Value) (Fl : List (Nat × (World → Prop))) (J : World → Prop) (aS : Act) : Prop where
 tkS : Tk ops (· ∈ pre) val a0 aS
 fl : ∀ f ∈ Fl, ∀ w, J w → f.2 w
 pend : ∀ i, i ∈ pre → ∃ (o : Oper) (ai : Act) (L : Nat → Prop), ops[i]? = some o ∧ Tk ops L val a0 ai ∧ (∀ q, ahead ops q i = true → L q) ∧ (∀ q, L q → q ≠ i ∧ ahead ops i q = false) ∧ (∀ q, L q → q ∈ pre) ∧
  ((Region.wanted o (yielded ops ai.tmps) = false ∧ val i = undef) ∨ (Region.wanted o (yielded ops ai.tmps) = true ∧ ((∀ w, Adds P o ai w (val i)) ∨ ∃ f : World → Prop, (i, f) ∈ Fl ∧ ∀ w, f w → Adds P o ai w (val i))))
theorem walk2 {P : Program} {ops : Array Oper} {mem perm r0 : List Nat} {R : Act → World → Prop} {a0 : Act} {J : World → Prop} {l1 l2 : List (Nat × Oper)} (hnd : onceDst ops = true) (hfit : ∀ (j : Nat) (o : Oper) (d : Tmp), ops[j]? = some o → o.dst = some d → d < a0.tmps.size) (hno : ∀ i, ahead ops i i = false)
  (hnp : perm.Nodup) (hlt : ∀ i ∈ perm, i < ops.size) (hpo : pwOk ops [] perm = true) (hpre : ∀ i q, i ∈ perm → ahead ops q i = true → q ∈ perm) :
  ∀ (is pre : List Nat) (val : Nat → Value) (Fl : List (Nat × (World → Prop))) (aS : Act), perm = pre ++ (is ++ r0) → Pre2 P ops a0 pre val Fl J aS → DW2 P ops mem R l1 l2 (pm ops is) Fl J aS →
  ∃ val' Fl' aS', Pre2 P ops a0 (pre ++ is) val' Fl' J aS' ∧ DW P ops mem R l1 Fl' J aS' ∧ DW P ops mem R l2 Fl' J aS' := by
 intro is
 induction is with
 | nil => intro pre val Fl aS hp I h; exact ⟨val, Fl, aS, by rw [List.append_nil]; exact I, h.1, h.2⟩
 | cons i is ih =>
  intro pre val Fl aS hp I hdw
  have hip : i ∈ perm := by rw [hp]; simp
  have hi := hlt i hip
  have hp' : perm = pre ++ i :: (is ++ r0) := hp
  have hnd2 : (pre ++ i :: (is ++ r0)).Nodup := hp' ▸ hnp
  have hpo2 : pwOk ops [] (pre ++ i :: (is ++ r0)) = true := hp' ▸ hpo
  have hipre : i ∉ pre := fun h => by
   rw [List.nodup_append] at hnd2
   exact hnd2.2.2 i h i (by simp) rfl
  have hio : ops[i]? = some (ops.getD i default) := by simp [Array.getD, hi]
  have hpa : ∀ q, ahead ops q i = true → q ∈ pre := by
   intro q hq
   have hqp := hpre i q hip hq
   rw [hp'] at hqp
   rcases List.mem_append.1 hqp with h | h
   ·exact h
   rcases List.mem_cons.1 h with h | h
   ·subst h; rw [hno] at hq; cases hq
   have := (pwOk_at hpo2 q h).1
   rw [this] at hq; cases hq
  have hpb : ∀ q, q ∈ pre → q ≠ i ∧ ahead ops i q = false := by
   intro q hq
   refine ⟨fun e => hipre (e ▸ hq), ?_⟩
   obtain ⟨p1, p2, rfl⟩ := List.append_of_mem hq
   have h2 := hpo2
   rw [List.append_assoc, List.cons_append] at h2
   exact (pwOk_at h2 i (by simp)).1
  have next : ∀ v Fl', (∀ f ∈ Fl, f ∈ Fl') → (∀ f ∈ Fl', f ∈ Fl ∨ ∀ w, J w → f.2 w) → DW2 P ops mem R l1 l2 (pm ops is) Fl' J (aS.put (ops.getD i default).dst v) →
    ((Region.wanted (ops.getD i default) (yielded ops aS.tmps) = false ∧ v = undef) ∨ (Region.wanted (ops.getD i default) (yielded ops aS.tmps) = true ∧
     ((∀ w, Adds P (ops.getD i default) aS w v) ∨ ∃ f : World → Prop, (i, f) ∈ Fl' ∧ ∀ w, f w → Adds P (ops.getD i default) aS w v))) →
    ∃ val' Fl' aS', Pre2 P ops a0 (pre ++ i :: is) val' Fl' J aS' ∧ DW P ops mem R l1 Fl' J aS' ∧ DW P ops mem R l2 Fl' J aS' := by
   intro v Fl' hF1 hF2 hdw hob
   have hval : ∀ q, q ∈ pre → val q = if q = i then v else val q := fun q hq => by rw [if_neg (hpb q hq).1]
   have hg := ih (pre ++ [i]) (fun q => if q = i then v else val q) Fl' _ (by rw [hp]; simp) ⟨?_, ?_, ?_⟩ hdw
   ·rw [List.append_assoc] at hg; exact hg
   ·refine (Tk.put hnd hfit (I.tkS.iff (fun _ => Iff.rfl) hval) hio hipre (if_pos rfl)).iff (fun q => ?_) (fun _ _ => rfl)
    simp [or_comm]
   ·intro f hf
    rcases hF2 f hf with h | h
    ·exact I.fl f h
    exact h
   intro q hq
   rcases List.mem_append.1 hq with h | h
   ·obtain ⟨o, ai, L, h1, h2, h3, h4, h5, h6⟩ := I.pend q h
    have hqv := hval q h
    refine ⟨o, ai, L, h1, h2.iff (fun _ => Iff.rfl) (fun r hr => hval r (h5 r hr)), h3, h4, fun r hr => by simp [h5 r hr], ?_⟩
    simp only [← hqv]
    rcases h6 with h6 | ⟨h6, h7⟩
    ·exact .inl h6
    refine .inr ⟨h6, ?_⟩
    rcases h7 with h7 | ⟨f, h7, h8⟩
    ·exact .inl h7
    exact .inr ⟨f, hF1 _ h7, h8⟩
   have := List.mem_singleton.1 h
   subst this
   refine ⟨_, aS, (· ∈ pre), hio, I.tkS.iff (fun _ => Iff.rfl) hval, hpa, hpb, fun r hr => by simp [hr], ?_⟩
   simpa using hob
  simp only [pm, List.map_cons, DW2] at hdw
  rcases hdw with ⟨h1, h2⟩ | ⟨h1, v, ⟨h2, h3⟩ | ⟨f, h2, h3, h4⟩⟩
  ·exact next undef Fl (fun _ h => h) (fun _ h => .inl h) h2 (.inl ⟨h1, rfl⟩)
  ·exact next v Fl (fun _ h => h) (fun _ h => .inl h) h3 (.inr ⟨h1, .inl h2⟩)
  refine next v ((i, f) :: Fl) (fun _ h => List.mem_cons_of_mem _ h) (fun g hg => ?_) h4 (.inr ⟨h1, .inr ⟨f, by simp, h2⟩⟩)
  rcases List.mem_cons.1 hg with rfl | hg
  ·exact .inr h3
  exact .inl hg
def okT (ops : Array Oper) (mem pre r1 r2 : List Nat) (x y k : Nat) : Bool :=
 backward ops && (onceDst ops && (fitsDst ops k && (ops.all notSel && (lookOk ops && (pre.all (fun i => !mem.contains i) && (mem.contains x && (mem.contains y && (r1.all (fun i => i == y || ahead ops x i) &&
 (pwOk ops mem r1 && (pwOk ops mem r2 && (decide (pre ++ (x :: r1)).Nodup && (decide (pre ++ (y :: r2)).Nodup && (decide ((pre ++ (x :: r1)).length = ops.size) && (decide ((pre ++ (y :: r2)).length = ops.size) &&
 ((pre ++ (x :: r1)).all (· < ops.size) && ((pre ++ (y :: r2)).all (· < ops.size) && (pwOk ops [] (pre ++ (x :: r1)) && pwOk ops [] (pre ++ (y :: r2)))))))))))))))))))
theorem all_in {n : Nat} {perm : List Nat} (hnp : perm.Nodup) (hpl : perm.length = n) (hlt : ∀ i ∈ perm, i < n) (i : Nat) : i ∈ perm ↔ i < n := ⟨hlt i, fun hi => by
 have hsub : perm ⊆ List.range n := fun x hx => List.mem_range.2 (hlt x hx)
 exact Classical.byContradiction fun hni => by
  have h1 : (i :: perm).Nodup := List.nodup_cons.2 ⟨hni, hnp⟩
  have h2 : (i :: perm).length ≤ (List.range n).length := List.Nodup.length_le_of_subset h1 (fun x hx => by
   rcases List.mem_cons.1 hx with rfl | hx
   ·exact List.mem_range.2 hi
   exact hsub hx)
  simp at h2
  omega⟩
section
variable {n : Nat} {P : Program} {ops : Array Oper} {Q : Exit → Act → World → Prop} {a0 : Act} {w0 : World} {B : Base} {H : List Res}
theorem any_t {J : World → Prop} (mem pre r1 r2 : List Nat) (x y k : Nat) (hsize : a0.tmps.size = k) (hck : okT ops mem pre r1 r2 x y k = true) (hst : ∀ w w', J w → Ext w w' → J w') (hv : J w0)
    (h : DW2 P ops mem (Q .normal) (pm ops (x :: r1)) (pm ops (y :: r2)) (pm ops pre) [] J a0) : wpAny P .any ops Q ops.size (Array.replicate ops.size false) a0 { w0 with drawn := w0.drawn + 1 } := by
  unfold okT at hck
  simp only [Bool.and_eq_true] at hck
  obtain ⟨hbk, hnd, hft, hns, hlk, hpm, hx, hy, hxr, hm1, hm2, hn1, hn2, hl1, hl2, ht1, ht2, ho1, ho2⟩ := hck
  have hn1 := of_decide_eq_true hn1
  have hn2 := of_decide_eq_true hn2
  have hl1 := of_decide_eq_true hl1
  have hl2 := of_decide_eq_true hl2
  have hx : x ∈ mem := by simpa using hx
  have hy : y ∈ mem := by simpa using hy
  have hlt1 : ∀ i ∈ pre ++ (x :: r1), i < ops.size := fun i hi => by simpa using List.all_eq_true.1 ht1 i hi
  have hlt2 : ∀ i ∈ pre ++ (y :: r2), i < ops.size := fun i hi => by simpa using List.all_eq_true.1 ht2 i hi
  have ha1 := all_in hn1 hl1 hlt1
  have ha2 := all_in hn2 hl2 hlt2
  have hfit : ∀ (j : Nat) (o : Oper) (d : Tmp), ops[j]? = some o → o.dst = some d → d < a0.tmps.size := by
    intro j o d hj hd
    have := List.all_eq_true.1 hft o (by rw [List.mem_iff_getElem?]; exact ⟨j, by simpa using hj⟩)
    rw [hd] at this
    rw [hsize]
    simpa using this
  have hsel : ∀ (j : Nat) (o : Oper), ops[j]? = some o → notSel o = true := fun j o hj => by
    obtain ⟨hj2, rfl⟩ := Array.getElem?_eq_some_iff.1 hj
    exact (Array.all_eq_true.1 hns) j hj2
  have hlook : ∀ (i : Nat) (o : Oper), ops[i]? = some o → ∀ t ∈ o.looksAt ops, ∀ (q : Nat) (o' : Oper), ops[q]? = some o' → o'.dst = some t → q = i ∨ ahead ops q i = true ∨ ahead ops i q = true := fun i o hi t ht q o' hq hd => by
    have h1 := List.all_eq_true.1 hlk (o, i) (by rw [List.mem_iff_getElem?]; exact ⟨i, by simp [hi]⟩)
    have h2 := List.all_eq_true.1 h1 t ht
    have h3 := List.all_eq_true.1 h2 (o', q) (by rw [List.mem_iff_getElem?]; exact ⟨q, by simp [hq]⟩)
    simpa [hd] using h3
  have hno : ∀ i, ahead ops i i = false := fun i => by
    cases h : ahead ops i i with
    | false => rfl
    | true => have := ahead_lt hbk h; omega
  have hpre1 : ∀ i q, i ∈ pre ++ (x :: r1) → ahead ops q i = true → q ∈ pre ++ (x :: r1) := fun i q hi hq => (ha1 q).2 (Nat.lt_trans (ahead_lt hbk hq) (hlt1 i hi))
  obtain ⟨val, Fl, aS, I0, hd1, hd2⟩ := walk2 (r0 := x :: r1) hnd hfit hno hn1 hlt1 ho1 hpre1 pre [] (fun _ => undef) [] a0 rfl ⟨(Tk.start (val := fun _ => undef)).iff (fun q => by simp) (fun _ _ => rfl), fun f hf => (by cases hf), fun i hi => (by cases hi)⟩ h
  rw [List.nil_append] at I0
  have hxp : x ∉ pre := fun h => by
    rw [List.nodup_append] at hn1
    exact hn1.2.2 x h x (by simp) rfl
  have two : ∀ (fuel : Nat) (listed : Array Bool) (a : Act) (w : World), toCome ops listed ≤ fuel → DI P ops mem (Q .normal) a0 (pre ++ (x :: r1)) listed a w pre (x :: r1) val Fl J aS → DI P ops mem (Q .normal) a0 (pre ++ (y :: r2)) listed a w pre (y :: r2) val Fl J aS → wpAny P .any ops Q fuel listed a w := by
    have emp : ∀ (listed : Array Bool) (a : Act) (w : World), DI P ops mem (Q .normal) a0 (pre ++ (x :: r1)) listed a w pre (x :: r1) val Fl J aS → Region.ready .any ops listed = [] → False := fun listed a w I hr =>
      hxp (I.sub x (all_listed hbk I.lsize hr x ((ha1 x).1 (by simp))))
    intro fuel
    induction fuel with
    | zero =>
      intro listed a w hc I _
      have hr : Region.ready .any ops listed = [] := by
        rw [List.eq_nil_iff_forall_not_mem]
        intro i hi
        obtain ⟨o, _, hi2, hl, _⟩ := mem_ready hi
        have := toCome_set hi2 hl
        omega
      exact (emp _ _ _ I hr).elim
    | succ fuel ih =>
      intro listed a w hc I1 I2
      refine ⟨fun hr => (emp _ _ _ I1 hr).elim, fun i hi => ?_⟩
      obtain ⟨o, r⟩ := rd_of I1.lsize I1.closed hi
      have hct : toCome ops (listed.setIfInBounds i true) ≤ fuel := by have := r.ct; omega
      by_cases hip : i ∈ pre
      · exact I1.fire hsel hlook r hip fun w' hx => ih _ _ _ hct (I1.fired hnd hfit r hip hx) (I2.fired hnd hfit r hip hx)
      by_cases hix : i = x
      · subst hix
        exact I1.step hnd hfit hsel hlook hn1 ho1 hx r fun a' w' val' J' aS' I' => any_walk (R := Q .normal) hbk hnd hfit hsel hlook hno hn1 ha1 ho1 (fun _ _ h => h) _ _ _ _ _ _ _ _ _ _ hct I' hm1
      by_cases hiy : i = y
      · subst hiy
        exact I2.step hnd hfit hsel hlook hn2 ho2 hy r fun a' w' val' J' aS' I' => any_walk (R := Q .normal) hbk hnd hfit hsel hlook hno hn2 ha2 ho2 (fun _ _ h => h) _ _ _ _ _ _ _ _ _ _ hct I' hm2
      have hin := (ha1 i).2 r.lt
      simp only [List.mem_append, List.mem_cons] at hin
      rcases hin with h | h | h
      · exact (hip h).elim
      · exact (hix h).elim
      have h9 := List.all_eq_true.1 hxr i h
      rw [Bool.or_eq_true] at h9
      rcases h9 with h9 | h9
      · exact (hiy (by simpa using h9)).elim
      exact (hxp (I1.sub x (r.prT x h9))).elim
  have hnl : ∀ j, (Array.replicate ops.size false).getD j false = true → False := by
    intro j hl
    simp only [Array.getD_eq_getD_getElem?] at hl
    by_cases h : j < ops.size <;> simp [h] at hl
  have mk : ∀ (is : List Nat), DW P ops mem (Q .normal) (pm ops is) Fl J aS → DI P ops mem (Q .normal) a0 (pre ++ is) (Array.replicate ops.size false) a0 { w0 with drawn := w0.drawn + 1 } pre is val Fl J aS := fun is hd =>
    ⟨by simp, fun j o hj hl => (hnl j hl).elim, (Tk.start (val := val)).iff (fun q => ⟨False.elim, hnl q⟩) (fun _ _ => rfl), rfl, I0.tkS, hd, hst, hst _ _ hv (Ext.drew' w0), fun f hf _ => I0.fl f hf, fun q hq => (hnl q hq).elim,
     fun q hq hp => by have := List.all_eq_true.1 hpm q hp; simp [hq] at this, fun i hi _ => by
      obtain ⟨o, ai, L, h1, h2, h3, h4, h5, h6⟩ := I0.pend i hi
      refine ⟨o, ai, L, h1, h2, h3, h4, h5, ?_⟩
      rcases h6 with h6 | ⟨h6, h7 | h7⟩
      · exact .inl h6
      · exact .inr ⟨h6, .inl h7⟩
      exact .inr ⟨h6, .inr (.inr h7)⟩⟩
  refine two _ _ _ _ ?_ (mk _ hd1) (mk _ hd2)
  unfold toCome
  exact Nat.le_trans (List.countP_le_length) (by simp)
theorem rT {l : List Oper} {id : Nat} (hm : P.follows .mixedOrders = true) (R : Act → World → Prop) (mem pre r1 r2 : List Nat) (x y k : Nat) (hsize : a0.tmps.size = k) (hck : okT l.toArray mem pre r1 r2 x y k = true) (hv : Inv B H w0)
  (h0 : ∀ (R' : Act → World → Prop) (l1 l2 : List (Nat × Oper)), (∀ a w, R a w → R' a w) → l1 = qm l (x :: r1) → l2 = qm l (y :: r2) → DW2 P l.toArray mem R' l1 l2 (qm l pre) [] (Inv B H) a0) (hR : ∀ a w, R a w → Q .normal a w) : (Code.region id l.toArray true).wpIn Fence.wide n P Q a0 w0 := by
 have h := h0 R _ _ (fun _ _ h => h) rfl rfl
 have h2 : (Code.region id l.toArray true).wpIn Fence.wide n P (fun e a w => e = .normal ∧ R a w) a0 w0 := by
  refine wpIn_wide.2 (wp_region_any hm (any_t mem pre r1 r2 x y k hsize hck (fun _ _ h he => h.ext he) hv ?_))
  rw [qm_pm, qm_pm, qm_pm] at h
  have : (fun a w => (Exit.normal : Exit) = .normal ∧ R a w) = R := by funext a w; simp
  show DW2 P l.toArray mem (fun a w => (Exit.normal : Exit) = .normal ∧ R a w) _ _ _ _ _ _
  rw [this]; exact h
 exact wpIn_mono h2 (fun e a w ⟨h3, h4⟩ => by subst h3; exact hR a w h4)
end
section
variable {P : Program} {ops : Array Oper} {mem : List Nat} {R : Act → World → Prop} {l1 l2 : List (Nat × Oper)} {i : Nat} {o : Oper} {is : List (Nat × Oper)} {Fl : List (Nat × (World → Prop))} {J : World → Prop} {a : Act} {v : Value} {x y z : Operand}
theorem tB (h1 : DW P ops mem R l1 Fl J a) (h2 : DW P ops mem R l2 Fl J a) : DW2 P ops mem R l1 l2 [] Fl J a := ⟨h1, h2⟩
theorem tG (v : Value) (hw : Region.wanted o (yielded ops a.tmps) = true) (hr : ∀ {w}, Ex P a o w v w) (h : DW2 P ops mem R l1 l2 is Fl J (a.put o.dst v)) : DW2 P ops mem R l1 l2 ((i, o) :: is) Fl J a := by
 unfold DW2; exact .inr ⟨hw, v, .inl ⟨fun w => hr.addsv, h⟩⟩
theorem tF (v : Value) (hw : Region.wanted o (yielded ops a.tmps) = true) (hr : ∀ {w}, J w → Ex P a o w v w) (h : ∀ f : World → Prop, (∀ w, Ex P a o w v w → f w) → DW2 P ops mem R l1 l2 is ((i, f) :: Fl) J (a.put o.dst v)) : DW2 P ops mem R l1 l2 ((i, o) :: is) Fl J a := by
 unfold DW2; exact .inr ⟨hw, v, .inr ⟨fun w => Ex P a o w v w, fun w hx => hx.addsv, fun w hJ => hr hJ, h _ fun _ hx => hx⟩⟩
end
end Go.Pm
namespace Go.Proofs
open Go.Shelf
def Tryz.laysKeys_ren : Go.Shelf.Ren := ⟨fun | 7 => 177 | 10 => 185 | n => n, fun | 23 => 139 | 26 => 9 | 3 => 81 | 28 => 260 | 0 => 0 | 27 => 259 | 33 => 208 | 4 => 4 | n => n, fun | n => n⟩
theorem Tryz.laysKeys : Go.Proofs.SlLaysZ.n7 Tryz.prog Tryz.laysKeys_ren := {
 mixed := by kernel_rfl
 f7 := ⟨Tryz.f177.name, by decide, Tryz.func177.trans (congrArg some (by kernel_rfl))⟩
 f10 := ⟨Tryz.f185.name, by decide, Tryz.func185.trans (congrArg some (by kernel_rfl))⟩
 t0 := Tryz.underlying0
 a0 := Tryz.isAgg0
 z0 := Tryz.sizeOf0
 v0 := Tryz.zeroValue0
 t4 := Tryz.underlying4
 a4 := Tryz.isAgg4
 z4 := Tryz.sizeOf4
 v4 := Tryz.zeroValue4
 t23 := Tryz.underlying139
 a23 := Tryz.isAgg139
 z23 := Tryz.sizeOf139
 v23 := Tryz.zeroValue139
 t26 := Tryz.underlying9
 a26 := Tryz.isAgg9
 z26 := Tryz.sizeOf9
 v26 := Tryz.zeroValue9
 t27 := Tryz.underlying259
 a27 := Tryz.isAgg259
 z27 := Tryz.sizeOf259
 v27 := Tryz.zeroValue259
 t28 := Tryz.underlying260
 a28 := Tryz.isAgg260
 z28 := Tryz.sizeOf260
 v28 := Tryz.zeroValue260
 t33 := Tryz.underlying208
 a33 := Tryz.isAgg208
 z33 := Tryz.sizeOf208
 v33 := Tryz.zeroValue208 }
def Tryz.laysKeys1_ren : Go.Shelf.Ren := ⟨fun | 10 => 185 | n => n, fun | 33 => 208 | 23 => 139 | 0 => 0 | 4 => 4 | 26 => 9 | 3 => 81 | n => n, fun | n => n⟩
theorem Tryz.laysKeys1 : Go.Proofs.SlLaysZ.n10 Tryz.prog Tryz.laysKeys1_ren := {
 mixed := by kernel_rfl
 f10 := ⟨Tryz.f185.name, by decide, Tryz.func185.trans (congrArg some (by kernel_rfl))⟩
 t0 := Tryz.underlying0
 a0 := Tryz.isAgg0
 z0 := Tryz.sizeOf0
 v0 := Tryz.zeroValue0
 t4 := Tryz.underlying4
 a4 := Tryz.isAgg4
 z4 := Tryz.sizeOf4
 v4 := Tryz.zeroValue4
 t23 := Tryz.underlying139
 a23 := Tryz.isAgg139
 z23 := Tryz.sizeOf139
 v23 := Tryz.zeroValue139
 t26 := Tryz.underlying9
 a26 := Tryz.isAgg9
 z26 := Tryz.sizeOf9
 v26 := Tryz.zeroValue9
 t33 := Tryz.underlying208
 a33 := Tryz.isAgg208
 z33 := Tryz.sizeOf208
 v33 := Tryz.zeroValue208 }
def Tryz.laysApp_ren : Go.Shelf.Ren := ⟨fun | 11 => 176 | n => n, fun | 24 => 23 | 26 => 9 | 28 => 260 | 0 => 0 | 33 => 208 | 4 => 4 | n => n, fun | n => n⟩
theorem Tryz.laysApp : Go.Proofs.SlLaysZ.n11 Tryz.prog Tryz.laysApp_ren := {
 mixed := by kernel_rfl
 f11 := ⟨Tryz.f176.name, by decide, Tryz.func176.trans (congrArg some (by kernel_rfl))⟩
 t0 := Tryz.underlying0
 a0 := Tryz.isAgg0
 z0 := Tryz.sizeOf0
 v0 := Tryz.zeroValue0
 t24 := Tryz.underlying23
 a24 := Tryz.isAgg23
 z24 := Tryz.sizeOf23
 v24 := Tryz.zeroValue23
 t26 := Tryz.underlying9
 a26 := Tryz.isAgg9
 z26 := Tryz.sizeOf9
 v26 := Tryz.zeroValue9
 t28 := Tryz.underlying260
 a28 := Tryz.isAgg260
 z28 := Tryz.sizeOf260
 v28 := Tryz.zeroValue260
 i26 := by kernel_rfl }
def Tryz.laysSort_ren : Go.Shelf.Ren := ⟨fun | 190 => 178 | 125 => 187 | 258 => 186 | 128 => 202 | 129 => 128 | 302 => 193 | 303 => 194 | 304 => 195 | 305 => 196 | 306 => 197 | 307 => 198 | 308 => 199 | 309 => 200 | 310 => 201 | 333 => 209 | 329 => 210 | 330 => 211 | 334 => 212 | 335 => 213 | 336 => 214 | 344 => 219 | n => n, fun | 31 => 23 | 9 => 9 | 3 => 3 | 46 => 199 | 0 => 0 | 51 => 215 | 53 => 196 | 4 => 4 | 183 => 269 | 182 => 268 | 131 => 156 | 5 => 5 | 218 => 279 | 222 => 183 | 228 => 288 | 229 => 178 | n => n, fun | n => n⟩
theorem Tryz.laysSort : Go.Proofs.Lays.n190 Tryz.prog Tryz.laysSort_ren := {
 mixed := by kernel_rfl
 f125 := Tryz.func187.trans (congrArg some (by kernel_rfl))
 f128 := Tryz.func202.trans (congrArg some (by kernel_rfl))
 f129 := Tryz.func128.trans (congrArg some (by kernel_rfl))
 f190 := Tryz.func178.trans (congrArg some (by kernel_rfl))
 f258 := Tryz.func186.trans (congrArg some (by kernel_rfl))
 f302 := Tryz.func193.trans (congrArg some (by kernel_rfl))
 f303 := Tryz.func194.trans (congrArg some (by kernel_rfl))
 f304 := Tryz.func195.trans (congrArg some (by kernel_rfl))
 f305 := Tryz.func196.trans (congrArg some (by kernel_rfl))
 f306 := Tryz.func197.trans (congrArg some (by kernel_rfl))
 f307 := Tryz.func198.trans (congrArg some (by kernel_rfl))
 f308 := Tryz.func199.trans (congrArg some (by kernel_rfl))
 f309 := Tryz.func200.trans (congrArg some (by kernel_rfl))
 f310 := Tryz.func201.trans (congrArg some (by kernel_rfl))
 f329 := Tryz.func210.trans (congrArg some (by kernel_rfl))
 f330 := Tryz.func211.trans (congrArg some (by kernel_rfl))
 f333 := Tryz.func209.trans (congrArg some (by kernel_rfl))
 f334 := Tryz.func212.trans (congrArg some (by kernel_rfl))
 f335 := Tryz.func213.trans (congrArg some (by kernel_rfl))
 f336 := Tryz.func214.trans (congrArg some (by kernel_rfl))
 f344 := Tryz.func219.trans (congrArg some (by kernel_rfl))
 t0 := Tryz.underlying0
 a0 := Tryz.isAgg0
 z0 := Tryz.sizeOf0
 v0 := Tryz.zeroValue0
 t3 := Tryz.underlying3
 a3 := Tryz.isAgg3
 z3 := Tryz.sizeOf3
 v3 := Tryz.zeroValue3
 t4 := Tryz.underlying4
 a4 := Tryz.isAgg4
 z4 := Tryz.sizeOf4
 v4 := Tryz.zeroValue4
 t5 := Tryz.underlying5
 a5 := Tryz.isAgg5
 z5 := Tryz.sizeOf5
 v5 := Tryz.zeroValue5
 t9 := Tryz.underlying9
 a9 := Tryz.isAgg9
 z9 := Tryz.sizeOf9
 v9 := Tryz.zeroValue9
 t31 := Tryz.underlying23
 a31 := Tryz.isAgg23
 z31 := Tryz.sizeOf23
 v31 := Tryz.zeroValue23
 t46 := Tryz.underlying199
 a46 := Tryz.isAgg199
 z46 := Tryz.sizeOf199
 v46 := Tryz.zeroValue199
 t51 := Tryz.underlying215
 a51 := Tryz.isAgg215
 z51 := Tryz.sizeOf215
 v51 := Tryz.zeroValue215
 t53 := Tryz.underlying196
 a53 := Tryz.isAgg196
 z53 := Tryz.sizeOf196
 v53 := Tryz.zeroValue196
 t131 := Tryz.underlying156
 a131 := Tryz.isAgg156
 z131 := Tryz.sizeOf156
 v131 := Tryz.zeroValue156
 t182 := Tryz.underlying268
 a182 := Tryz.isAgg268
 z182 := Tryz.sizeOf268
 v182 := Tryz.zeroValue268
 t183 := Tryz.underlying269
 a183 := Tryz.isAgg269
 z183 := Tryz.sizeOf269
 v183 := Tryz.zeroValue269
 t218 := Tryz.underlying279
 a218 := Tryz.isAgg279
 z218 := Tryz.sizeOf279
 v218 := Tryz.zeroValue279
 t222 := Tryz.underlying183
 a222 := Tryz.isAgg183
 z222 := Tryz.sizeOf183
 v222 := Tryz.zeroValue183
 t228 := Tryz.underlying288
 a228 := Tryz.isAgg288
 z228 := Tryz.sizeOf288
 v228 := Tryz.zeroValue288
 t229 := Tryz.underlying178
 a229 := Tryz.isAgg178
 z229 := Tryz.sizeOf178
 v229 := Tryz.zeroValue178 }
end Go.Proofs
namespace Go.Proofs.YtmpackidbgfoiaaGreatDoor
open Go.RowKit Go.Pm Go.Sort Go.Shelf
abbrev keyT : TypeId := 9
theorem mapKeys (B : Base) (H : List Res) (w : World) (mb : Option Nat) (hv : Pm.Inv B H w) : Calls Tryz.prog 177 #[.map mb] w fun e w' => ∃ b, e = .returned (.func (.func 185) #[] #[.pointer (some ⟨b, 0, none⟩)]) ∧ Pm.Inv B (Res.cell b [.map mb] 139 :: H) w' := by
 have h := AnyZ.keys_in Tryz.laysKeys Fence.wide 5 trivial rfl mb w
 refine (callsIn_wide (n := 5)).1 (h.mono ?_)
 rintro e w' ⟨rfl, rfl⟩
 exact ⟨_, rfl, hv.alloc _ _⟩
abbrev RN (_ : Value) : Option (DataW Unit × List MemPlace) := some (.nil, [])
theorem rd_key (k : List UInt8) (hk : k.length ≤ maxLen) (v : Value) (n : Nat) : WideElems.rd Tryz.prog keyT RN { key := strV k, val := v, born := n } = some (.string k, .nil) := by
 have h : keyOf Tryz.prog keyT (strV k) = some (.string k) := by
  have h1 := WideMaps.keyOf_string_mk (P := Tryz.prog) (k := keyT) Tryz.underlying9 (s := ⟨k.toArray⟩) (by show k.toArray.size ≤ maxLen; simpa using hk)
  simpa using h1
 simp [WideElems.rd, h, RN]
theorem vmap_owns {w : World} {b : Nat} {es : List (List UInt8 × Value)} (h : (Res.vmap b es).holds w) (hk : ∀ x ∈ es, x.1.length ≤ maxLen) (hm : es.length ≤ maxLen) :
  ∃ D : DataW Unit, w.ownsMap Tryz.prog keyT RN b es.length D ∧ (strKeys D).Perm (es.map (·.1)) := by
 obtain ⟨E, clock, h1, h2, h3⟩ := h
 have hl : E.size = es.length := by have := congrArg List.length h3; simpa using this
 have hrd : ∀ x ∈ E.toList, ∃ k, (∃ v, (k, v) ∈ es) ∧ x.key = strV k ∧ WideElems.rd Tryz.prog keyT RN x = some (.string k, .nil) := by
  intro x hx
  obtain ⟨j, hj⟩ := List.mem_iff_getElem?.1 hx
  have h9 := congrArg (fun l => l[j]?) h3
  simp only [List.getElem?_map, hj, Option.map_some] at h9
  cases hx2 : es[j]? with
  | none => rw [hx2] at h9; simp at h9
  | some y =>
   rw [hx2] at h9
   simp only [Option.map_some, kv, Option.some.injEq, Prod.mk.injEq] at h9
   have hy := List.mem_of_getElem? hx2
   obtain ⟨xk, xv, xb⟩ := x
   simp only at h9
   obtain ⟨rfl, rfl⟩ := h9
   exact ⟨y.1, ⟨y.2, hy⟩, rfl, rd_key y.1 (hk y hy) _ _⟩
 refine ⟨_, ⟨E, clock, h1, ⟨by omega, h2, fun x hx => by obtain ⟨k, -, -, h⟩ := hrd x hx; exact ⟨_, h⟩⟩, by omega, rfl⟩, ?_⟩
 have hp : (strKeys (DataW.map ((E.toList.map (WideElems.rg Tryz.prog keyT RN)).foldr DataW.insert []))).Perm ((E.toList.map (WideElems.rg Tryz.prog keyT RN)).map fun p => strOf p.1) := (WideShapes.sorted_perm _).map _
 refine hp.trans (List.Perm.of_eq ?_)
 rw [List.map_map]
 have h4 : E.toList.map (fun e => e.key) = es.map (fun x => strV x.1) := by
  have := congrArg (List.map Prod.fst) h3
  simpa [List.map_map, Function.comp_def, kv] using this
 have h5 : ∀ x ∈ E.toList, strV (((fun p : Lit × DataW Unit => strOf p.1) ∘ WideElems.rg Tryz.prog keyT RN) x) = x.key := by
  intro x hx
  obtain ⟨k, -, hk1, h⟩ := hrd x hx
  simp [Function.comp, WideElems.rg, h, hk1, strOf]
 have h6 : (E.toList.map ((fun p : Lit × DataW Unit => strOf p.1) ∘ WideElems.rg Tryz.prog keyT RN)).map strV = (es.map (·.1)).map strV := by
  rw [List.map_map, List.map_map]
  have : E.toList.map (strV ∘ ((fun p : Lit × DataW Unit => strOf p.1) ∘ WideElems.rg Tryz.prog keyT RN)) = E.toList.map (fun e => e.key) := List.map_congr_left fun x hx => h5 x hx
  rw [this, h4]; rfl
 exact (List.map_inj_right (fun a b e => strV_inj e)).1 h6
theorem row_new {B : Base} {H : List Res} {w w' : World} {e : TypeId} {size n : Nat} {v : Value} {xs : List Value} (hv : Pm.Inv B H w) (h : w'.ownsRow w.heap.size e size v n xs) (hb : Below w.heap.size w w') : Pm.Inv B (Res.row e size v n xs :: H) w' := by
 have h0 : w'.ownsRow 0 e size v n xs := ⟨h.1, h.2.imp id fun ⟨g, cap, cur, h1, _, h3⟩ => ⟨g, cap, cur, h1, Nat.zero_le _, h3⟩⟩
 refine hv.new hb (Res.row e size v n xs) h0 (fun b hb9 => ?_) ?_
 ·rcases h.2 with ⟨rfl, -⟩ | ⟨g, cap, cur, rfl, h2, h3, -⟩
  ·simp [Value.ownBlock] at hb9
  simp [Value.ownBlock] at hb9
  subst hb9
  exact ⟨h2, (Array.getElem?_eq_some_iff.1 h3).1⟩
 show v.ownBlock.toList.Nodup
 cases v.ownBlock with
 | none => exact List.Pairwise.nil
 | some b => simp
theorem appendKeys (B : Base) (H : List Res) (w : World) (b wb : Nat) (es : List (List UInt8 × Value)) (hk : ∀ x ∈ es, x.1.length ≤ maxLen) (hm : es.length ≤ 1000000) (hv : Pm.Inv B (Res.cell b [.map (some wb)] 139 :: Res.vmap wb es :: H) w) :
  Calls Tryz.prog 176 #[.slice none 0 0, .func (.func 185) #[] #[.pointer (some ⟨b, 0, none⟩)]] w fun e w' => ∃ v ss, e = .returned v ∧ ss.Perm (es.map (·.1)) ∧ Pm.Inv B (Res.row keyT 1 v ss.length (textCells ss) :: Res.cell b [.map (some wb)] 139 :: Res.vmap wb es :: H) w' := by
 obtain ⟨D, hown, hperm⟩ := vmap_owns (hv.get 1 rfl) hk (by unfold maxLen; omega)
 have hsz := hown.size_le
 have hg := AnyZ.keys_gives Tryz.laysKeys1 Fence.wide 4 trivial rfl (by omega) b wb es.length D w (hv.lt _ (List.mem_cons_self) b (by simp)) (hv.load 0 0 rfl rfl) hown
 have he : ∀ args w, (callFunc 185 args).run Tryz.prog w = .ok (.enter 185 args) w := Tryz.laysKeys1.f10.enters rfl
 have h := AnyZ.appendSeq_in Tryz.laysApp Fence.wide 5 trivial rfl (by omega) 185 #[.pointer (some ⟨b, 0, none⟩)] trivial he _ (Maps.size D) (by unfold maxLen; omega) (by omega) w hg
 refine (callsIn_wide (n := 5)).1 (h.mono ?_)
 rintro e w' ⟨v, ss, rfl, hS, hrow, -, hb⟩
 exact ⟨v, ss, rfl, hS.trans hperm, row_new hv hrow hb⟩
theorem sortTexts (B : Base) (H : List Res) (w : World) (v : Value) (l : List (List UInt8)) (hm : l.length ≤ 1000000) (hv : Pm.Inv B (Res.row keyT 1 v l.length (textCells l) :: H) w) :
  Calls Tryz.prog 178 #[v] w fun e w' => e = .returned (.tuple #[]) ∧ Pm.Inv B (Res.row keyT 1 v l.length (textCells (l.mergeSort leB)) :: H) w' := by
 rcases (hv.head : w.ownsRow 0 keyT 1 v l.length (textCells l)).2 with ⟨rfl, hz⟩ | ⟨g, cap, cur, rfl, h0, hgb, r1, r2, r3, r4⟩
 ·have hl : l = [] := List.eq_nil_of_length_eq_zero hz
  subst hl
  refine (Any.slices_Sort_string_none Tryz.laysSort none 0 w).mono ?_
  rintro e w' ⟨rfl, rfl⟩
  exact ⟨rfl, by simpa using hv⟩
 have hH : Holds encStr w g 0 l.toArray := holds_of_block hgb (by rw [Nat.mul_one] at r4; exact r4)
 refine (Any.slices_Sort_string Tryz.laysSort g 0 cap l w hH (Array.getElem?_eq_some_iff.1 hgb).1 (by omega)).mono ?_
 rintro e w' ⟨rfl, n, os, rfl⟩
 have hgr := grownBy_sorted (w := w) (g := g) (n := n) (os := os) (l.mergeSort leB).toArray
 have hr := ownsRow_sorted (n := n) (os := os) (ss := l) (ts := l.mergeSort leB) (by simp) h0 hgb r1 r2 r3
 refine ⟨rfl, hv.upd _ ⟨hgr.os, hgr.tape, hgr.output, hgr.size, fun k hk hn => hgr.block k hk (fun e => hn (by cases e; simp [Value.ownBlock]))⟩ hr (fun b hb => .inl hb) (fun b hb => Nat.lt_of_lt_of_le (hv.headLt b hb) hgr.size) (by simp [Value.ownBlock])⟩
end Go.Proofs.YtmpackidbgfoiaaGreatDoor
namespace Go.Pm
open Go.RowKit
section
variable {kept mid l : List (List UInt8)} {j : Nat} {x g : List UInt8} {p : List UInt8 → Bool}
theorem textCells_app (a b : List (List UInt8)) : textCells (a ++ b) = textCells a ++ textCells b := by simp [textCells]
theorem textCells_get (h : l[j]? = some x) : (textCells l)[j]? = some (strV x) := by rw [textCells, List.getElem?_map, h]; rfl
theorem textCells_set (l : List (List UInt8)) (i : Nat) (x : List UInt8) : (textCells l).set i (strV x) = textCells (l.set i x) := by simp [textCells, List.map_set]
theorem textCells_n (l : List (List UInt8)) : (textCells l).length = l.length := by simp [textCells]
theorem df_get (h : l[j]? = some x) (hl : kept.length + mid.length = j) : (textCells (kept ++ mid ++ l.drop j))[j]? = some (strV x) := by
 refine textCells_get ?_
 rw [List.getElem?_append_right (by rw [List.length_append]; omega), List.length_append, hl, Nat.sub_self, List.getElem?_drop]
 exact h
theorem df_drop (h : l[j]? = some x) : l.drop j = x :: l.drop (j + 1) := by
 obtain ⟨hj, rfl⟩ := List.getElem?_eq_some_iff.1 h
 exact List.drop_eq_getElem_cons hj
theorem df_set (h : l[j]? = some x) : (textCells (kept ++ (g :: mid) ++ l.drop j)).set kept.length (strV x) = textCells (kept ++ [x] ++ (mid ++ [x]) ++ l.drop (j + 1)) := by
 rw [textCells_set, df_drop h, List.append_assoc, List.set_append_right _ _ (Nat.le_refl _), Nat.sub_self]
 simp
theorem df_skip (h : l[j]? = some x) : kept ++ mid ++ l.drop j = kept ++ (mid ++ [x]) ++ l.drop (j + 1) := by
 rw [df_drop h]; simp
theorem df_filter (h : l[j]? = some x) : (l.take (j + 1)).filter p = (l.take j).filter p ++ if p x then [x] else [] := by
 rw [take_next h, List.filter_append]
 cases hp : p x <;> simp [hp]
theorem df_start (h : l[j]? = some x) (hx : p x = true) (hn : ∀ y ∈ l.take j, p y = false) : (l.take (j + 1)).filter (fun y => !p y) = l.take j ∧ l = l.take j ++ [x] ++ l.drop (j + 1) := by
 constructor
 ·rw [df_filter h, hx, List.filter_eq_self.2 (fun y hy => by rw [hn y hy]; rfl)]
  simp
 conv => lhs; rw [← List.take_append_drop j l, df_drop h]
 simp
end
end Go.Pm
namespace Go.Proofs.YtmpackidbgfoiaaGreatDoor
open Go.RowKit Go.Pm
theorem s24es23 (w : World) : (sizeOf (Tryz.prog.elem 23)).run Tryz.prog w = .ok 1 w := by kernel_rfl
theorem s24na9 (w : World) : (isAgg 9).run Tryz.prog w = .ok false w := by kernel_rfl
theorem indexFuncO (B : Base) (H : List Res) (w : World) (f : FuncId) (cb : Array Value) (ra : Option Addr) (rc : Nat) (l : List (List UInt8)) (pr : List UInt8 → Bool) (hm : l.length ≤ 1000000) (hcal : Callable Tryz.prog f) (hf : ∀ (x : List UInt8) (r : Res) (w : World), Inv B (r :: H) w → Calls Tryz.prog f (#[vS x] ++ cb) w fun e w' => e = .returned (.bool (pr x)) ∧ Inv B (r :: H) w') (hv : Inv B (Res.row 9 1 (.slice ra l.length rc) l.length (textCells l) :: H) w) :
  Calls Tryz.prog 162 #[.slice ra l.length rc, .func (.func f) #[] cb] w fun e w' => ∃ r : Int, e = .returned (vI r) ∧ ((r = -1 ∧ ∀ y ∈ l, pr y = false) ∨ ∃ (i : Nat) (x : List UInt8), r = (i : Int) ∧ l[i]? = some x ∧ pr x = true ∧ ∀ y ∈ l.take i, pr y = false) ∧ Inv B (Res.row 9 1 (.slice ra l.length rc) l.length (textCells l) :: H) w' := by
 refine cW Tryz.func162 rfl Tryz.ntmps162 ?_
 simp only [al]
 refine sK fun _ k1 => rL (uA rfl ?_)
 refine uW k1 (sK fun _ k2 => ?_)
 refine sK fun _ k3 => rL (uM rfl ?_)
 refine uG (vI (l.length : Int)) rfl (ex_len0 Tryz.underlying23 rfl rfl) (uM rfl ?_)
 refine uW k3 (bB ?_)
 gi_loopw [8] (fun x8 wr => ∃ (i : Nat), x8 = vI i ∧ i ≤ l.length ∧ (∀ j x, j < i → l[j]? = some x → pr x = false) ∧ Inv B (Res.row 9 1 (.slice ra l.length rc) l.length (textCells l) :: H) wr) (fun x8 _ => l.length - (intOf x8).toNat)
 case atStart => exact ⟨0, rfl, Nat.zero_le _, fun j x h => by omega, hv⟩
 case round =>
  obtain ⟨i, rfl, hi, hno, hv⟩ := hrel
  refine sK fun _ k5 => rL ?_
  by_cases hb6 : (i : Int) < (l.length : Int)
  ·refine uG (.bool true) rfl (ex_lss rfl rfl rfl (qT hb6)) (uW k5 ?_)
   refine sK fun _ k7 => cT rfl (kS ?_)
   refine tK k7 (sK fun _ k8 => ?_)
   refine bB (sK fun _ k9 => ?_)
   refine rL (uM rfl ?_)
   refine uA rfl (uW k9 ?_)
   refine sK fun _ k10 => ?_
   obtain ⟨x, hx⟩ : ∃ x, l[i]? = some x := ⟨_, List.getElem?_eq_getElem (show i < l.length by omega)⟩
   obtain ⟨b, rfl⟩ := row_some hv.head (by omega)
   refine rL (uM rfl ?_)
   refine uM rfl (uM rfl ?_)
   refine uG (.pointer (some ⟨b, 0 + i, none⟩)) rfl (ex_index rfl rfl rfl (run_idx1 (k := i) Tryz.underlying23 s24es23 (by omega))) ?_
   refine uL _ rfl (run_load1 s24na9 (row_load (hv.get 0 rfl) (textCells_get hx))) ?_
   refine wpi_callV hcal tV wideC rfl (wn rfl) rfl rfl (args := #[vS x]) (by simp only [List.map_toArray, List.map_cons, List.map_nil]; rfl) ((hf x _ _ hv).mono ?_)
   rintro e w11 ⟨rfl, hv⟩
   refine ⟨_, rfl, uW k10 ?_⟩
   refine wpIn_cond_split (t := pr x) rfl (fun hc12 => ?_) (fun hc12 => ?_)
   ·refine sK fun _ k13 => rL (uM rfl ?_)
    refine uA rfl (uW k13 ?_)
    refine rR (bZ ?_)
    refine tR (tR ?_)
    refine bZ (tR ?_)
    refine bR rfl rfl (⟨_, rfl, .inr ⟨i, x, rfl, hx, by simpa using hc12, fun y hy => (by obtain ⟨j, hj⟩ := List.mem_iff_getElem?.1 hy; have h9 := (List.getElem?_eq_some_iff.1 hj).1; rw [List.length_take] at h9; rw [List.getElem?_take_of_lt (by omega)] at hj; exact hno j y (by omega) hj)⟩, hv⟩)
   refine kS (bN ?_)
   refine tK k8 (rL ?_)
   refine uG (vI ((i + 1 : Nat) : Int)) rfl (ex_add rfl rfl rfl (by rw [i64_in (by omega)]; omega)) (uM rfl ?_)
   refine uZ (then_normal ?_)
   go_roundw
   case rel => exact ⟨i + 1, rfl, by omega, fun j x' hj hx' => (by
      rcases Nat.lt_or_ge j i with h | h
      ·exact hno j x' h hx'
      obtain rfl : j = i := by omega
      rw [hx] at hx'; cases hx'
      simpa using hc12), hv⟩
   case measure => show l.length - (((i + 1 : Nat) : Int)).toNat < l.length - ((i : Int)).toNat; omega
  refine uG (.bool false) rfl (ex_lss rfl rfl rfl (qF hb6)) (uW k5 ?_)
  refine sK fun _ k14 => cF rfl (xE ?_)
  refine tX (tX ?_)
  refine bH (tK k2 ?_)
  refine sK fun _ k15 => rL (uA rfl ?_)
  refine uW k15 (rR ?_)
  refine bR rfl rfl ?_
  obtain rfl : i = l.length := by omega
  exact ⟨_, rfl, .inl ⟨rfl, fun y hy => (by obtain ⟨j, hj⟩ := List.mem_iff_getElem?.1 hy; exact hno j y (List.getElem?_eq_some_iff.1 hj).1 hj)⟩, hv⟩
theorem s24callable162 : Callable Tryz.prog 162 := cb Tryz.func162 (by kernel_rfl)
theorem s24sz9 : (Tryz.prog.info? 9).map (·.size) = some 1 := by kernel_rfl
theorem s24mk9 : (Tryz.prog.info? 9).map (fun i => (i.zero, i.size, i.bytes)) = some (some (vS []), 1, 16) := by kernel_rfl
theorem s24el23 : Elem Tryz.prog 23 9 (vS []) 1 16 := elem_of Tryz.underlying23 s24mk9 (by rfl) (by decide)
theorem deleteFunc (B : Base) (H : List Res) (w : World) (f : FuncId) (cb : Array Value) (ra : Option Addr) (rc : Nat) (l : List (List UInt8)) (pr : List UInt8 → Bool) (hm : l.length ≤ 1000000) (hcal : Callable Tryz.prog f) (hf : ∀ (x : List UInt8) (r : Res) (w : World), Inv B (r :: H) w → Calls Tryz.prog f (#[vS x] ++ cb) w fun e w' => e = .returned (.bool (pr x)) ∧ Inv B (r :: H) w') (hv : Inv B (Res.row 9 1 (.slice ra l.length rc) l.length (textCells l) :: H) w) :
  Calls Tryz.prog 155 #[.slice ra l.length rc, .func (.func f) #[] cb] w fun e w' => ∃ ra' rc', e = .returned (.slice ra' (l.filter fun y => !pr y).length rc') ∧ Inv B (Res.row 9 1 (.slice ra' (l.filter fun y => !pr y).length rc') (l.filter fun y => !pr y).length (textCells (l.filter fun y => !pr y)) :: H) w' := by
 refine cW Tryz.func155 rfl Tryz.ntmps155 ?_
 simp only [al]
 refine sK fun _ k1 => rL (uA rfl ?_)
 refine uW k1 (sK fun _ k2 => ?_)
 refine rL (uM rfl ?_)
 refine uM rfl ?_
 refine xC s24callable162 rfl ((indexFuncO B H _ f cb ra rc l pr hm hcal hf hv).mono ?_) rfl
 rintro e w3 ⟨r, rfl, hor, hv⟩
 refine ⟨_, rfl, ?_⟩
 rcases hor with ⟨rfl, hno⟩ | ⟨i0, x0, rfl, hx0, hp0, hno⟩
 ·refine uA rfl (uW k2 ?_)
  refine sK fun _ k4 => sK fun _ k5 => rL (uM rfl ?_)
  refine uG (.bool true) rfl (ex_eql rfl rfl rfl (by decide)) (uW k5 ?_)
  refine cT rfl (sK fun _ k6 => ?_)
  refine rL (uM rfl ?_)
  refine uA rfl (uW k6 ?_)
  refine rR (tR ?_)
  refine bR rfl rfl ?_
  have hfl : l.filter (fun y => !pr y) = l := List.filter_eq_self.2 (fun y hy => by rw [hno y hy]; rfl)
  rw [hfl]
  exact ⟨_, _, rfl, hv⟩
 have hi0 : i0 < l.length := (List.getElem?_eq_some_iff.1 hx0).1
 obtain ⟨b, rfl⟩ := row_some hv.head (by omega)
 obtain ⟨hst, hsl⟩ := df_start hx0 hp0 hno
 refine uA rfl (uW k2 ?_)
 refine sK fun _ k7 => sK fun _ k8 => rL (uM rfl ?_)
 refine uG (.bool false) rfl (ex_eql rfl rfl rfl (qF (by omega))) (uW k8 ?_)
 refine cF rfl (kS ?_)
 refine tK k7 (sK fun _ k9 => ?_)
 refine sK fun _ k10 => rL (uM rfl ?_)
 refine uG (vI ((i0 + 1 : Nat) : Int)) rfl (ex_add rfl rfl rfl (by rw [i64_in (by omega)]; omega)) (uA rfl ?_)
 refine uW k10 (bB ?_)
 gi_loopw [5, 6] (fun x5 x6 wr => ∃ (i j : Nat) (kept mid : List (List UInt8)), x5 = vI i ∧ x6 = vI j ∧ j ≤ l.length ∧ kept = (l.take j).filter (fun y => !pr y) ∧ i = kept.length ∧ 0 < mid.length ∧ i + mid.length = j ∧ Inv B (Res.row 9 1 (.slice (some ⟨b, 0, none⟩) l.length rc) l.length (textCells (kept ++ mid ++ l.drop j)) :: H) wr) (fun x5 x6 _ => l.length - (intOf x6).toNat)
 case atStart => exact ⟨i0, i0 + 1, l.take i0, [x0], rfl, rfl, by omega, hst.symm, by rw [List.length_take]; omega, by simp, by simp, by rw [← hsl]; exact hv⟩
 case round =>
  obtain ⟨i, j, kept, mid, rfl, rfl, hj, hkept, hik, hmid, hij, hv⟩ := hrel
  refine sK fun _ k12 => sK fun _ k13 => rL (uM rfl ?_)
  refine uM rfl ?_
  refine uG (vI (l.length : Int)) rfl (ex_len0 Tryz.underlying23 rfl rfl) ?_
  by_cases hb14 : (j : Int) < (l.length : Int)
  ·refine uG (.bool true) rfl (ex_lss rfl rfl rfl (qT hb14)) (uW k13 ?_)
   refine cT rfl (kS ?_)
   refine tK k12 (sK fun _ k15 => ?_)
   refine bB (sK fun _ k16 => ?_)
   obtain ⟨x, hx⟩ : ∃ x, l[j]? = some x := ⟨_, List.getElem?_eq_getElem (show j < l.length by omega)⟩
   refine rL (uM rfl ?_)
   refine uM rfl ?_
   refine uG (.pointer (some ⟨b, 0 + j, none⟩)) rfl (ex_index rfl rfl rfl (run_idx1 (k := j) Tryz.underlying23 s24es23 (by omega))) ?_
   refine uL (vS x) rfl (run_load1 s24na9 (row_load (hv.get 0 rfl) (df_get (kept := kept) (mid := mid) hx (by omega)))) (uA rfl ?_)
   refine uW k16 (sK fun _ k17 => ?_)
   refine rL (uM rfl ?_)
   refine uM rfl ?_
   refine wpi_callV hcal tV wideC rfl (wn rfl) rfl rfl (args := #[vS x]) (by simp only [List.map_toArray, List.map_cons, List.map_nil]; rfl) ((hf x _ _ hv).mono ?_)
   rintro e w18 ⟨rfl, hv⟩
   refine ⟨_, rfl, uG (.bool (!(pr x))) rfl (ex_not rfl rfl rfl) ?_⟩
   refine uW k17 (wpIn_cond_split (t := !(pr x)) rfl (fun hc19 => ?_) (fun hc19 => ?_))
   ·refine sK fun _ k20 => ?_
    have hpx : pr x = false := by simpa using hc19
    obtain ⟨g0, mid2, hmg⟩ : ∃ g0 m2, mid = g0 :: m2 := (by cases mid with | nil => simp at hmid | cons a m => exact ⟨a, m, rfl⟩)
    subst hmg
    refine rL (uM rfl ?_)
    refine uM rfl (uM rfl ?_)
    refine uG (.pointer (some ⟨b, 0 + i, none⟩)) rfl (ex_index rfl rfl rfl (run_idx1 (k := i) Tryz.underlying23 s24es23 (by omega))) ?_
    refine sl_storeRow (v := vS x) tV (wn rfl) rfl rfl rfl hv s24sz9 (by rw [textCells_n]; simp only [List.length_append, List.length_cons, List.length_drop]; omega) rfl rfl (fun w21 hv => ?_)
    rw [Nat.zero_add] at hv
    refine uW k20 (rL ?_)
    refine uM rfl ?_
    refine uG (vI ((i + 1 : Nat) : Int)) rfl (ex_add rfl rfl rfl (by rw [i64_in (by omega)]; omega)) (uA rfl ?_)
    refine uZ (bN ?_)
    refine tK k15 (rL ?_)
    refine uM rfl ?_
    refine uG (vI ((j + 1 : Nat) : Int)) rfl (ex_add rfl rfl rfl (by rw [i64_in (by omega)]; omega)) (uA rfl ?_)
    refine uZ (then_normal ?_)
    go_roundw
    case rel => exact ⟨i + 1, j + 1, kept ++ [x], mid2 ++ [x], rfl, rfl, by omega, by rw [df_filter hx, ← hkept, hpx]; rfl, by rw [List.length_append]; simp; exact hik, by simp, by simp at hij ⊢; omega, by rw [hik, df_set hx] at hv; exact hv⟩
    case measure => show l.length - (((j + 1 : Nat) : Int)).toNat < l.length - ((j : Int)).toNat; omega
   refine kS (bN ?_)
   refine tK k15 ?_
   have hpx : pr x = true := by simpa using hc19
   refine rL (uM rfl ?_)
   refine uG (vI ((j + 1 : Nat) : Int)) rfl (ex_add rfl rfl rfl (by rw [i64_in (by omega)]; omega)) (uA rfl ?_)
   refine uZ (then_normal ?_)
   go_roundw
   case rel => exact ⟨i, j + 1, kept, mid ++ [x], rfl, rfl, by omega, by rw [df_filter hx, ← hkept, hpx]; simp, hik, by simp, by simp; omega, by rw [← df_skip hx]; exact hv⟩
   case measure => show l.length - (((j + 1 : Nat) : Int)).toNat < l.length - ((j : Int)).toNat; omega
  refine uG (.bool false) rfl (ex_lss rfl rfl rfl (qF hb14)) (uW k13 ?_)
  refine cF rfl (xE ?_)
  refine tX (tX ?_)
  refine bH (tK k9 ?_)
  refine sK fun _ k22 => ?_
  obtain rfl : j = l.length := by omega
  rw [List.drop_length, List.append_nil, textCells_app] at hv
  rw [List.take_length] at hkept
  obtain ⟨L, hL1, hL2, hL3, hL4, hv⟩ := hv.rowCell
  obtain ⟨tl, hLe⟩ : ∃ tl, L = textCells kept ++ textCells mid ++ tl := ⟨L.drop (l.length * 1), by rw [← hL2, List.take_append_drop]⟩
  subst hLe
  have hkn : (textCells kept).length = i := by rw [textCells_n]; exact hik.symm
  refine rL (uM rfl ?_)
  refine uM rfl ?_
  refine uG (.slice (some ⟨b, 0 + i, none⟩) (l.length - i) (rc - i)) rfl (ex_slice (lo' := some (vI i)) rfl rfl (congrArg some rfl) rfl rfl (run_from1 Tryz.underlying23 s24es23 (by omega) (by omega))) ?_
  refine sl_clearAt 0 (pre := textCells kept) (mid := textCells mid) (post := tl) (m := l.length - i) tV (wn rfl) rfl rfl s24el23 (one_cons rfl one_nil) hv rfl rfl (by rw [hkn, Nat.zero_add]) (by rw [textCells_n]; omega) (fun zs w23 hzs hv => ?_)
  simp only [zO] at hv
  refine uW k22 (sK fun _ k24 => ?_)
  refine rL (uM rfl ?_)
  refine uM rfl ?_
  refine uG (.slice (some ⟨b, 0, none⟩) i rc) rfl (ex_slice (hi' := some (vI i)) rfl rfl rfl (congrArg some rfl) rfl (run_hi Tryz.underlying23 s24es23 (by omega))) (uA rfl ?_)
  refine uW k24 (rR ?_)
  refine bR rfl rfl ?_
  have h8 := hv.cellRow (n := i) (c := rc) (size := 1) (by simp only [List.length_append, hzs] at hL1 ⊢; exact hL1) (by omega) hL4
  rw [List.append_assoc, Nat.mul_one, List.take_left' hkn, hik, hkept] at h8
  rw [hik, hkept]
  exact ⟨_, _, rfl, h8⟩
open Go.Sort
def deadNow (M : List (List UInt8 × Ver)) (clk : Int) (k : List UInt8) : Bool := match lookA M k with
 | some y => !aliveB y clk
 | none => false
def namesT (M : List (List UInt8 × Ver)) (clk : Int) : List (List UInt8) := ((M.map (·.1)).mergeSort leB).filter fun k => !deadNow M clk k
theorem vmap_nodup {w : World} {b : Nat} {es : List (List UInt8 × Value)} (h : (Res.vmap b es).holds w) : (es.map (·.1)).Nodup := by
 obtain ⟨E, clock, -, ⟨-, -, h2⟩, h3⟩ := h
 have h4 : E.toList.map (fun e => e.key) = (es.map (·.1)).map strV := by
  have := congrArg (List.map Prod.fst) h3
  simpa [List.map_map, Function.comp_def, kv] using this
 rw [h4] at h2
 exact List.Pairwise.imp (fun hab e => hab (by rw [e])) (List.pairwise_map.1 h2)
theorem adj_ne {l : List (List UInt8)} (h : l.Nodup) (j : Nat) (x y : List UInt8) (hx : l[j]? = some x) (hy : l[j + 1]? = some y) : ¬ y = x := by
 intro e; subst e
 have hj := (List.getElem?_eq_some_iff.1 hx).1
 have := (List.getElem?_inj hj h).1 (hx.trans hy.symm)
 omega
theorem txnClock (B : Base) (H : List Res) (w : World) (t m s p wb : Nat) (va : Option Addr) (vc : Nat) (sv : Value) (clk : Int) (es : List (List UInt8 × Value)) (hv : Inv B (txR t m s p wb va vc sv clk es :: H) w) :
  Calls Tryz.prog 170 #[vP t] w fun e w' => e = .returned (vI clk) ∧ Inv B (txR t m s p wb va vc sv clk es :: H) w' := by
 refine cW Tryz.func170 rfl Tryz.ntmps170 ?_
 simp only [al]
 refine sK fun _ k1 => ?_
 replace hv := Inv.unstar hv
 simp only [txL, List.cons_append, List.nil_append] at hv
 refine rL (uA rfl ?_)
 refine uW k1 (sK fun _ k2 => ?_)
 refine rL (uM rfl ?_)
 refine uG (vP t) rfl (ex_nil rfl rfl) ?_
 refine uF (.pointer (some ⟨t, 2, none⟩)) rfl (x2fa141_2 _ _ _) ?_
 refine uL _ rfl (run_load1 s2na3 (hv.load 0 2 rfl rfl)) (uA rfl ?_)
 refine uW k2 (rR ?_)
 refine bR rfl rfl (⟨rfl, Inv.star (K := txL _ _ _ _ _ _ _ _ _ _) (((((((hv.front 5 rfl).front 5 rfl).front 5 rfl).front 5 rfl).front 5 rfl).front 5 rfl))⟩)
theorem compactTexts (B : Base) (H : List Res) (w : World) (ra : Option Addr) (rc : Nat) (l : List (List UInt8)) (hnd : l.Nodup) (hm : l.length ≤ 1000000) (hv : Inv B (Res.row 9 1 (.slice ra l.length rc) l.length (textCells l) :: H) w) :
  Calls Tryz.prog 179 #[.slice ra l.length rc] w fun e w' => e = .returned (.slice ra l.length rc) ∧ Inv B (Res.row 9 1 (.slice ra l.length rc) l.length (textCells l) :: H) w' := by
 refine cW Tryz.func179 rfl Tryz.ntmps179 ?_
 simp only [al]
 refine sK fun _ k1 => rL (uA rfl ?_)
 refine uW k1 (sK fun _ k2 => ?_)
 refine sK fun _ k3 => rL (uM rfl ?_)
 refine uG (vI (l.length : Int)) rfl (ex_len0 Tryz.underlying23 rfl rfl) ?_
 by_cases hb4 : (l.length : Int) < 2
 ·refine uG (.bool true) rfl (ex_lss rfl rfl rfl (qT hb4)) (uW k3 ?_)
  refine cT rfl (sK fun _ k5 => ?_)
  refine rL (uM rfl ?_)
  refine uA rfl (uW k5 ?_)
  refine rR (tR ?_)
  refine bR rfl rfl (⟨rfl, hv⟩)
 refine uG (.bool false) rfl (ex_lss rfl rfl rfl (qF hb4)) (uW k3 ?_)
 refine cF rfl (kS ?_)
 refine tK k2 (sK fun _ k6 => ?_)
 refine sK fun _ k7 => rL (uA rfl ?_)
 refine uW k7 (bB ?_)
 gi_loopw [3] (fun x3 wr => ∃ (j : Nat), x3 = vI ((j + 1 : Nat) : Int) ∧ j + 1 ≤ l.length ∧ Inv B (Res.row 9 1 (.slice ra l.length rc) l.length (textCells l) :: H) wr) (fun x3 _ => l.length - (intOf x3).toNat)
 case atStart => exact ⟨0, rfl, by omega, hv⟩
 case round =>
  obtain ⟨j, rfl, hj, hv⟩ := hrel
  refine sK fun _ k9 => sK fun _ k10 => rL (uM rfl ?_)
  refine uM rfl ?_
  refine uG (vI (l.length : Int)) rfl (ex_len0 Tryz.underlying23 rfl rfl) ?_
  by_cases hb11 : ((j + 1 : Nat) : Int) < (l.length : Int)
  ·refine uG (.bool true) rfl (ex_lss rfl rfl rfl (qT hb11)) (uW k10 ?_)
   refine cT rfl (kS ?_)
   refine tK k9 (sK fun _ k12 => ?_)
   refine bB (sK fun _ k13 => ?_)
   obtain ⟨x, hx⟩ : ∃ x, l[j]? = some x := ⟨_, List.getElem?_eq_getElem (show j < l.length by omega)⟩
   obtain ⟨y, hy⟩ : ∃ y, l[j + 1]? = some y := ⟨_, List.getElem?_eq_getElem (show j + 1 < l.length by omega)⟩
   obtain ⟨b, rfl⟩ := row_some hv.head (by omega)
   refine rW mixed [] [0,1,2,3,4,5,6,7,8,9] 61 rfl (by kernel_rfl) hv ?_
   simp only [qm, opAt]
   refine dM (.slice (some ⟨b, 0, none⟩) l.length rc) rfl (dM (vI ((j + 1 : Nat) : Int)) rfl ?_)
   refine dG (.pointer (some ⟨b, 0 + (j + 1 : Nat), none⟩)) rfl (ex_index rfl rfl rfl (run_idx1 (k := (j + 1 : Nat)) Tryz.underlying23 s9es23 (by omega))) ?_
   simp only [zP, po]
   refine dL _ rfl (fun hv => ex_load rfl rfl (run_load1 s9na9 (row_load (hv.get 0 rfl) (textCells_get hy)))) (dM (.slice (some ⟨b, 0, none⟩) l.length rc) rfl ?_)
   refine dM (vI ((j + 1 : Nat) : Int)) rfl ?_
   simp only [zP, po]
   refine dG (vI j) rfl (ex_sub rfl rfl rfl (by rw [i64_in (by omega)]; omega)) (dG (.pointer (some ⟨b, 0 + j, none⟩)) rfl (ex_index rfl rfl rfl (run_idx1 (k := j) Tryz.underlying23 s9es23 (by omega))) ?_)
   refine dL _ rfl (fun hv => ex_load rfl rfl (run_load1 s9na9 (row_load (hv.get 0 rfl) (textCells_get hx)))) ?_
   simp only [zP, po]
   refine dG (.bool false) rfl (ex_seql rfl rfl rfl (qF (adj_ne hnd j x y hx hy))) (dE fun w14 hv => ?_)
   simp only [zP, po]
   refine tK k13 (cF rfl ?_)
   refine kS (bN ?_)
   refine tK k12 (rL ?_)
   refine uM rfl ?_
   refine uG (vI ((j + 1 + 1 : Nat) : Int)) rfl (ex_add rfl rfl rfl (by rw [i64_in (by omega)]; omega)) (uA rfl ?_)
   refine uZ (then_normal ?_)
   go_roundw
   case rel => exact ⟨j + 1, rfl, by omega, hv⟩
   case measure => show l.length - (((j + 1 + 1 : Nat) : Int)).toNat < l.length - (((j + 1 : Nat) : Int)).toNat; omega
  refine uG (.bool false) rfl (ex_lss rfl rfl rfl (qF hb11)) (uW k10 ?_)
  refine cF rfl (xE ?_)
  refine tX (tX ?_)
  refine bH (tK k6 ?_)
  refine sK fun _ k15 => rL (uM rfl ?_)
  refine uA rfl (uW k15 ?_)
  refine rR (bR rfl rfl ?_)
  exact ⟨rfl, hv⟩
theorem x6al81 : AL Tryz.prog 81 [vI 0, .bool false, vI 0, vI 0, vS [], vN, vN, vN] := fun w => by kernel_rfl
theorem namesDead (B : Base) (H : List Res) (w : World) (g1 t m wb : Nat) (clk : Int) (es : List (List UInt8 × Value)) (M : List (List UInt8 × Ver)) (key : List UInt8) (hM : VM B es M) (hv : Inv B (Res.cell g1 [vP t] 52 :: Res.cell t [vP m, vI 0, vI clk, .bool false, .map (some wb)] 141 :: Res.vmap wb es :: H) w) :
  Calls Tryz.prog 180 #[vS key, vP g1] w fun e w' => e = .returned (.bool (deadNow M clk key)) ∧ Inv B (Res.cell g1 [vP t] 52 :: Res.cell t [vP m, vI 0, vI clk, .bool false, .map (some wb)] 141 :: Res.vmap wb es :: H) w' := by
 refine cW Tryz.func180 rfl Tryz.ntmps180 ?_
 simp only [al]
 refine sK fun _ k1 => rL (uA rfl ?_)
 refine uW k1 (sK fun _ k2 => ?_)
 refine rL (uL _ rfl (run_load1 x1na52 (hv.load 0 0 rfl rfl)) ?_)
 refine uG (vP t) rfl (ex_nil rfl rfl) ?_
 refine uF (.pointer (some ⟨t, 4, none⟩)) rfl (x2fa141_4 _ _ _) ?_
 refine uL _ rfl (run_load1 x2na139 (hv.load 1 4 rfl rfl)) (uM rfl ?_)
 rcases VM.look key hM with ⟨hl, hlM⟩ | ⟨x, xp, xt, xz, hl, hlM, hxv⟩
 ·refine uG (.tuple #[.agg #[vI 0, .bool false, vI 0, vI 0, vS [], vN, vN, vN], .bool false]) rfl (ex_lookN (z := .agg #[vI 0, .bool false, vI 0, vI 0, vS [], vN, vN, vN]) 2 rfl rfl rfl Tryz.underlying139 Tryz.underlying9 (fun w => by kernel_rfl) hv rfl hl) (uM rfl ?_)
  refine uE rfl (uE rfl ?_)
  refine sl_alloc tV (wn rfl) rfl hv x6al81 (fun b3 w4 hv => ?_)
  refine xS 0 rfl hv x0sz81 rfl (by exact ⟨rfl, rfl, rfl, rfl, rfl, rfl, rfl, rfl, trivial⟩) (fun w5 hv => ?_)
  simp only [zO, sp] at hv
  refine uA rfl (uW k2 ?_)
  refine sK fun _ k6 => rW mixed [7] [0,1,2,3,4,5,6,7,8,9,10] 25 rfl (by kernel_rfl) hv ?_
  simp only [qm, opAt]
  refine dM (.bool false) rfl (dM (.bool false) rfl ?_)
  iterate 7 refine dN rfl ?_
  refine dK false (.bool false) rfl ?_
  simp only [zP, po]
  refine dA (.bool false) rfl (dE fun w7 hv => ?_)
  simp only [zP, po]
  refine tK k6 (rR ?_)
  refine bR rfl rfl (⟨congrArg (fun b => Ending.returned (Value.bool b)) (by unfold deadNow; rw [hlM]), (hv.kp [3, 3, 3] 3 1)⟩)
 refine uG (.tuple #[.agg #[vI x.stamp, .bool x.gone, vI x.expire, vI x.val.kind, vS x.val.text, xp, xt, xz], .bool true]) rfl (ex_lookS (z := .agg #[vI 0, .bool false, vI 0, vI 0, vS [], vN, vN, vN]) 2 rfl rfl rfl Tryz.underlying139 Tryz.underlying9 (fun w => by kernel_rfl) hv rfl hl) (uM rfl ?_)
 refine uE rfl (uE rfl ?_)
 refine sl_alloc tV (wn rfl) rfl hv x6al81 (fun b8 w9 hv => ?_)
 refine xS 0 rfl hv x0sz81 rfl (by exact ⟨rfl, rfl, rfl, rfl, rfl, hxv.p.one, hxv.t.one, hxv.z.one, trivial⟩) (fun w10 hv => ?_)
 simp only [zO, sp] at hv
 refine uA rfl (uW k2 ?_)
 refine sK fun _ k11 => rW mixed [7] [0,1,2,3,4,5,6,7,8,9,10] 25 rfl (by kernel_rfl) hv ?_
 simp only [qm, opAt]
 refine dM (.bool true) rfl (dM (.bool true) rfl ?_)
 refine dL (.agg #[vI x.stamp, .bool x.gone, vI x.expire, vI x.val.kind, vS x.val.text, xp, xt, xz]) rfl (fun hv => ex_load rfl rfl (lM 0 x0wd81 hv rfl rfl rfl rfl)) ?_
 simp only [zP, po]
 refine dL _ rfl (fun hv => ex_load rfl rfl (run_load1 x1na52 (hv.load 1 0 rfl rfl))) (dG (vP t) rfl (ex_nil rfl rfl) ?_)
 refine dG (.pointer (some ⟨t, 2, none⟩)) rfl (ex_field rfl rfl (x2fa141_2 _ _ _)) ?_
 simp only [zP, po]
 refine dL _ rfl (fun hv => ex_load rfl rfl (run_load1 s2na3 (hv.load 2 2 rfl rfl))) (dS rfl fun w12 hv => ?_)
 refine mC x2callable164 rfl ((chainAlive B _ _ x xp xt xz clk hv).mono ?_) rfl
 rintro e w13 ⟨rfl, hv⟩
 refine ⟨_, rfl, dW hv ?_⟩
 refine dG (.bool (!(aliveB x clk))) rfl (ex_not rfl rfl rfl) ?_
 simp only [zP, po]
 refine dK true (.bool (!(aliveB x clk))) rfl (dA (.bool (!(aliveB x clk))) rfl ?_)
 refine dE fun w14 hv => ?_
 simp only [zP, po]
 refine tK k11 (rR ?_)
 refine bR rfl rfl (⟨congrArg (fun b => Ending.returned (Value.bool b)) (by unfold deadNow; rw [hlM]), (hv.kp [3, 3, 3] 3 1)⟩)
theorem x6callable152 : Callable Tryz.prog 152 := cb Tryz.func152 (by kernel_rfl)
theorem x6callable177 : Callable Tryz.prog 177 := cb Tryz.func177 (by kernel_rfl)
theorem x6callable176 : Callable Tryz.prog 176 := cb Tryz.func176 (by kernel_rfl)
theorem x6callable178 : Callable Tryz.prog 178 := cb Tryz.func178 (by kernel_rfl)
theorem x6callable179 : Callable Tryz.prog 179 := cb Tryz.func179 (by kernel_rfl)
theorem x6callable180 : Callable Tryz.prog 180 := cb Tryz.func180 (by kernel_rfl)
theorem txnNames (B : Base) (H : List Res) (w : World) (t m s p wb : Nat) (va : Option Addr) (vc : Nat) (sv : Value) (clk : Int) (es : List (List UInt8 × Value)) (M : List (List UInt8 × Ver)) (hM : VM B es M) (hkl : ∀ k ∈ M.map (·.1), k.length ≤ 256) (hMl : M.length ≤ 1000000) (hv : Inv B (txR t m s p wb va vc sv clk es :: H) w) :
  Calls Tryz.prog 173 #[vP t] w fun e w' => ∃ ra rc, e = .returned (.slice ra (namesT M clk).length rc) ∧ Inv B (Res.row 9 1 (.slice ra (namesT M clk).length rc) (namesT M clk).length (textCells (namesT M clk)) :: txR t m s p wb va vc sv clk es :: H) w' := by
 refine cW Tryz.func173 rfl Tryz.ntmps173 ?_
 simp only [al]
 refine sK fun _ k1 => ?_
 replace hv := Inv.unstar hv
 simp only [txL, List.cons_append, List.nil_append] at hv
 refine rL (sl_box (L := [vP t]) tV (wn rfl) rfl rfl hv (fun w => by kernel_rfl) (fun b2 w3 hv => ?_))
 refine uA rfl (uW k1 ?_)
 refine sK fun _ k4 => rW mixed [15] [0,1,2,3,4,5,6,7,8,9,10,11,12,13,14,15,16] 33 rfl (by kernel_rfl) hv ?_
 simp only [qm, opAt]
 refine dL _ rfl (fun hv => ex_load rfl rfl (run_load1 x1na52 (hv.load 0 0 rfl rfl))) (dG (vP t) rfl (ex_nil rfl rfl) ?_)
 refine dG (vP t) rfl (ex_field rfl rfl (x1fa141_0 _ _ _)) ?_
 simp only [zP, po]
 refine dL _ rfl (fun hv => ex_load rfl rfl (run_load1 x1na43 (hv.load 1 0 rfl rfl))) (dG (vP m) rfl (ex_nil rfl rfl) ?_)
 refine dG (vP m) rfl (ex_field rfl rfl (x2fa92_0 _ _ _)) ?_
 simp only [zP, po]
 refine dL _ rfl (fun hv => ex_load rfl rfl (run_load1 x0na47 (hv.load 2 0 rfl rfl))) (dL _ rfl (fun hv => ex_load rfl rfl (run_load1 x1na52 (hv.load 0 0 rfl rfl))) ?_)
 refine dG (vP t) rfl (ex_nil rfl rfl) ?_
 simp only [zP, po]
 refine dG (.pointer (some ⟨t, 1, none⟩)) rfl (ex_field rfl rfl (x2fa141_1 _ _ _)) (dL _ rfl (fun hv => ex_load rfl rfl (run_load1 s2na3 (hv.load 1 1 rfl rfl))) ?_)
 refine dL _ rfl (fun hv => ex_load rfl rfl (run_load1 x1na52 (hv.load 0 0 rfl rfl))) ?_
 simp only [zP, po]
 refine dG (vP t) rfl (ex_nil rfl rfl) (dG (.pointer (some ⟨t, 2, none⟩)) rfl (ex_field rfl rfl (x2fa141_2 _ _ _)) ?_)
 refine dL _ rfl (fun hv => ex_load rfl rfl (run_load1 s2na3 (hv.load 1 2 rfl rfl))) ?_
 simp only [zP, po]
 refine dS rfl fun w5 hv => ?_
 replace hv := hv.front 6 rfl
 simp only [eS, eZ] at hv
 replace hv := hv.front 6 rfl
 simp only [eS, eZ] at hv
 refine mC x6callable152 rfl ((storeNames0 B _ _ s p 0 clk hv).mono ?_) rfl
 rintro e w6 ⟨rfl, hv⟩
 refine ⟨_, rfl, dW hv ?_⟩
 refine dA (vN) rfl (dE fun w7 hv => ?_)
 simp only [zP, po]
 refine tK k4 (sK fun _ k8 => ?_)
 refine rL (uM rfl ?_)
 refine uL _ rfl (run_load1 x1na52 (hv.load 2 0 rfl rfl)) ?_
 refine uG (vP t) rfl (ex_nil rfl rfl) ?_
 refine uF (.pointer (some ⟨t, 4, none⟩)) rfl (x2fa141_4 _ _ _) ?_
 refine uL _ rfl (run_load1 x2na139 (hv.load 3 4 rfl rfl)) ?_
 refine xC x6callable177 rfl ((mapKeys B _ _ (some wb) hv).mono ?_) rfl
 rintro e w9 ⟨b9, rfl, hv⟩
 refine ⟨_, rfl, ?_⟩
 simp only [zP, po]
 replace hv := hv.front 7 rfl
 simp only [eS, eZ] at hv
 replace hv := hv.front 1 rfl
 simp only [eS, eZ] at hv
 have hnd := vmap_nodup (hv.get 1 rfl)
 have hke := VM.keys hM
 have hle : es.length = M.length := by have := congrArg List.length hke; simpa using this
 refine xC x6callable176 rfl ((appendKeys B _ _ b9 wb es (fun x hx => Nat.le_trans (hkl x.1 (by rw [← hke]; exact List.mem_map.2 ⟨x, hx, rfl⟩)) (by unfold maxLen; omega)) (by omega) hv).mono ?_) rfl
 rintro e w10 ⟨v9, ss, rfl, hperm, hv⟩
 refine ⟨_, rfl, ?_⟩
 obtain ⟨va9, vc9, rfl⟩ := row_slice hv.head
 have hsl : ss.length = M.length := by have := hperm.length_eq; rw [List.length_map] at this; omega
 refine uA rfl (uW k8 ?_)
 refine sK fun _ k11 => rL (uM rfl ?_)
 refine xC x6callable178 rfl ((sortTexts B _ _ _ ss (by omega) hv).mono ?_) rfl
 rintro e w12 ⟨rfl, hv⟩
 refine ⟨_, rfl, ?_⟩
 have hms : ss.mergeSort leB = (M.map (·.1)).mergeSort leB := by rw [mergeSort_of_perm hperm, hke]
 rw [hms] at hv
 obtain ⟨l, hl⟩ : ∃ l, (M.map (·.1)).mergeSort leB = l := ⟨_, rfl⟩
 rw [hl] at hv hms
 have hll : ss.length = l.length := by rw [← hms]; simp
 rw [hll] at hv ⊢
 have hln : l.Nodup := by rw [← hms]; exact ((List.mergeSort_perm ss leB).nodup_iff).2 ((hperm.nodup_iff).2 hnd)
 refine uW k11 (sK fun _ k13 => ?_)
 refine rL (uM rfl ?_)
 refine xC x6callable179 rfl ((compactTexts B _ _ va9 vc9 l hln (by omega) hv).mono ?_) rfl
 rintro e w14 ⟨rfl, hv⟩
 refine ⟨_, rfl, uG (.func (.func 180) #[] #[vP b2]) rfl (ex_makeFunc (c' := #[vP b2]) rfl (by simp only [List.map_toArray, List.map_nil]) (by simp only [List.map_toArray, List.map_cons, List.map_nil]; rfl)) ?_⟩
 have hfn : ∀ (x : List UInt8) (r9 : Res) (w : World), Inv B (r9 :: (Res.cell b9 [.map (some wb)] 139 :: Res.vmap wb es :: Res.cell s [vP p, vI 0, vI 0] 96 :: Res.cell p [vN, vI 0] 138 :: Res.cell b2 [vP t] 52 :: Res.cell t [vP m, vI 0, vI clk, .bool false, .map (some wb)] 141 :: Res.cell m [vP s, sv, vI clk, .slice va 1 vc] 92 :: Res.row 52 1 (.slice va 1 vc) 1 [vP t] :: H)) w → Calls Tryz.prog 180 (#[vS x] ++ #[vP b2]) w fun e w' => e = .returned (.bool (deadNow M clk x)) ∧ Inv B (r9 :: (Res.cell b9 [.map (some wb)] 139 :: Res.vmap wb es :: Res.cell s [vP p, vI 0, vI 0] 96 :: Res.cell p [vN, vI 0] 138 :: Res.cell b2 [vP t] 52 :: Res.cell t [vP m, vI 0, vI clk, .bool false, .map (some wb)] 141 :: Res.cell m [vP s, sv, vI clk, .slice va 1 vc] 92 :: Res.row 52 1 (.slice va 1 vc) 1 [vP t] :: H)) w' := fun x r9 w hv =>
  (namesDead B _ w b2 t m wb clk es M x hM (((((((((hv.front 8 rfl).front 8 rfl).front 6 rfl).front 6 rfl).front 5 rfl).front 5 rfl).front 6 rfl).front 8 rfl).front 8 rfl)).mono fun e w' ⟨h7, h8⟩ => ⟨h7, (((((((((h8.front 8 rfl).front 8 rfl).front 3 rfl).front 3 rfl).front 8 rfl).front 8 rfl).front 6 rfl).front 8 rfl).front 8 rfl)⟩
 refine xC x0callable155 rfl ((deleteFunc B _ _ 180 _ va9 vc9 l (deadNow M clk) (by omega) x6callable180 hfn hv).mono ?_) rfl
 rintro e w15 ⟨ra, rc, rfl, hv⟩
 refine ⟨_, rfl, uA rfl ?_⟩
 refine uW k13 (rR ?_)
 refine bR rfl rfl ?_
 subst hl
 exact ⟨_, _, rfl, Inv.front (Inv.star (K := txL _ _ _ _ _ _ _ _ _ _) ((hv.kp [4, 4, 4, 8, 8, 8] 7 2))) 1 rfl⟩
def liveK (clk : Int) (x : KeyR) : Bool := decide (x.exp = 0) || decide (x.exp > clk)
def getK (K : List KeyR) (clk : Int) (name : List UInt8) : Option KeyR := K.find? fun x => decide (x.name = name) && liveK clk x
def zkey : KeyR := ⟨[], ⟨0, [], [], [], []⟩, 0⟩
theorem zkey_at (B : Base) : ValAt B zkey.val (vN) (vN) (vN) := zver0_at B
theorem getK_some {K : List KeyR} {clk : Int} {name : List UInt8} {i : Nat} {x : KeyR} (hx : K[i]? = some x) (hn : x.name = name) (hl : liveK clk x = true) (hno : ∀ j y, j < i → K[j]? = some y → ¬ (y.name = name ∧ liveK clk y = true)) : getK K clk name = some x := by
 unfold getK
 rw [List.find?_eq_some_iff_getElem]
 obtain ⟨hi, rfl⟩ := List.getElem?_eq_some_iff.1 hx
 refine ⟨by simp [hn, hl], i, hi, rfl, fun j hj => ?_⟩
 have h7 := hno j _ hj (List.getElem?_eq_getElem (by omega))
 cases h8 : (decide (K[j].name = name) && liveK clk K[j]) with
 | false => rfl
 | true => exact absurd (by simpa using h8) h7
theorem getK_none {K : List KeyR} {clk : Int} {name : List UInt8} (hno : ∀ (j : Nat) (y : KeyR), K[j]? = some y → ¬ (y.name = name ∧ liveK clk y = true)) : getK K clk name = none := by
 unfold getK
 rw [List.find?_eq_none]
 intro y hy
 obtain ⟨j, hj⟩ := List.mem_iff_getElem?.1 hy
 cases h8 : (decide (y.name = name) && liveK clk y) with
 | false => simp
 | true => exact absurd (by simpa using h8) (hno j y hj)
structure RefV (B : Base) (K : List KeyR) (wl : List (List UInt8)) (ka wa : Option Addr) (kc wc : Nat) (xs : List Value) : Prop where
 ok1 : SliceOk ka K.length kc
 keys : RdV B [] ka xs
 at_ : KeysAt B K xs
 ok2 : SliceOk wa wl.length wc
 wr : RdV B [] wa (textCells wl)
theorem RefV.more {B C : Base} {K : List KeyR} {wl : List (List UInt8)} {ka wa : Option Addr} {kc wc : Nat} {xs : List Value} (h : RefV B K wl ka wa kc wc xs) (hB : B.Le C) : RefV C K wl ka wa kc wc xs := ⟨h.ok1, h.keys.more hB (fun _ h => h), h.at_.more hB, h.ok2, h.wr.more hB (fun _ h => h)⟩
theorem v2al84 : AL Tryz.prog 84 [vS [], vI 0, vS [], vN, vN, vN, vI 0] := fun w => by kernel_rfl
theorem v2fa32_0 : FA Tryz.prog 32 0 0 := fun w b o => by kernel_rfl
theorem v2na30 (w : World) : (isAgg 30).run Tryz.prog w = .ok false w := by kernel_rfl
theorem v2es30 (w : World) : (sizeOf (Tryz.prog.elem 30)).run Tryz.prog w = .ok 7 w := by kernel_rfl
theorem v2wd84 : Wide Tryz.prog 84 7 := wide_of (fun w => by kernel_rfl) (by kernel_rfl)
theorem v2sz84 : (Tryz.prog.info? 84).map (·.size) = some 7 := by kernel_rfl
theorem v2fa84_0 : FA Tryz.prog 84 0 0 := fun w b o => by kernel_rfl
theorem v2fa84_2 : FA Tryz.prog 84 2 6 := fun w b o => by kernel_rfl
theorem v2fa32_1 : FA Tryz.prog 32 1 1 := fun w b o => by kernel_rfl
theorem refGet20 (B : Base) (H : List Res) (w : World) (K : List KeyR) (wl : List (List UInt8)) (ka wa : Option Addr) (kc wc : Nat) (xs : List Value) (clk : Int) (hR : RefV B K wl ka wa kc wc xs) (hm : K.length ≤ 10000) (_ : wl.length ≤ 10000) (name : List UInt8) (hv : Inv B H w) :
  Calls Tryz.prog 27 #[.agg #[.slice ka K.length kc, vI clk, .slice wa wl.length wc], vS name] w fun e w' => ∃ x p' t' z' ok, e = .returned (.tuple #[.agg (krCells x p' t' z').toArray, .bool ok]) ∧ ((ok = true ∧ getK K clk name = some x ∧ ∃ i, K[i]? = some x ∧ (xs.drop (i * 7)).take 7 = krCells x p' t' z') ∨ (ok = false ∧ x = zkey ∧ getK K clk name = none ∧ p' = vN ∧ t' = vN ∧ z' = vN)) ∧ ValAt B x.val p' t' z' ∧ Inv B H w' := by
 refine cW Tryz.func27 rfl Tryz.ntmps27 ?_
 simp only [al]
 refine sK fun _ k1 => rL (sl_box (L := [.slice ka K.length kc, vI clk, .slice wa wl.length wc]) tV (wn rfl) rfl rfl hv (fun w => by kernel_rfl) (fun b2 w3 hv => ?_))
 refine sl_alloc tV (wn rfl) rfl hv v2al84 (fun b4 w5 hv => ?_)
 refine uA rfl (uW k1 ?_)
 refine sK fun _ k6 => sK fun _ k7 => rL (uA rfl ?_)
 refine uW k7 (bB ?_)
 gi_loopw [6] (fun x6 wr => ∃ (i : Nat), x6 = vI i ∧ i ≤ K.length ∧ (∀ j y, j < i → K[j]? = some y → ¬ (y.name = name ∧ liveK clk y = true)) ∧ Inv B (Res.cell b4 [vS [], vI 0, vS [], vN, vN, vN, vI 0] 84 :: Res.cell b2 [.slice ka K.length kc, vI clk, .slice wa wl.length wc] 32 :: H) wr) (fun x6 _ => K.length - (intOf x6).toNat)
 case atStart => exact ⟨0, rfl, Nat.zero_le _, fun j y h => by omega, hv⟩
 case round =>
  obtain ⟨i, rfl, hi, hno, hv⟩ := hrel
  refine sK fun _ k9 => sK fun _ k10 => rL (uM rfl ?_)
  refine uF (vP b2) rfl (v2fa32_0 _ _ _) ?_
  refine uL _ rfl (run_load1 v2na30 (hv.load 1 0 rfl rfl)) ?_
  refine uG (vI (K.length : Int)) rfl (ex_len0 Tryz.underlying30 rfl rfl) ?_
  by_cases hb11 : (i : Int) < (K.length : Int)
  ·refine uG (.bool true) rfl (ex_lss rfl rfl rfl (qT hb11)) (uW k10 ?_)
   refine cT rfl (kS ?_)
   refine tK k9 (sK fun _ k12 => ?_)
   refine bB (sK fun _ k13 => ?_)
   obtain ⟨x, hx⟩ : ∃ x, K[i]? = some x := ⟨_, List.getElem?_eq_getElem (show i < K.length by omega)⟩
   obtain ⟨bb, bo, xp, xt, xz, had, hvalx, hrdx, hcsx⟩ := KeysAt.reads2 hR.at_ hR.keys hx
   subst had
   refine rL (uF (vP b2) rfl (v2fa32_0 _ _ _) ?_)
   refine uL _ rfl (run_load1 v2na30 (hv.load 1 0 rfl rfl)) (uM rfl ?_)
   refine uG (.pointer (some ⟨bb, bo + i * 7, none⟩)) rfl (ex_index rfl rfl rfl (run_idx (k := i) Tryz.underlying30 v2es30 (by omega))) ?_
   refine uL (.agg #[vS x.name, vI x.val.kind, vS x.val.text, xp, xt, xz, vI x.exp]) rfl (run_loadR (cs := [vS x.name, vI x.val.kind, vS x.val.text, xp, xt, xz, vI x.exp]) v2wd84 (Reads.mid (pre := []) (mid := [vS x.name, vI x.val.kind, vS x.val.text, xp, xt, xz, vI x.exp]) (post := []) hrdx _ _ _ (Base.Le.refl _) no_res hv)) ?_
   refine sl_alloc tV (wn rfl) rfl hv v2al84 (fun b14 w15 hv => ?_)
   simp only [zP, po]
   refine xS 0 rfl hv v2sz84 rfl (by exact ⟨rfl, rfl, rfl, hvalx.p.one, hvalx.t.one, hvalx.z.one, rfl, trivial⟩) (fun w16 hv => ?_)
   simp only [zO, sp] at hv
   refine uW k13 (sK fun _ k17 => ?_)
   refine rL (uF (vP b14) rfl (v2fa84_0 _ _ _) ?_)
   refine uL _ rfl (run_load1 s9na9 (hv.load 0 0 rfl rfl)) (uM rfl ?_)
   by_cases hb18 : x.name = name
   ·refine uG (.bool true) rfl (ex_seql rfl rfl rfl (qT hb18)) (uM rfl ?_)
    refine uF (.pointer (some ⟨b14, 6, none⟩)) rfl (v2fa84_2 _ _ _) ?_
    refine uL _ rfl (run_load1 s2na3 (hv.load 0 6 rfl rfl)) ?_
    by_cases hb19 : x.exp = 0
    ·refine uG (.bool true) rfl (ex_eql rfl rfl rfl (qT hb19)) ?_
     refine uM rfl ?_
     iterate 5 refine uP rfl ?_
     refine uK rfl (uK rfl ?_)
     refine uW k17 (cT rfl ?_)
     refine sK fun _ k20 => rL (uL (.agg #[vS x.name, vI x.val.kind, vS x.val.text, xp, xt, xz, vI x.exp]) rfl (lM 0 v2wd84 hv rfl rfl rfl rfl) ?_)
     refine xS 1 rfl hv v2sz84 rfl (by exact ⟨rfl, rfl, rfl, hvalx.p.one, hvalx.t.one, hvalx.z.one, rfl, trivial⟩) (fun w21 hv => ?_)
     simp only [zS, zO, sp] at hv
     refine uA rfl (uW k20 ?_)
     refine rR (bZ ?_)
     refine tR (tR ?_)
     refine bZ (tR ?_)
     refine bodyPost_ret (res_cell2 rfl rfl (lM 1 v2wd84 hv rfl rfl rfl rfl)) rfl (⟨x, _, _, _, true, rfl, .inl ⟨rfl, getK_some hx hb18 (by simp only [liveK, Bool.or_eq_true, decide_eq_true_eq]; omega) hno, i, hx, hcsx⟩, hvalx, (hv.kp [] 0 3)⟩)
    refine uG (.bool false) rfl (ex_eql rfl rfl rfl (qF hb19)) ?_
    refine uM rfl ?_
    refine uF (.pointer (some ⟨b14, 6, none⟩)) rfl (v2fa84_2 _ _ _) ?_
    refine uL _ rfl (run_load1 s2na3 (hv.load 0 6 rfl rfl)) ?_
    refine uF (.pointer (some ⟨b2, 1, none⟩)) rfl (v2fa32_1 _ _ _) ?_
    refine uL _ rfl (run_load1 s2na3 (hv.load 2 1 rfl rfl)) ?_
    by_cases hb22 : x.exp > clk
    ·refine uG (.bool true) rfl (ex_gtr rfl rfl rfl (qT hb22)) ?_
     refine uK rfl (uK rfl ?_)
     refine uW k17 (cT rfl ?_)
     refine sK fun _ k23 => rL (uL (.agg #[vS x.name, vI x.val.kind, vS x.val.text, xp, xt, xz, vI x.exp]) rfl (lM 0 v2wd84 hv rfl rfl rfl rfl) ?_)
     refine xS 1 rfl hv v2sz84 rfl (by exact ⟨rfl, rfl, rfl, hvalx.p.one, hvalx.t.one, hvalx.z.one, rfl, trivial⟩) (fun w24 hv => ?_)
     simp only [zS, zO, sp] at hv
     refine uA rfl (uW k23 ?_)
     refine rR (bZ ?_)
     refine tR (tR ?_)
     refine bZ (tR ?_)
     refine bodyPost_ret (res_cell2 rfl rfl (lM 1 v2wd84 hv rfl rfl rfl rfl)) rfl (⟨x, _, _, _, true, rfl, .inl ⟨rfl, getK_some hx hb18 (by simp only [liveK, Bool.or_eq_true, decide_eq_true_eq]; omega) hno, i, hx, hcsx⟩, hvalx, (hv.kp [] 0 3)⟩)
    refine uG (.bool false) rfl (ex_gtr rfl rfl rfl (qF hb22)) ?_
    refine uK rfl (uK rfl ?_)
    refine uW k17 (cF rfl ?_)
    refine kS (bN ?_)
    refine tK k12 (rL ?_)
    refine uM rfl ?_
    refine uG (vI ((i + 1 : Nat) : Int)) rfl (ex_add rfl rfl rfl (by rw [i64_in (by omega)]; omega)) (uA rfl ?_)
    refine uZ (then_normal ?_)
    go_roundw
    case rel => exact ⟨i + 1, rfl, by omega, fun j y hj hy => (by
       rcases Nat.lt_or_ge j i with h | h
       ·exact hno j y h hy
       obtain rfl : j = i := by omega
       rw [hx] at hy; cases hy
       rintro ⟨h1, h2⟩
       simp only [liveK, Bool.or_eq_true, decide_eq_true_eq] at h2
       first | exact absurd rfl h1 | (rcases h2 with h2 | h2 <;> omega)), (hv.kp [2, 2] 2 1)⟩
    case measure => show K.length - (((i + 1 : Nat) : Int)).toNat < K.length - ((i : Int)).toNat; omega
   refine uG (.bool false) rfl (ex_seql rfl rfl rfl (qF hb18)) (uM rfl ?_)
   iterate 10 refine uP rfl ?_
   refine uK rfl (uW k17 ?_)
   refine cF rfl (kS ?_)
   refine bN (tK k12 ?_)
   refine rL (uM rfl ?_)
   refine uG (vI ((i + 1 : Nat) : Int)) rfl (ex_add rfl rfl rfl (by rw [i64_in (by omega)]; omega)) (uA rfl ?_)
   refine uZ (then_normal ?_)
   go_roundw
   case rel => exact ⟨i + 1, rfl, by omega, fun j y hj hy => (by
      rcases Nat.lt_or_ge j i with h | h
      ·exact hno j y h hy
      obtain rfl : j = i := by omega
      rw [hx] at hy; cases hy
      rintro ⟨h1, h2⟩
      simp only [liveK, Bool.or_eq_true, decide_eq_true_eq] at h2
      first | exact hb18 h1 | (rcases h2 with h2 | h2 <;> omega)), (hv.kp [2, 2] 2 1)⟩
   case measure => show K.length - (((i + 1 : Nat) : Int)).toNat < K.length - ((i : Int)).toNat; omega
  refine uG (.bool false) rfl (ex_lss rfl rfl rfl (qF hb11)) (uW k10 ?_)
  refine cF rfl (xE ?_)
  refine tX (tX ?_)
  refine bH (tK k6 ?_)
  refine sK fun _ k25 => rL (uG (.agg #[vS [], vI 0, vS [], vN, vN, vN, vI 0]) rfl (ex_buildN (vs := #[]) rfl (by simp only [List.map_toArray, List.map_nil]) (by kernel_rfl)) ?_)
  refine xS 0 rfl hv v2sz84 rfl (by exact ⟨rfl, rfl, rfl, rfl, rfl, rfl, rfl, trivial⟩) (fun w26 hv => ?_)
  simp only [zO, sp] at hv
  refine uA rfl (uW k25 ?_)
  refine rR (bodyPost_ret (res_cell2 rfl rfl (lM 0 v2wd84 hv rfl rfl rfl rfl)) rfl ?_)
  obtain rfl : i = K.length := by omega
  exact ⟨zkey, _, _, _, false, rfl, .inr ⟨rfl, rfl, getK_none fun j y hy => hno j y (List.getElem?_eq_some_iff.1 hy).1 hy, rfl, rfl, rfl⟩, zkey_at _, (hv.kp [] 0 2)⟩
theorem v2fa32_2 : FA Tryz.prog 32 2 2 := fun w b o => by kernel_rfl
theorem v2mk9 : (Tryz.prog.info? 9).map (fun i => (i.zero, i.size, i.bytes)) = some (some (vS []), 1, 16) := by kernel_rfl
theorem v2el23 : Elem Tryz.prog 23 9 (vS []) 1 16 := elem_of Tryz.underlying23 v2mk9 (by rfl) (by decide)
theorem refWrote20 (B : Base) (H : List Res) (w : World) (K : List KeyR) (wl : List (List UInt8)) (ka wa : Option Addr) (kc wc : Nat) (xs : List Value) (clk : Int) (hR : RefV B K wl ka wa kc wc xs) (_ : K.length ≤ 10000) (hmw : wl.length ≤ 10000) (name : List UInt8) (hv : Inv B H w) :
  Calls Tryz.prog 42 #[.agg #[.slice ka K.length kc, vI clk, .slice wa wl.length wc], vS name] w fun e w' => ∃ C a c, B.Le C ∧ e = .returned (.slice a (wl.length + 1) c) ∧ SliceOk a (wl.length + 1) c ∧ RdV C [] a (textCells (wl ++ [name])) ∧ Inv C H w' := by
 refine cW Tryz.func42 rfl Tryz.ntmps42 ?_
 simp only [al]
 refine sK fun _ k1 => rL (sl_box (L := [.slice ka K.length kc, vI clk, .slice wa wl.length wc]) tV (wn rfl) rfl rfl hv (fun w => by kernel_rfl) (fun b2 w3 hv => ?_))
 refine uA rfl (uW k1 ?_)
 refine sK fun _ k4 => rL (uA rfl ?_)
 refine uW k4 (sK fun _ k5 => ?_)
 replace hv := hv.rowNil 9 1
 refine rL (uM rfl ?_)
 refine uF (.pointer (some ⟨b2, 2, none⟩)) rfl (v2fa32_2 _ _ _) ?_
 refine uL _ rfl (run_load1 s1na23 (hv.load 1 2 rfl rfl)) ?_
 refine sl_append (news := textCells wl) tV (wn rfl) rfl rfl rfl v2el23 hv hR.ok2 (by rw [textCells_len]) ((hR.wr.more (Base.Le.refl _) (fun _ h => by cases h)).src hv) ((textCells_one _)) (by unfold maxLen; omega) (by omega) (fun rv6 w9 hv => ?_)
 obtain ⟨ra7, rc8, rfl⟩ := row_slice hv.head
 refine uA rfl (uW k5 ?_)
 refine sK fun _ k10 => rL (uM rfl ?_)
 refine uM rfl ?_
 refine sl_rowOne (v := vS name) tV (wn rfl) rfl rfl hv v2el23 rfl (fun b11 w12 hv => ?_)
 simp only [zP, po]
 replace hv := hv.front 1 rfl
 simp only [eS, eZ] at hv
 refine sl_append (news := [vS name]) tV (wn rfl) rfl rfl rfl v2el23 hv (ok_full (by omega)) rfl (rd_all (hv.get 1 rfl)) (by intro u hu; simp only [List.mem_cons, List.not_mem_nil, or_false] at hu; rcases hu with rfl <;> rfl) (by unfold maxLen; omega) (by omega) (fun rv13 w16 hv => ?_)
 obtain ⟨ra14, rc15, rfl⟩ := row_slice hv.head
 refine uA rfl (uW k10 ?_)
 refine rR (bR rfl rfl ?_)
 obtain ⟨C, hB, hv2, hr2, hok2, -⟩ := ((hv.sub (sC _ (sD _ (sD _ (sR _)))))).rowBy
 exact ⟨C, _, _, hB, congrArg (fun n => Ending.returned (Value.slice ra14 n rc15)) (show 0 + wl.length + 1 = wl.length + 1 by omega), by simpa using hok2, by simpa [textCells] using hr2, hv2⟩
def others (K : List KeyR) (name : List UInt8) : List KeyR := K.filter fun x => !decide (x.name = name)
theorem others_yes {K : List KeyR} {name : List UInt8} {i : Nat} {x : KeyR} (hx : K[i]? = some x) (h : x.name ≠ name) : others (K.take (i + 1)) name = others (K.take i) name ++ [x] := by
 unfold others; rw [take_next hx, List.filter_append]; simp [h]
theorem others_no {K : List KeyR} {name : List UInt8} {i : Nat} {x : KeyR} (hx : K[i]? = some x) (h : ¬ x.name ≠ name) : others (K.take (i + 1)) name = others (K.take i) name := by
 unfold others; rw [take_next hx, List.filter_append]; simp [h]
theorem others_le (K : List KeyR) (name : List UInt8) : (others K name).length ≤ K.length := List.length_filter_le _ _
theorem v2mk84 : (Tryz.prog.info? 84).map (fun i => (i.zero, i.size, i.bytes)) = some (some (.agg #[vS [], vI 0, vS [], vN, vN, vN, vI 0]), 7, 120) := by kernel_rfl
theorem v2el30 : Elem Tryz.prog 30 84 (.agg #[vS [], vI 0, vS [], vN, vN, vN, vI 0]) 7 120 := elem_of Tryz.underlying30 v2mk84 (by rfl) (by decide)
theorem refWithout20 (B : Base) (H : List Res) (w : World) (K : List KeyR) (wl : List (List UInt8)) (ka wa : Option Addr) (kc wc : Nat) (xs : List Value) (clk : Int) (hR : RefV B K wl ka wa kc wc xs) (hm : K.length ≤ 10000) (_ : wl.length ≤ 10000) (name : List UInt8) (hv : Inv B H w) :
  Calls Tryz.prog 40 #[.agg #[.slice ka K.length kc, vI clk, .slice wa wl.length wc], vS name] w fun e w' => ∃ C a c ys, B.Le C ∧ e = .returned (.slice a (others K name).length c) ∧ SliceOk a (others K name).length c ∧ RdV C [] a ys ∧ KeysAt C (others K name) ys ∧ Inv C H w' := by
 refine cW Tryz.func40 rfl Tryz.ntmps40 ?_
 simp only [al]
 refine sK fun _ k1 => rL (sl_box (L := [.slice ka K.length kc, vI clk, .slice wa wl.length wc]) tV (wn rfl) rfl rfl hv (fun w => by kernel_rfl) (fun b2 w3 hv => ?_))
 refine uA rfl (uW k1 ?_)
 refine sK fun _ k4 => rL (uA rfl ?_)
 refine uW k4 (sK fun _ k5 => ?_)
 refine sK fun _ k6 => rL (uA rfl ?_)
 refine uW k6 (bB ?_)
 gi_loopw [5, 6] (fun x5 x6 wr => ∃ (i n1 : Nat) (ra : Option Addr) (rc : Nat) (ys : List Value), x5 = .slice ra n1 rc ∧ x6 = vI i ∧ i ≤ K.length ∧ n1 = (others (K.take i) name).length ∧ KeysAt B (others (K.take i) name) ys ∧ Inv B (Res.row 84 7 (.slice ra n1 rc) n1 ys :: Res.cell b2 [.slice ka K.length kc, vI clk, .slice wa wl.length wc] 32 :: H) wr) (fun x5 x6 _ => K.length - (intOf x6).toNat)
 case atStart => exact ⟨0, 0, none, 0, [], rfl, rfl, Nat.zero_le _, rfl, rfl, (hv).rowNil 84 7⟩
 case round =>
  obtain ⟨i, n1, ra, rc, ys, rfl, rfl, hi, hn1, hys, hv⟩ := hrel
  have hn1b := others_le (K.take i) name
  rw [List.length_take] at hn1b
  refine sK fun _ k8 => sK fun _ k9 => rL (uM rfl ?_)
  refine uF (vP b2) rfl (v2fa32_0 _ _ _) ?_
  refine uL _ rfl (run_load1 v2na30 (hv.load 1 0 rfl rfl)) ?_
  refine uG (vI (K.length : Int)) rfl (ex_len0 Tryz.underlying30 rfl rfl) ?_
  by_cases hb10 : (i : Int) < (K.length : Int)
  ·refine uG (.bool true) rfl (ex_lss rfl rfl rfl (qT hb10)) (uW k9 ?_)
   refine cT rfl (kS ?_)
   refine tK k8 (sK fun _ k11 => ?_)
   refine bB (sK fun _ k12 => ?_)
   obtain ⟨x, hx⟩ : ∃ x, K[i]? = some x := ⟨_, List.getElem?_eq_getElem (show i < K.length by omega)⟩
   obtain ⟨bb, bo, xp, xt, xz, had, hvalx, hrdx⟩ := KeysAt.reads hR.at_ hR.keys hx
   subst had
   refine rL (uF (vP b2) rfl (v2fa32_0 _ _ _) ?_)
   refine uL _ rfl (run_load1 v2na30 (hv.load 1 0 rfl rfl)) (uM rfl ?_)
   refine uG (.pointer (some ⟨bb, bo + i * 7, none⟩)) rfl (ex_index rfl rfl rfl (run_idx (k := i) Tryz.underlying30 v2es30 (by omega))) ?_
   refine uF (.pointer (some ⟨bb, bo + i * 7, none⟩)) rfl (v2fa84_0 _ _ _) ?_
   refine uL _ rfl (run_load1 s9na9 (hrdx _ _ _ (Base.Le.refl _) no_res hv 0 _ rfl)) (uM rfl ?_)
   by_cases hb13 : x.name ≠ name
   ·refine uG (.bool true) rfl (ex_sneq rfl rfl rfl (qT hb13)) (uW k12 ?_)
    refine cT rfl (rL ?_)
    refine uM rfl ?_
    refine uF (vP b2) rfl (v2fa32_0 _ _ _) ?_
    refine uL _ rfl (run_load1 v2na30 (hv.load 1 0 rfl rfl)) (uM rfl ?_)
    refine uG (.pointer (some ⟨bb, bo + i * 7, none⟩)) rfl (ex_index rfl rfl rfl (run_idx (k := i) Tryz.underlying30 v2es30 (by omega))) ?_
    refine uL (.agg #[vS x.name, vI x.val.kind, vS x.val.text, xp, xt, xz, vI x.exp]) rfl (run_loadR (cs := [vS x.name, vI x.val.kind, vS x.val.text, xp, xt, xz, vI x.exp]) v2wd84 (Reads.mid (pre := []) (mid := [vS x.name, vI x.val.kind, vS x.val.text, xp, xt, xz, vI x.exp]) (post := []) hrdx _ _ _ (Base.Le.refl _) no_res hv)) ?_
    refine sl_rowAgg (L := [vS x.name, vI x.val.kind, vS x.val.text, xp, xt, xz, vI x.exp]) tV (wn rfl) rfl rfl hv v2el30 rfl (by decide) (fun b14 w15 hv => ?_)
    replace hv := hv.front 1 rfl
    simp only [eS, eZ] at hv
    refine sl_append (news := [vS x.name, vI x.val.kind, vS x.val.text, xp, xt, xz, vI x.exp]) tV (wn rfl) rfl rfl rfl v2el30 hv (ok_full (by omega)) rfl (rd_all (hv.get 1 rfl)) (krCells_one (v := x) hvalx) (by unfold maxLen; omega) (by omega) (fun rv16 w19 hv => ?_)
    obtain ⟨ra17, rc18, rfl⟩ := row_slice hv.head
    refine uA rfl (uZ ?_)
    refine bN (tK k11 ?_)
    refine rL (uM rfl ?_)
    refine uG (vI ((i + 1 : Nat) : Int)) rfl (ex_add rfl rfl rfl (by rw [i64_in (by omega)]; omega)) (uA rfl ?_)
    refine uZ (then_normal ?_)
    go_roundw
    case rel => exact ⟨i + 1, n1 + 1, _, _, _, rfl, rfl, by omega, by rw [others_yes hx hb13, List.length_append, ← hn1]; rfl, by rw [others_yes hx hb13]; exact KeysAt.append (KeysAt.single hvalx) hys, (hv.kp [2, 1] 2 1)⟩
    case measure => show K.length - (((i + 1 : Nat) : Int)).toNat < K.length - ((i : Int)).toNat; omega
   refine uG (.bool false) rfl (ex_sneq rfl rfl rfl (qF hb13)) (uW k12 ?_)
   refine cF rfl (kS ?_)
   refine bN (tK k11 ?_)
   refine rL (uM rfl ?_)
   refine uG (vI ((i + 1 : Nat) : Int)) rfl (ex_add rfl rfl rfl (by rw [i64_in (by omega)]; omega)) (uA rfl ?_)
   refine uZ (then_normal ?_)
   go_roundw
   case rel => exact ⟨i + 1, n1, _, _, _, rfl, rfl, by omega, by rw [others_no hx hb13, ← hn1], by rw [others_no hx hb13]; exact hys, ((hv.front 1 rfl).front 1 rfl)⟩
   case measure => show K.length - (((i + 1 : Nat) : Int)).toNat < K.length - ((i : Int)).toNat; omega
  refine uG (.bool false) rfl (ex_lss rfl rfl rfl (qF hb10)) (uW k9 ?_)
  refine cF rfl (xE ?_)
  refine tX (tX ?_)
  refine bH (tK k5 ?_)
  refine sK fun _ k20 => rL (uM rfl ?_)
  refine uA rfl (uW k20 ?_)
  refine rR (bR rfl rfl ?_)
  obtain rfl : i = K.length := by omega
  rw [List.take_length] at hys hn1
  subst hn1
  obtain ⟨C, hB, hv2, hr2, hok2, -⟩ := ((hv.sub (sC _ (sD _ (sR _))))).rowBy
  exact ⟨C, _, _, _, hB, rfl, hok2, hr2, hys.more hB, hv2⟩
def delK (K : List KeyR) (clk : Int) (name : List UInt8) : List KeyR := if (getK K clk name).isSome then others K name else K
theorem v2al32 : AL Tryz.prog 32 [vN, vI 0, vN] := fun w => by kernel_rfl
theorem v2wd32 : Wide Tryz.prog 32 3 := wide_of (fun w => by kernel_rfl) (by kernel_rfl)
theorem v2callable27 : Callable Tryz.prog 27 := cb Tryz.func27 (by kernel_rfl)
theorem v2callable40 : Callable Tryz.prog 40 := cb Tryz.func40 (by kernel_rfl)
theorem v2callable42 : Callable Tryz.prog 42 := cb Tryz.func42 (by kernel_rfl)
theorem v2sz32 : (Tryz.prog.info? 32).map (·.size) = some 3 := by kernel_rfl
theorem refDel20 (B : Base) (H : List Res) (w : World) (K : List KeyR) (wl : List (List UInt8)) (ka wa : Option Addr) (kc wc : Nat) (xs : List Value) (clk : Int) (hR : RefV B K wl ka wa kc wc xs) (hm : K.length ≤ 10000) (hmw : wl.length ≤ 10000) (name : List UInt8) (hv : Inv B H w) :
  Calls Tryz.prog 39 #[.agg #[.slice ka K.length kc, vI clk, .slice wa wl.length wc], vS name] w fun e w' => ∃ C K' wl' ka' kc' wa' wc' xs', B.Le C ∧ e = .returned (.agg #[.slice ka' K'.length kc', vI clk, .slice wa' wl'.length wc']) ∧ RefV C K' wl' ka' wa' kc' wc' xs' ∧ K' = delK K clk name ∧ wl'.length ≤ wl.length + 1 ∧ Inv C H w' := by
 refine cW Tryz.func39 rfl Tryz.ntmps39 ?_
 simp only [al]
 refine sK fun _ k1 => rL (sl_box (L := [.slice ka K.length kc, vI clk, .slice wa wl.length wc]) tV (wn rfl) rfl rfl hv (fun w => by kernel_rfl) (fun b2 w3 hv => ?_))
 refine sl_alloc tV (wn rfl) rfl hv v2al32 (fun b4 w5 hv => ?_)
 refine uW k1 (sK fun _ k6 => ?_)
 refine rL (uL (.agg #[.slice ka K.length kc, vI clk, .slice wa wl.length wc]) rfl (lM 1 v2wd32 hv rfl rfl rfl rfl) ?_)
 refine uM rfl ?_
 refine xC v2callable27 rfl ((refGet20 B _ _ K wl ka wa kc wc xs clk hR hm hmw name hv).mono ?_) rfl
 rintro e w7 ⟨x, xp, xt, xz, ok, rfl, hget, hxv, hv⟩
 refine ⟨_, rfl, ?_⟩
 rcases hget with ⟨rfl, hget, -⟩ | ⟨rfl, -, hget, -⟩
 ·refine uM rfl (uE rfl ?_)
  refine uE rfl ?_
  refine sl_alloc tV (wn rfl) rfl hv v2al84 (fun b8 w9 hv => ?_)
  refine xS 0 rfl hv v2sz84 rfl (by exact ⟨rfl, rfl, rfl, hxv.p.one, hxv.t.one, hxv.z.one, rfl, trivial⟩) (fun w10 hv => ?_)
  simp only [zO, sp] at hv
  refine uA rfl (uW k6 ?_)
  refine sK fun _ k11 => sK fun _ k12 => rL (uM rfl ?_)
  refine uG (.bool false) rfl (ex_not rfl rfl rfl) (uW k12 ?_)
  refine cF rfl (kS ?_)
  refine tK k11 (sK fun _ k13 => ?_)
  refine rW mixed [2, 7, 9] [0,1,3,4,5,6,2,7,8,9] 25 rfl (by kernel_rfl) hv ?_
  simp only [qm, opAt]
  refine dL (.agg #[.slice ka K.length kc, vI clk, .slice wa wl.length wc]) rfl (fun hv => ex_load rfl rfl (lM 2 v2wd32 hv rfl rfl rfl rfl)) (dM (vS name) rfl ?_)
  refine dG (.pointer (some ⟨b2, 1, none⟩)) rfl (ex_field rfl rfl (v2fa32_1 _ _ _)) ?_
  simp only [zP, po]
  refine dF _ rfl (fun hv => ex_load rfl rfl (run_load1 s2na3 (hv.load 2 1 rfl rfl))) fun f14 hf14 => dF (.agg #[.slice ka K.length kc, vI clk, .slice wa wl.length wc]) rfl (fun hv => ex_load rfl rfl (lM 2 v2wd32 hv rfl rfl rfl rfl)) fun f15 hf15 => dM (vS name) rfl ?_
  simp only [zP, po]
  refine dS rfl fun w16 hv => mC v2callable40 rfl ((refWithout20 B _ _ K wl ka wa kc wc xs clk hR hm hmw name hv).mono ?_) rfl
  rintro e w17 ⟨C, la, lc, lys, hC, rfl, hlok, hlr, hlys, hv⟩
  refine ⟨_, rfl, dV hv (fC (fun ww hv => hf15 ww ?_) (fC (fun ww hv => hf14 ww (ex_load rfl rfl (run_load1 s2na3 (hv.load 2 1 rfl rfl)))) fN)) ?_⟩
  ·exact ex_load rfl rfl (lM 2 v2wd32 hv rfl rfl rfl rfl)
  refine dS rfl fun w18 hv => mC v2callable42 rfl ((refWrote20 C _ _ K wl ka wa kc wc xs clk (hR.more hC) hm hmw name hv).mono ?_) rfl
  rintro e w19 ⟨D, ya, yc, hD, rfl, hyok, hyr, hv⟩
  refine ⟨_, rfl, dV hv (fK rfl (fC (fun ww hv => hf14 ww (ex_load rfl rfl (run_load1 s2na3 (hv.load 2 1 rfl rfl)))) fN)) ?_⟩
  refine dG (.agg #[.slice la ((others K name).length) lc, vI clk, .slice ya (wl.length + 1) yc]) rfl (ex_buildN (vs := #[(0, .slice la ((others K name).length) lc), (1, vI clk), (2, .slice ya (wl.length + 1) yc)]) rfl (by simp only [List.map_toArray, List.map_cons, List.map_nil]; rfl) (by kernel_rfl)) ?_
  simp only [zP, po]
  refine dS rfl fun w20 hv => mS 1 rfl hv v2sz32 rfl (by exact ⟨rfl, rfl, rfl, trivial⟩) (fun w21 hv => ?_)
  simp only [zS, zO, sp] at hv
  refine dV hv (fK rfl (fK rfl fN)) (dE fun w22 hv => ?_)
  simp only [zP, po]
  refine tK k13 (rR ?_)
  refine bC 1 v2wd32 hv rfl rfl rfl rfl (⟨_, others K name, wl ++ [name], _, _, _, _, _, (hC.trans hD), by rw [List.length_append]; rfl, ⟨hlok, hlr.more hD (fun _ h => h), hlys.more hD, by rw [List.length_append]; exact hyok, hyr⟩, by unfold delK; rw [hget]; rfl, by rw [List.length_append]; exact Nat.le_refl _, (hv.kp [] 0 3)⟩)
 refine uM rfl (uE rfl ?_)
 refine uE rfl ?_
 refine sl_alloc tV (wn rfl) rfl hv v2al84 (fun b23 w24 hv => ?_)
 refine xS 0 rfl hv v2sz84 rfl (by exact ⟨rfl, rfl, rfl, hxv.p.one, hxv.t.one, hxv.z.one, rfl, trivial⟩) (fun w25 hv => ?_)
 simp only [zO, sp] at hv
 refine uA rfl (uW k6 ?_)
 refine sK fun _ k26 => sK fun _ k27 => rL (uM rfl ?_)
 refine uG (.bool true) rfl (ex_not rfl rfl rfl) (uW k27 ?_)
 refine cT rfl (sK fun _ k28 => ?_)
 refine rL (uL (.agg #[.slice ka K.length kc, vI clk, .slice wa wl.length wc]) rfl (lM 2 v2wd32 hv rfl rfl rfl rfl) ?_)
 refine xS 1 rfl hv v2sz32 rfl (by exact ⟨rfl, rfl, rfl, trivial⟩) (fun w29 hv => ?_)
 simp only [zS, zO, sp] at hv
 refine uW k28 (rR ?_)
 refine tR (bC 1 v2wd32 hv rfl rfl rfl rfl ?_)
 exact ⟨B, K, wl, _, _, _, _, _, Base.Le.refl _, rfl, hR, by unfold delK; rw [hget]; rfl, by omega, (hv.kp [] 0 3)⟩
end Go.Proofs.YtmpackidbgfoiaaGreatDoor
namespace Go.Pm
open Go.RowKit
section
variable {B : Base} {X X' : List (List Ent)} {M : Model} {key : List UInt8} {i j : Nat}
end
section
variable {ti tb te : TypeId} {p : Nat} {n : Int} {X : List (List Ent)} {bvs : List Value} {B : Base} {H : List Res} {w : World}
end
theorem sorted_ext : ∀ {l1 l2 : List (List UInt8)}, l1.Pairwise (fun a b => Op.bytesLess a b = true) → l2.Pairwise (fun a b => Op.bytesLess a b = true) → (∀ k, k ∈ l1 ↔ k ∈ l2) → l1 = l2
 | [], [], _, _, _ => rfl
 | [], b :: l2, _, _, h => by have := (h b).2 List.mem_cons_self; cases this
 | a :: l1, [], _, _, h => by have := (h a).1 List.mem_cons_self; cases this
 | a :: l1, b :: l2, h1, h2, h => by
  obtain ⟨h1a, h1b⟩ := List.pairwise_cons.1 h1
  obtain ⟨h2a, h2b⟩ := List.pairwise_cons.1 h2
  have e : a = b := by
   rcases List.mem_cons.1 ((h a).1 List.mem_cons_self) with h3 | h3
   ·exact h3
   rcases List.mem_cons.1 ((h b).2 List.mem_cons_self) with h4 | h4
   ·exact h4.symm
   have h5 := h2a a h3
   rw [lt_asymm (h1a b h4)] at h5
   cases h5
  subst e
  rw [sorted_ext h1b h2b (fun k => ?_)]
  constructor
  ·intro hk
   rcases List.mem_cons.1 ((h k).1 (List.mem_cons_of_mem _ hk)) with h3 | h3
   ·exact absurd h3.symm (lt_ne (h1a k hk))
   exact h3
  intro hk
  rcases List.mem_cons.1 ((h k).2 (List.mem_cons_of_mem _ hk)) with h3 | h3
  ·exact absurd h3.symm (lt_ne (h2a k hk))
  exact h3
def SortedT (l : List (List UInt8)) : Prop := l.Pairwise (fun a b => Op.bytesLess a b = true)
theorem RdV.shift {B : Base} {H : List Res} {b off : Nat} {xs : List Value} (h : RdV B H (some ⟨b, off, none⟩) xs) (k : Nat) : RdV B H (some ⟨b, off + k, none⟩) (xs.drop k) := fun i hi => by
 rw [List.length_drop] at hi
 obtain ⟨b', off', h1, h2⟩ := h (k + i) (by omega)
 cases h1
 refine ⟨b, off + k, rfl, ?_⟩
 rw [List.getElem_drop, Nat.add_assoc]
 exact h2
theorem rdV_nil_any (B : Base) (ad : Option Addr) : RdV B [] ad [] := fun i hi => by simp at hi
theorem sliced_rdV {B : Base} {ad : Option Addr} {n c k : Nat} {xs : List Value} (size : Nat) (hr : RdV B [] ad xs) (hl : xs.length = n * size) (hn : n ≤ c) (hk : k ≤ n) (hz : 0 < size) : ∃ a2, sliced ad k n c size = .slice a2 (n - k) (c - k) ∧ RdV B [] a2 (xs.drop (k * size)) := by
 rcases Nat.lt_or_ge k n with h | h
 ·have h1 : 0 < xs.length := by rw [hl]; exact Nat.mul_pos (by omega) hz
  obtain ⟨b, off, rfl, -⟩ := hr 0 h1
  refine ⟨some ⟨b, off + k * size, none⟩, ?_, hr.shift _⟩
  unfold sliced
  rw [if_neg (by omega), Option.map_some, addr_add]
 obtain rfl : k = n := by omega
 have hd : xs.drop (k * size) = [] := List.drop_of_length_le (by omega)
 refine ⟨_, rfl, ?_⟩
 rw [hd]
 exact rdV_nil_any _ _
theorem le_of {B : Base} {H : List Res} {w : World} (hv : Inv B H w) : B.Le (Base.of w) := ⟨hv.base.blk, hv.base.lo, hv.base.os, hv.base.tape, hv.base.output⟩
section
variable {M : Model} {key : List UInt8} {l : List Ver} {k : Nat} {ok : Bool}
end
theorem sliced_fromV {B : Base} {ad : Option Addr} {n c k : Nat} {xs : List Value} (size : Nat) (hok : SliceOk ad n c) (hr : RdV B [] ad xs) (hl : xs.length = n * size) (hk : k ≤ n) (hz : 0 < size) : ∃ a2 c2, sliced ad k n c size = .slice a2 (n - k) c2 ∧ SliceOk a2 (n - k) c2 ∧ RdV B [] a2 (xs.drop (k * size)) := by
 have hle := hok.le
 have hmx := hok.max
 rcases Nat.lt_or_ge k n with h | h
 ·obtain ⟨a2, h1, h2⟩ := sliced_rdV size hr hl hle hk hz
  refine ⟨a2, c - k, h1, ⟨by omega, by unfold maxLen at hmx ⊢; omega, fun e => ?_⟩, h2⟩
  subst e
  have hlt : 0 < (xs.drop (k * size)).length := by
   rw [List.length_drop, hl]
   have := Nat.mul_lt_mul_of_pos_right h hz
   omega
  obtain ⟨b, off, h3, -⟩ := h2 0 hlt
  cases h3
 obtain rfl : k = n := by omega
 have hd : xs.drop (k * size) = [] := List.drop_of_length_le (by omega)
 rw [hd]
 unfold sliced
 by_cases hc : c = k
 ·rw [if_pos hc]
  exact ⟨ad, c - k, rfl, ⟨by omega, by unfold maxLen at hmx ⊢; omega, fun _ => by omega⟩, rdV_nil_any _ _⟩
 rw [if_neg hc]
 refine ⟨_, c - k, rfl, ⟨by omega, by unfold maxLen at hmx ⊢; omega, fun e => ?_⟩, rdV_nil_any _ _⟩
 cases ad with
 | none => have := hok.nil rfl; omega
 | some a => cases e
section
variable {P : Program} {t : TypeId} {w : World}
end
structure ValRd (B : Base) (v : Val) (p t z : Value) : Prop where
 p : RowB B p v.pairs.length (pairCells v.pairs)
 t : RowB B t v.texts.length (textCells v.texts)
 z : RowB B z v.zset.length (memCells v.zset)
theorem ValRd.more {B C : Base} {v : Val} {p t z : Value} (h : ValRd B v p t z) (hB : B.Le C) : ValRd C v p t z := ⟨h.p.more hB, h.t.more hB, h.z.more hB⟩
theorem ValAt.rd {B : Base} {v : Val} {p t z : Value} (h : ValAt B v p t z) : ValRd B v p t z := ⟨h.p, h.t, h.z⟩
def ValSm (v : Val) : Prop := v.pairs.length ≤ 60 ∧ v.texts.length ≤ 600 ∧ v.zset.length ≤ 60
section
variable {P : Program} {a : Act} {w : World} {o : Oper} {t u : TypeId} {x y : Operand}
theorem ex_neqSame {L : List Value} (ho : o.op = .binOp .neq t x y u) (hx : a.eval x = .agg L.toArray) (hy : a.eval y = .agg L.toArray) (hg : P.eqGuardType P.depth t = false) (he : ∀ w, (Op.equalIn 10000 t (.agg L.toArray) (.agg L.toArray)).run P w = .ok true w) : Ex P a o w (.bool false) w := by
 unfold Ex
 simp [execOp, ho, hx, hy, run_eqGuard_agg w .neq t x y _ _ hg, run_neq_struct, he]
theorem ex_bneq {p q b : Bool} (ht : P.underlying t = some .bool) (ho : o.op = .binOp .neq t x y u) (hx : a.eval x = .bool p) (hy : a.eval y = .bool q) (hb : (p != q) = b) : Ex P a o w (.bool b) w := by
 subst hb
 have he := run_neq_bool (P := P) w t p q ht
 unfold Ex
 simp only [execOp, ho, hx, hy]
 simp [eqGuard, he]
 cases p <;> cases q <;> rfl
end
end Go.Pm
