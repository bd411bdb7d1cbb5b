/- A region that draws its order, with two operations that change memory and wait for none of each other: walked both ways. -/
import Derived.Test.YtoljdfjnannakaaGreatDoorCsNamB
import Derived.Test.YtoljdfjnannakaaGreatDoorRows
import Derived.Test.YtoljdfjnannakaaGreatDoorCsNamE
import Derived.Test.YtoljdfjnannakaaGreatDoorCsNamF
set_option maxRecDepth 100000
namespace Go.Pm
open Go.RowKit
def DW2 (P : Program) (ops : Array Oper) (mem : List Nat) (R : Act → World → Prop) (l1 l2 : List (Nat × Oper)) : List (Nat × Oper) → List (Nat × (World → Prop)) → (World → Prop) → Act → Prop
 | [], Fl, J, a => DW P ops mem R l1 Fl J a ∧ DW P ops mem R l2 Fl J a
 | x :: is, Fl, J, a =>
  (Region.wanted x.2 (yielded ops a.tmps) = false ∧ DW2 P ops mem R l1 l2 is Fl J (a.put x.2.dst undef)) ∨ (Region.wanted x.2 (yielded ops a.tmps) = true ∧
  ∃ v, ((∀ w, Adds P x.2 a w v) ∧ DW2 P ops mem R l1 l2 is Fl J (a.put x.2.dst v)) ∨ ∃ f : World → Prop, (∀ w, f w → Adds P x.2 a w v) ∧ (∀ w, J w → f w) ∧ DW2 P ops mem R l1 l2 is ((x.1, f) :: Fl) J (a.put x.2.dst v))
structure Rd (ops : Array Oper) (listed : Array Bool) (i : Nat) (o : Oper) : Prop where
 ho : ops[i]? = some o
 lt : i < ops.size
 lf : listed.getD i false = false
 prT : ∀ j, ahead ops j i = true → listed.getD j false = true
 not_ : ∀ q, ahead ops i q = true → listed.getD q false = false
 ct : toCome ops (listed.setIfInBounds i true) < toCome ops listed
 ls : ∀ q, (listed.setIfInBounds i true).getD q false = true ↔ q = i ∨ listed.getD q false = true
 closed : ∀ (j : Nat) (oj : Oper), ops[j]? = some oj → (listed.setIfInBounds i true).getD j false = true → ∀ k, binder oj k = true → (listed.setIfInBounds i true).getD k false = true
theorem rd_of {ops : Array Oper} {listed : Array Bool} {i : Nat} (hs : listed.size = ops.size) (hcl : ∀ (j : Nat) (o : Oper), ops[j]? = some o → listed.getD j false = true → ∀ k, binder o k = true → listed.getD k false = true) (hi : i ∈ Region.ready .any ops listed) : ∃ o, Rd ops listed i o := by
 obtain ⟨o, ho, hi2, hl, hpr⟩ := mem_ready hi
 have hlf : listed.getD i false = false := by
  simp only [Array.getD_eq_getD_getElem?] at hl ⊢
  rw [Array.getElem?_eq_getElem (by rw [hs]; exact hi2)] at hl ⊢
  simpa using hl
 have hls : ∀ q, (listed.setIfInBounds i true).getD q false = true ↔ q = i ∨ listed.getD q false = true := by
  intro q
  constructor
  ·exact getD_false_set
  rintro (rfl | h)
  ·simp only [Array.getD_eq_getD_getElem?]
   rw [Array.getElem?_setIfInBounds_self_of_lt (by rw [hs]; exact hi2)]
   rfl
  exact getD_set_true h
 refine ⟨o, ho, hi2, hlf, fun j hj => ?_, fun q hq => ?_, by have := toCome_set hi2 hl; omega, hls, fun j oj hj hlj k hk => ?_⟩
 ·cases ahead_reach hj with
  | one h hb => rw [ho] at h; cases h; exact hpr _ hb
  | step h hb hr => rw [ho] at h; cases h; exact hr.listed hcl (hpr _ hb)
 ·cases hlq : listed.getD q false with
  | false => rfl
  | true => rw [(ahead_reach hq).listed hcl hlq] at hlf; cases hlf
 rcases (hls j).1 hlj with e | e
 ·subst e; rw [ho] at hj; cases hj
  exact (hls k).2 (.inr (hpr k hk))
 exact (hls k).2 (.inr (hcl j oj hj e k hk))
section
variable {P : Program} {ops : Array Oper} {mem perm pre is : List Nat} {R : Act → World → Prop} {Q : Exit → Act → World → Prop} {a0 a aS : Act} {listed : Array Bool} {w w' : World} {val : Nat → Value} {Fl : List (Nat × (World → Prop))} {J : World → Prop} {i : Nat} {o : Oper} {K : Act → World → Prop}
theorem Rd.lf2 (r : Rd ops listed i o) (q : Nat) (hq : (listed.setIfInBounds i true).getD q false = false) : q ≠ i ∧ listed.getD q false = false := by
 refine ⟨fun e => ?_, ?_⟩
 ·rw [(r.ls q).2 (.inl e)] at hq; cases hq
 cases h : listed.getD q false with
 | false => rfl
 | true => rw [(r.ls q).2 (.inr h)] at hq; cases hq
theorem DI.agr (hsel : ∀ (j : Nat) (o : Oper), ops[j]? = some o → notSel o = true) (hlook : ∀ (i : Nat) (o : Oper), ops[i]? = some o → ∀ t ∈ o.looksAt ops, ∀ (q : Nat) (o' : Oper), ops[q]? = some o' → o'.dst = some t → q = i ∨ ahead ops q i = true ∨ ahead ops i q = true)
  (I : DI P ops mem R a0 perm listed a w pre is val Fl J aS) (r : Rd ops listed i o) (ai : Act) (L : Nat → Prop) (hT : Tk ops L val a0 ai) (h1 : ∀ q, ahead ops q i = true → L q) (h2 : ∀ q, L q → q ≠ i ∧ ahead ops i q = false) :
  execOp ai.eval o = execOp a.eval o ∧ Region.wanted o (yielded ops ai.tmps) = Region.wanted o (yielded ops a.tmps) := by
 refine same_of (by rw [hT.size, I.tk.size]) (hsel i o r.ho) fun t ht => hT.agree I.tk t fun q o' hq hd => ?_
 rcases hlook i o r.ho t ht q o' hq hd with h | h | h
 ·subst h
  exact ⟨fun h => ((h2 _ h).1 rfl).elim, fun h => by rw [r.lf] at h; cases h⟩
 ·exact ⟨fun _ => r.prT q h, fun _ => h1 q h⟩
 exact ⟨fun h3 => (by rw [(h2 q h3).2] at h; cases h), fun h3 => by rw [r.not_ q h] at h3; cases h3⟩
theorem DI.fired (hnd : onceDst ops = true) (hfit : ∀ (j : Nat) (o : Oper) (d : Tmp), ops[j]? = some o → o.dst = some d → d < a0.tmps.size) (I : DI P ops mem R a0 perm listed a w pre is val Fl J aS) (r : Rd ops listed i o) (hip : i ∈ pre) (hx : Ext w w') :
  DI P ops mem R a0 perm (listed.setIfInBounds i true) (a.put o.dst (val i)) w' pre is val Fl J aS := by
 refine ⟨by simpa using I.lsize, r.closed, (Tk.put hnd hfit I.tk r.ho (by rw [r.lf]; decide) rfl).iff (fun q => (r.ls q).symm) (fun _ _ => rfl), I.perm, I.tkS, I.dw, I.st, I.st _ _ I.inv hx, fun f hf hq => I.fl f hf (r.lf2 _ hq).2, fun q hq => ?_, fun q hq h => (r.ls q).2 (.inr (I.memd q hq h)), fun q hq h => I.pend q hq (r.lf2 q h).2⟩
 rcases (r.ls q).1 hq with h | h
 ·subst h; exact hip
 exact I.sub q h
theorem DI.fire (hsel : ∀ (j : Nat) (o : Oper), ops[j]? = some o → notSel o = true) (hlook : ∀ (i : Nat) (o : Oper), ops[i]? = some o → ∀ t ∈ o.looksAt ops, ∀ (q : Nat) (o' : Oper), ops[q]? = some o' → o'.dst = some t → q = i ∨ ahead ops q i = true ∨ ahead ops i q = true)
  (I : DI P ops mem R a0 perm listed a w pre is val Fl J aS) (r : Rd ops listed i o) (hip : i ∈ pre) (hK : ∀ w', Ext w w' → K (a.put o.dst (val i)) w') : wpOp P ops Q i K a w := by
 obtain ⟨o', ai, L, h1, h2, h3, h4, h5, h6⟩ := I.pend i hip r.lf
 rw [r.ho] at h1; cases h1
 obtain ⟨he, hw⟩ := I.agr hsel hlook r ai L h2 h3 h4
 unfold wpOp
 rw [r.ho]
 simp only []
 rcases h6 with ⟨h6, h7⟩ | ⟨h6, h7⟩
 ·rw [← hw, h6]
  simp only [Bool.false_eq_true, if_false]
  have := hK w (Ext.rfl' _)
  rw [h7] at this
  exact this
 rw [← hw, h6]
 simp only [if_true]
 have hA : Adds P o ai w (val i) := by
  rcases h7 with h7 | ⟨h7, -⟩ | ⟨f, h7, h8⟩
  ·exact h7 w
  ·exact h7 w I.inv
  exact h8 w (I.fl _ h7 r.lf w I.inv)
 refine .inl (Oper.wp_mono (fun a' w' ⟨v, ha, hv, hx⟩ => ?_) (wp_move he (by rw [h2.size, I.tk.size]) hA))
 rw [ha, hv]
 exact hK w' hx
theorem DI.step (hnd : onceDst ops = true) (hfit : ∀ (j : Nat) (o : Oper) (d : Tmp), ops[j]? = some o → o.dst = some d → d < a0.tmps.size) (hsel : ∀ (j : Nat) (o : Oper), ops[j]? = some o → notSel o = true) (hlook : ∀ (i : Nat) (o : Oper), ops[i]? = some o → ∀ t ∈ o.looksAt ops, ∀ (q : Nat) (o' : Oper), ops[q]? = some o' → o'.dst = some t → q = i ∨ ahead ops q i = true ∨ ahead ops i q = true)
  (hnp : perm.Nodup) (hpo : pwOk ops [] perm = true) (I : DI P ops mem R a0 perm listed a w pre (i :: is) val Fl J aS) (hm : i ∈ mem) (r : Rd ops listed i o)
  (hK : ∀ a' w' val' J' aS', DI P ops mem R a0 perm (listed.setIfInBounds i true) a' w' (pre ++ [i]) is val' Fl J' aS' → K a' w') : wpOp P ops Q i K a w := by
 have hnp2 : (pre ++ i :: is).Nodup := I.perm ▸ hnp
 have hpw2 : pwOk ops [] (pre ++ i :: is) = true := I.perm ▸ hpo
 have hmp2 : i ∉ pre := fun h => by
  rw [List.nodup_append] at hnp2
  exact hnp2.2.2 i h i (by simp) rfl
 have hpb : ∀ q, q ∈ pre → q ≠ i ∧ ahead ops i q = false := by
  intro q hq
  refine ⟨fun e => hmp2 (e ▸ hq), ?_⟩
  obtain ⟨p1, p2, rfl⟩ := List.append_of_mem hq
  rw [List.append_assoc, List.cons_append] at hpw2
  exact (pwOk_at hpw2 i (by simp)).1
 obtain ⟨he, hw⟩ := I.agr hsel hlook r aS (· ∈ pre) I.tkS (fun q hq => I.sub q (r.prT q hq)) hpb
 have hdw := I.dw
 simp only [pm, List.map_cons, DW] at hdw
 rw [if_pos (by simpa using hm)] at hdw
 have hoo : ops.getD i default = o := by simp [Array.getD_eq_getD_getElem?, r.ho]
 rw [hoo] at hdw
 unfold wpOp
 rw [r.ho]
 simp only []
 suffices nx : ∀ v J' w', (∀ w w', J' w → Ext w w' → J' w') → J' w' → (∀ f ∈ Fl, ahead ops f.1 i = false → ∀ w, listed.getD f.1 false = false → J' w → f.2 w) → DW P ops mem R (pm ops is) Fl J' (aS.put o.dst v) → K (a.put o.dst v) w' by
  rcases hdw with ⟨h1, h2⟩ | ⟨h1, h2⟩
  ·rw [← hw, h1]
   simp only [Bool.false_eq_true, if_false]
   exact nx undef J w I.st I.inv (fun f hf _ w hl hJ => I.fl f hf hl w hJ) h2
  rw [← hw, h1]
  simp only [if_true]
  refine .inl (Oper.wp_mono (fun a' w' ⟨v, ha, J', hst, hJ', hfl, hdw'⟩ => ?_) (wp_move he (by rw [I.tkS.size, I.tk.size]) (h2 w I.inv)))
  rw [ha]
  exact nx v J' w' hst hJ' (fun f hf ha w _ => hfl.at f hf ha w) hdw'
 intro v J' w' hst hJ' hfl hdw'
 have hval : ∀ q, q ∈ pre → val q = if q = i then v else val q := fun q hq => by rw [if_neg (hpb q hq).1]
 refine hK _ _ (fun q => if q = i then v else val q) J' (aS.put o.dst v) ⟨by simpa using I.lsize, r.closed, ?_, by rw [I.perm]; simp, ?_, hdw', hst, hJ', ?_, ?_, ?_, ?_⟩
 ·exact (Tk.put hnd hfit (I.tk.iff (fun _ => Iff.rfl) fun q hq => hval q (I.sub q hq)) r.ho (by rw [r.lf]; decide) (if_pos rfl)).iff (fun q => (r.ls q).symm) (fun _ _ => rfl)
 ·refine (Tk.put hnd hfit (I.tkS.iff (fun _ => Iff.rfl) hval) r.ho hmp2 (if_pos rfl)).iff (fun q => ?_) (fun _ _ => rfl)
  simp [or_comm]
 ·intro f hf hq
  refine fun w => hfl f hf ?_ w (r.lf2 _ hq).2
  cases ha : ahead ops f.1 i with
  | false => rfl
  | true => have h9 := (r.lf2 _ hq).2; rw [r.prT _ ha] at h9; cases h9
 ·intro q hq
  rcases (r.ls q).1 hq with h | h
  ·subst h; simp
  simp [I.sub q h]
 ·intro q hq hqp
  rcases List.mem_append.1 hqp with h | h
  ·exact (r.ls q).2 (.inr (I.memd q hq h))
  exact (r.ls q).2 (.inl (List.mem_singleton.1 h))
 intro q hq hlq
 obtain ⟨hqi, hlq⟩ := r.lf2 q hlq
 have hqp : q ∈ pre := by
  rcases List.mem_append.1 hq with h | h
  ·exact h
  exact (hqi (List.mem_singleton.1 h)).elim
 obtain ⟨o2, ai, L, h1, h2, h3, h4, h5, h6⟩ := I.pend q hqp hlq
 have hqv := hval q hqp
 refine ⟨o2, ai, L, h1, h2.iff (fun _ => Iff.rfl) (fun r hr => hval r (h5 r hr)), h3, h4, fun r hr => by simp [h5 r hr], ?_⟩
 simp only [← hqv]
 rcases h6 with h6 | ⟨h6, h7⟩
 ·exact .inl h6
 refine .inr ⟨h6, ?_⟩
 rcases h7 with h7 | ⟨h7, h8⟩ | ⟨f, h7, h8⟩
 ·exact .inl h7
 ·exfalso
  simp only [pm, List.map_cons, tied] at h8
  rw [show mem.contains i = true by simpa using hm] at h8
  rw [r.prT q h8] at hlq; cases hlq
 exact .inr (.inr ⟨f, h7, h8⟩)
end
structure Pre2 (P : Program) (ops : Array Oper) (a0 : Act) (pre : List Nat) (val : Nat → Value) (Fl : List (Nat × (World → Prop))) (J : World → Prop) (aS : Act) : Prop where
 tkS : Tk ops (· ∈ pre) val a0 aS
 fl : ∀ f ∈ Fl, ∀ w, J w → f.2 w
 pend : ∀ i, i ∈ pre → ∃ (o : Oper) (ai : Act) (L : Nat → Prop), ops[i]? = some o ∧ Tk ops L val a0 ai ∧ (∀ q, ahead ops q i = true → L q) ∧ (∀ q, L q → q ≠ i ∧ ahead ops i q = false) ∧ (∀ q, L q → q ∈ pre) ∧
  ((Region.wanted o (yielded ops ai.tmps) = false ∧ val i = undef) ∨ (Region.wanted o (yielded ops ai.tmps) = true ∧ ((∀ w, Adds P o ai w (val i)) ∨ ∃ f : World → Prop, (i, f) ∈ Fl ∧ ∀ w, f w → Adds P o ai w (val i))))
theorem walk2 {P : Program} {ops : Array Oper} {mem perm r0 : List Nat} {R : Act → World → Prop} {a0 : Act} {J : World → Prop} {l1 l2 : List (Nat × Oper)} (hnd : onceDst ops = true) (hfit : ∀ (j : Nat) (o : Oper) (d : Tmp), ops[j]? = some o → o.dst = some d → d < a0.tmps.size) (hno : ∀ i, ahead ops i i = false)
  (hnp : perm.Nodup) (hlt : ∀ i ∈ perm, i < ops.size) (hpo : pwOk ops [] perm = true) (hpre : ∀ i q, i ∈ perm → ahead ops q i = true → q ∈ perm) :
  ∀ (is pre : List Nat) (val : Nat → Value) (Fl : List (Nat × (World → Prop))) (aS : Act), perm = pre ++ (is ++ r0) → Pre2 P ops a0 pre val Fl J aS → DW2 P ops mem R l1 l2 (pm ops is) Fl J aS →
  ∃ val' Fl' aS', Pre2 P ops a0 (pre ++ is) val' Fl' J aS' ∧ DW P ops mem R l1 Fl' J aS' ∧ DW P ops mem R l2 Fl' J aS' := by
 intro is
 induction is with
 | nil => intro pre val Fl aS hp I h; exact ⟨val, Fl, aS, by rw [List.append_nil]; exact I, h.1, h.2⟩
 | cons i is ih =>
  intro pre val Fl aS hp I hdw
  have hip : i ∈ perm := by rw [hp]; simp
  have hi := hlt i hip
  have hp' : perm = pre ++ i :: (is ++ r0) := hp
  have hnd2 : (pre ++ i :: (is ++ r0)).Nodup := hp' ▸ hnp
  have hpo2 : pwOk ops [] (pre ++ i :: (is ++ r0)) = true := hp' ▸ hpo
  have hipre : i ∉ pre := fun h => by
   rw [List.nodup_append] at hnd2
   exact hnd2.2.2 i h i (by simp) rfl
  have hio : ops[i]? = some (ops.getD i default) := by simp [Array.getD, hi]
  have hpa : ∀ q, ahead ops q i = true → q ∈ pre := by
   intro q hq
   have hqp := hpre i q hip hq
   rw [hp'] at hqp
   rcases List.mem_append.1 hqp with h | h
   ·exact h
   rcases List.mem_cons.1 h with h | h
   ·subst h; rw [hno] at hq; cases hq
   have := (pwOk_at hpo2 q h).1
   rw [this] at hq; cases hq
  have hpb : ∀ q, q ∈ pre → q ≠ i ∧ ahead ops i q = false := by
   intro q hq
   refine ⟨fun e => hipre (e ▸ hq), ?_⟩
   obtain ⟨p1, p2, rfl⟩ := List.append_of_mem hq
   have h2 := hpo2
   rw [List.append_assoc, List.cons_append] at h2
   exact (pwOk_at h2 i (by simp)).1
  have next : ∀ v Fl', (∀ f ∈ Fl, f ∈ Fl') → (∀ f ∈ Fl', f ∈ Fl ∨ ∀ w, J w → f.2 w) → DW2 P ops mem R l1 l2 (pm ops is) Fl' J (aS.put (ops.getD i default).dst v) →
    ((Region.wanted (ops.getD i default) (yielded ops aS.tmps) = false ∧ v = undef) ∨ (Region.wanted (ops.getD i default) (yielded ops aS.tmps) = true ∧
     ((∀ w, Adds P (ops.getD i default) aS w v) ∨ ∃ f : World → Prop, (i, f) ∈ Fl' ∧ ∀ w, f w → Adds P (ops.getD i default) aS w v))) →
    ∃ val' Fl' aS', Pre2 P ops a0 (pre ++ i :: is) val' Fl' J aS' ∧ DW P ops mem R l1 Fl' J aS' ∧ DW P ops mem R l2 Fl' J aS' := by
   intro v Fl' hF1 hF2 hdw hob
   have hval : ∀ q, q ∈ pre → val q = if q = i then v else val q := fun q hq => by rw [if_neg (hpb q hq).1]
   have hg := ih (pre ++ [i]) (fun q => if q = i then v else val q) Fl' _ (by rw [hp]; simp) ⟨?_, ?_, ?_⟩ hdw
   ·rw [List.append_assoc] at hg; exact hg
   ·refine (Tk.put hnd hfit (I.tkS.iff (fun _ => Iff.rfl) hval) hio hipre (if_pos rfl)).iff (fun q => ?_) (fun _ _ => rfl)
    simp [or_comm]
   ·intro f hf
    rcases hF2 f hf with h | h
    ·exact I.fl f h
    exact h
   intro q hq
   rcases List.mem_append.1 hq with h | h
   ·obtain ⟨o, ai, L, h1, h2, h3, h4, h5, h6⟩ := I.pend q h
    have hqv := hval q h
    refine ⟨o, ai, L, h1, h2.iff (fun _ => Iff.rfl) (fun r hr => hval r (h5 r hr)), h3, h4, fun r hr => by simp [h5 r hr], ?_⟩
    simp only [← hqv]
    rcases h6 with h6 | ⟨h6, h7⟩
    ·exact .inl h6
    refine .inr ⟨h6, ?_⟩
    rcases h7 with h7 | ⟨f, h7, h8⟩
    ·exact .inl h7
    exact .inr ⟨f, hF1 _ h7, h8⟩
   have := List.mem_singleton.1 h
   subst this
   refine ⟨_, aS, (· ∈ pre), hio, I.tkS.iff (fun _ => Iff.rfl) hval, hpa, hpb, fun r hr => by simp [hr], ?_⟩
   simpa using hob
  simp only [pm, List.map_cons, DW2] at hdw
  rcases hdw with ⟨h1, h2⟩ | ⟨h1, v, ⟨h2, h3⟩ | ⟨f, h2, h3, h4⟩⟩
  ·exact next undef Fl (fun _ h => h) (fun _ h => .inl h) h2 (.inl ⟨h1, rfl⟩)
  ·exact next v Fl (fun _ h => h) (fun _ h => .inl h) h3 (.inr ⟨h1, .inl h2⟩)
  refine next v ((i, f) :: Fl) (fun _ h => List.mem_cons_of_mem _ h) (fun g hg => ?_) h4 (.inr ⟨h1, .inr ⟨f, by simp, h2⟩⟩)
  rcases List.mem_cons.1 hg with rfl | hg
  ·exact .inr h3
  exact .inl hg
def okT (ops : Array Oper) (mem pre r1 r2 : List Nat) (x y k : Nat) : Bool :=
 backward ops && (onceDst ops && (fitsDst ops k && (ops.all notSel && (lookOk ops && (pre.all (fun i => !mem.contains i) && (mem.contains x && (mem.contains y && (r1.all (fun i => i == y || ahead ops x i) &&
 (pwOk ops mem r1 && (pwOk ops mem r2 && (decide (pre ++ (x :: r1)).Nodup && (decide (pre ++ (y :: r2)).Nodup && (decide ((pre ++ (x :: r1)).length = ops.size) && (decide ((pre ++ (y :: r2)).length = ops.size) &&
 ((pre ++ (x :: r1)).all (· < ops.size) && ((pre ++ (y :: r2)).all (· < ops.size) && (pwOk ops [] (pre ++ (x :: r1)) && pwOk ops [] (pre ++ (y :: r2)))))))))))))))))))
theorem all_in {n : Nat} {perm : List Nat} (hnp : perm.Nodup) (hpl : perm.length = n) (hlt : ∀ i ∈ perm, i < n) (i : Nat) : i ∈ perm ↔ i < n := ⟨hlt i, fun hi => by
 have hsub : perm ⊆ List.range n := fun x hx => List.mem_range.2 (hlt x hx)
 exact Classical.byContradiction fun hni => by
  have h1 : (i :: perm).Nodup := List.nodup_cons.2 ⟨hni, hnp⟩
  have h2 : (i :: perm).length ≤ (List.range n).length := List.Nodup.length_le_of_subset h1 (fun x hx => by
   rcases List.mem_cons.1 hx with rfl | hx
   ·exact List.mem_range.2 hi
   exact hsub hx)
  simp at h2
  omega⟩
section
variable {n : Nat} {P : Program} {ops : Array Oper} {Q : Exit → Act → World → Prop} {a0 : Act} {w0 : World} {B : Base} {H : List Res}
theorem any_t {J : World → Prop} (mem pre r1 r2 : List Nat) (x y k : Nat) (hsize : a0.tmps.size = k) (hck : okT ops mem pre r1 r2 x y k = true) (hst : ∀ w w', J w → Ext w w' → J w') (hv : J w0)
    (h : DW2 P ops mem (Q .normal) (pm ops (x :: r1)) (pm ops (y :: r2)) (pm ops pre) [] J a0) : wpAny P .any ops Q ops.size (Array.replicate ops.size false) a0 { w0 with drawn := w0.drawn + 1 } := by
  unfold okT at hck
  simp only [Bool.and_eq_true] at hck
  obtain ⟨hbk, hnd, hft, hns, hlk, hpm, hx, hy, hxr, hm1, hm2, hn1, hn2, hl1, hl2, ht1, ht2, ho1, ho2⟩ := hck
  have hn1 := of_decide_eq_true hn1
  have hn2 := of_decide_eq_true hn2
  have hl1 := of_decide_eq_true hl1
  have hl2 := of_decide_eq_true hl2
  have hx : x ∈ mem := by simpa using hx
  have hy : y ∈ mem := by simpa using hy
  have hlt1 : ∀ i ∈ pre ++ (x :: r1), i < ops.size := fun i hi => by simpa using List.all_eq_true.1 ht1 i hi
  have hlt2 : ∀ i ∈ pre ++ (y :: r2), i < ops.size := fun i hi => by simpa using List.all_eq_true.1 ht2 i hi
  have ha1 := all_in hn1 hl1 hlt1
  have ha2 := all_in hn2 hl2 hlt2
  have hfit : ∀ (j : Nat) (o : Oper) (d : Tmp), ops[j]? = some o → o.dst = some d → d < a0.tmps.size := by
    intro j o d hj hd
    have := List.all_eq_true.1 hft o (by rw [List.mem_iff_getElem?]; exact ⟨j, by simpa using hj⟩)
    rw [hd] at this
    rw [hsize]
    simpa using this
  have hsel : ∀ (j : Nat) (o : Oper), ops[j]? = some o → notSel o = true := fun j o hj => by
    obtain ⟨hj2, rfl⟩ := Array.getElem?_eq_some_iff.1 hj
    exact (Array.all_eq_true.1 hns) j hj2
  have hlook : ∀ (i : Nat) (o : Oper), ops[i]? = some o → ∀ t ∈ o.looksAt ops, ∀ (q : Nat) (o' : Oper), ops[q]? = some o' → o'.dst = some t → q = i ∨ ahead ops q i = true ∨ ahead ops i q = true := fun i o hi t ht q o' hq hd => by
    have h1 := List.all_eq_true.1 hlk (o, i) (by rw [List.mem_iff_getElem?]; exact ⟨i, by simp [hi]⟩)
    have h2 := List.all_eq_true.1 h1 t ht
    have h3 := List.all_eq_true.1 h2 (o', q) (by rw [List.mem_iff_getElem?]; exact ⟨q, by simp [hq]⟩)
    simpa [hd] using h3
  have hno : ∀ i, ahead ops i i = false := fun i => by
    cases h : ahead ops i i with
    | false => rfl
    | true => have := ahead_lt hbk h; omega
  have hpre1 : ∀ i q, i ∈ pre ++ (x :: r1) → ahead ops q i = true → q ∈ pre ++ (x :: r1) := fun i q hi hq => (ha1 q).2 (Nat.lt_trans (ahead_lt hbk hq) (hlt1 i hi))
  obtain ⟨val, Fl, aS, I0, hd1, hd2⟩ := walk2 (r0 := x :: r1) hnd hfit hno hn1 hlt1 ho1 hpre1 pre [] (fun _ => undef) [] a0 rfl ⟨(Tk.start (val := fun _ => undef)).iff (fun q => by simp) (fun _ _ => rfl), fun f hf => (by cases hf), fun i hi => (by cases hi)⟩ h
  rw [List.nil_append] at I0
  have hxp : x ∉ pre := fun h => by
    rw [List.nodup_append] at hn1
    exact hn1.2.2 x h x (by simp) rfl
  have two : ∀ (fuel : Nat) (listed : Array Bool) (a : Act) (w : World), toCome ops listed ≤ fuel → DI P ops mem (Q .normal) a0 (pre ++ (x :: r1)) listed a w pre (x :: r1) val Fl J aS → DI P ops mem (Q .normal) a0 (pre ++ (y :: r2)) listed a w pre (y :: r2) val Fl J aS → wpAny P .any ops Q fuel listed a w := by
    have emp : ∀ (listed : Array Bool) (a : Act) (w : World), DI P ops mem (Q .normal) a0 (pre ++ (x :: r1)) listed a w pre (x :: r1) val Fl J aS → Region.ready .any ops listed = [] → False := fun listed a w I hr =>
      hxp (I.sub x (all_listed hbk I.lsize hr x ((ha1 x).1 (by simp))))
    intro fuel
    induction fuel with
    | zero =>
      intro listed a w hc I _
      have hr : Region.ready .any ops listed = [] := by
        rw [List.eq_nil_iff_forall_not_mem]
        intro i hi
        obtain ⟨o, _, hi2, hl, _⟩ := mem_ready hi
        have := toCome_set hi2 hl
        omega
      exact (emp _ _ _ I hr).elim
    | succ fuel ih =>
      intro listed a w hc I1 I2
      refine ⟨fun hr => (emp _ _ _ I1 hr).elim, fun i hi => ?_⟩
      obtain ⟨o, r⟩ := rd_of I1.lsize I1.closed hi
      have hct : toCome ops (listed.setIfInBounds i true) ≤ fuel := by have := r.ct; omega
      by_cases hip : i ∈ pre
      · exact I1.fire hsel hlook r hip fun w' hx => ih _ _ _ hct (I1.fired hnd hfit r hip hx) (I2.fired hnd hfit r hip hx)
      by_cases hix : i = x
      · subst hix
        exact I1.step hnd hfit hsel hlook hn1 ho1 hx r fun a' w' val' J' aS' I' => any_walk (R := Q .normal) hbk hnd hfit hsel hlook hno hn1 ha1 ho1 (fun _ _ h => h) _ _ _ _ _ _ _ _ _ _ hct I' hm1
      by_cases hiy : i = y
      · subst hiy
        exact I2.step hnd hfit hsel hlook hn2 ho2 hy r fun a' w' val' J' aS' I' => any_walk (R := Q .normal) hbk hnd hfit hsel hlook hno hn2 ha2 ho2 (fun _ _ h => h) _ _ _ _ _ _ _ _ _ _ hct I' hm2
      have hin := (ha1 i).2 r.lt
      simp only [List.mem_append, List.mem_cons] at hin
      rcases hin with h | h | h
      · exact (hip h).elim
      · exact (hix h).elim
      have h9 := List.all_eq_true.1 hxr i h
      rw [Bool.or_eq_true] at h9
      rcases h9 with h9 | h9
      · exact (hiy (by simpa using h9)).elim
      exact (hxp (I1.sub x (r.prT x h9))).elim
  have hnl : ∀ j, (Array.replicate ops.size false).getD j false = true → False := by
    intro j hl
    simp only [Array.getD_eq_getD_getElem?] at hl
    by_cases h : j < ops.size <;> simp [h] at hl
  have mk : ∀ (is : List Nat), DW P ops mem (Q .normal) (pm ops is) Fl J aS → DI P ops mem (Q .normal) a0 (pre ++ is) (Array.replicate ops.size false) a0 { w0 with drawn := w0.drawn + 1 } pre is val Fl J aS := fun is hd =>
    ⟨by simp, fun j o hj hl => (hnl j hl).elim, (Tk.start (val := val)).iff (fun q => ⟨False.elim, hnl q⟩) (fun _ _ => rfl), rfl, I0.tkS, hd, hst, hst _ _ hv (Ext.drew' w0), fun f hf _ => I0.fl f hf, fun q hq => (hnl q hq).elim,
     fun q hq hp => by have := List.all_eq_true.1 hpm q hp; simp [hq] at this, fun i hi _ => by
      obtain ⟨o, ai, L, h1, h2, h3, h4, h5, h6⟩ := I0.pend i hi
      refine ⟨o, ai, L, h1, h2, h3, h4, h5, ?_⟩
      rcases h6 with h6 | ⟨h6, h7 | h7⟩
      · exact .inl h6
      · exact .inr ⟨h6, .inl h7⟩
      exact .inr ⟨h6, .inr (.inr h7)⟩⟩
  refine two _ _ _ _ ?_ (mk _ hd1) (mk _ hd2)
  unfold toCome
  exact Nat.le_trans (List.countP_le_length) (by simp)
theorem rT {l : List Oper} {id : Nat} (hm : P.follows .mixedOrders = true) (R : Act → World → Prop) (mem pre r1 r2 : List Nat) (x y k : Nat) (hsize : a0.tmps.size = k) (hck : okT l.toArray mem pre r1 r2 x y k = true) (hv : Inv B H w0)
  (h0 : ∀ (R' : Act → World → Prop) (l1 l2 : List (Nat × Oper)), (∀ a w, R a w → R' a w) → l1 = qm l (x :: r1) → l2 = qm l (y :: r2) → DW2 P l.toArray mem R' l1 l2 (qm l pre) [] (Inv B H) a0) (hR : ∀ a w, R a w → Q .normal a w) : (Code.region id l.toArray true).wpIn Fence.wide n P Q a0 w0 := by
 have h := h0 R _ _ (fun _ _ h => h) rfl rfl
 have h2 : (Code.region id l.toArray true).wpIn Fence.wide n P (fun e a w => e = .normal ∧ R a w) a0 w0 := by
  refine wpIn_wide.2 (wp_region_any hm (any_t mem pre r1 r2 x y k hsize hck (fun _ _ h he => h.ext he) hv ?_))
  rw [qm_pm, qm_pm, qm_pm] at h
  have : (fun a w => (Exit.normal : Exit) = .normal ∧ R a w) = R := by funext a w; simp
  show DW2 P l.toArray mem (fun a w => (Exit.normal : Exit) = .normal ∧ R a w) _ _ _ _ _ _
  rw [this]; exact h
 exact wpIn_mono h2 (fun e a w ⟨h3, h4⟩ => by subst h3; exact hR a w h4)
end
section
variable {P : Program} {ops : Array Oper} {mem : List Nat} {R : Act → World → Prop} {l1 l2 : List (Nat × Oper)} {i : Nat} {o : Oper} {is : List (Nat × Oper)} {Fl : List (Nat × (World → Prop))} {J : World → Prop} {a : Act} {v : Value} {x y z : Operand}
theorem tB (h1 : DW P ops mem R l1 Fl J a) (h2 : DW P ops mem R l2 Fl J a) : DW2 P ops mem R l1 l2 [] Fl J a := ⟨h1, h2⟩
theorem tG (v : Value) (hw : Region.wanted o (yielded ops a.tmps) = true) (hr : ∀ {w}, Ex P a o w v w) (h : DW2 P ops mem R l1 l2 is Fl J (a.put o.dst v)) : DW2 P ops mem R l1 l2 ((i, o) :: is) Fl J a := by
 unfold DW2; exact .inr ⟨hw, v, .inl ⟨fun w => hr.addsv, h⟩⟩
theorem tF (v : Value) (hw : Region.wanted o (yielded ops a.tmps) = true) (hr : ∀ {w}, J w → Ex P a o w v w) (h : ∀ f : World → Prop, (∀ w, Ex P a o w v w → f w) → DW2 P ops mem R l1 l2 is ((i, f) :: Fl) J (a.put o.dst v)) : DW2 P ops mem R l1 l2 ((i, o) :: is) Fl J a := by
 unfold DW2; exact .inr ⟨hw, v, .inr ⟨fun w => Ex P a o w v w, fun w hx => hx.addsv, fun w hJ => hr hJ, h _ fun _ hx => hx⟩⟩
end
end Go.Pm
/- A row of texts, of which some are taken out in place. -/
namespace Go.Pm
open Go.RowKit
section
variable {kept mid l : List (List UInt8)} {j : Nat} {x g : List UInt8} {p : List UInt8 → Bool}
theorem textCells_app (a b : List (List UInt8)) : textCells (a ++ b) = textCells a ++ textCells b := by simp [textCells]
theorem textCells_get (h : l[j]? = some x) : (textCells l)[j]? = some (strV x) := by rw [textCells, List.getElem?_map, h]; rfl
theorem textCells_set (l : List (List UInt8)) (i : Nat) (x : List UInt8) : (textCells l).set i (strV x) = textCells (l.set i x) := by simp [textCells, List.map_set]
theorem textCells_n (l : List (List UInt8)) : (textCells l).length = l.length := by simp [textCells]
theorem df_get (h : l[j]? = some x) (hl : kept.length + mid.length = j) : (textCells (kept ++ mid ++ l.drop j))[j]? = some (strV x) := by
 refine textCells_get ?_
 rw [List.getElem?_append_right (by rw [List.length_append]; omega), List.length_append, hl, Nat.sub_self, List.getElem?_drop]
 exact h
theorem df_drop (h : l[j]? = some x) : l.drop j = x :: l.drop (j + 1) := by
 obtain ⟨hj, rfl⟩ := List.getElem?_eq_some_iff.1 h
 exact List.drop_eq_getElem_cons hj
theorem df_set (h : l[j]? = some x) : (textCells (kept ++ (g :: mid) ++ l.drop j)).set kept.length (strV x) = textCells (kept ++ [x] ++ (mid ++ [x]) ++ l.drop (j + 1)) := by
 rw [textCells_set, df_drop h, List.append_assoc, List.set_append_right _ _ (Nat.le_refl _), Nat.sub_self]
 simp
theorem df_skip (h : l[j]? = some x) : kept ++ mid ++ l.drop j = kept ++ (mid ++ [x]) ++ l.drop (j + 1) := by
 rw [df_drop h]; simp
theorem df_filter (h : l[j]? = some x) : (l.take (j + 1)).filter p = (l.take j).filter p ++ if p x then [x] else [] := by
 rw [take_next h, List.filter_append]
 cases hp : p x <;> simp [hp]
theorem df_start (h : l[j]? = some x) (hx : p x = true) (hn : ∀ y ∈ l.take j, p y = false) : (l.take (j + 1)).filter (fun y => !p y) = l.take j ∧ l = l.take j ++ [x] ++ l.drop (j + 1) := by
 constructor
 ·rw [df_filter h, hx, List.filter_eq_self.2 (fun y hy => by rw [hn y hy]; rfl)]
  simp
 conv => lhs; rw [← List.take_append_drop j l, df_drop h]
 simp
end
end Go.Pm
/- slices.IndexFunc and DeleteFunc of texts, a row of one's own. -/
namespace Go.Proofs.YtoljdfjnannakaaGreatDoor
open Go.RowKit Go.Pm
theorem s24es22 (w : World) : (sizeOf (Tryz.prog.elem 22)).run Tryz.prog w = .ok 1 w := by kernel_rfl
theorem s24na9 (w : World) : (isAgg 9).run Tryz.prog w = .ok false w := by kernel_rfl
set_option maxHeartbeats 2000000 in
theorem indexFuncO (B : Base) (H : List Res) (w : World) (f : FuncId) (cb : Array Value) (ra : Option Addr) (rc : Nat) (l : List (List UInt8)) (pr : List UInt8 → Bool) (hm : l.length ≤ 1000000) (hcal : Callable Tryz.prog f) (hf : ∀ (x : List UInt8) (r : Res) (w : World), Inv B (r :: H) w → Calls Tryz.prog f (#[vS x] ++ cb) w fun e w' => e = .returned (.bool (pr x)) ∧ Inv B (r :: H) w') (hv : Inv B (Res.row 9 1 (.slice ra l.length rc) l.length (textCells l) :: H) w) :
  Calls Tryz.prog 100 #[.slice ra l.length rc, .func (.func f) #[] cb] w fun e w' => ∃ r : Int, e = .returned (vI r) ∧ ((r = -1 ∧ ∀ y ∈ l, pr y = false) ∨ ∃ (i : Nat) (x : List UInt8), r = (i : Int) ∧ l[i]? = some x ∧ pr x = true ∧ ∀ y ∈ l.take i, pr y = false) ∧ Inv B (Res.row 9 1 (.slice ra l.length rc) l.length (textCells l) :: H) w' := by
 refine cW Tryz.func100 rfl Tryz.ntmps100 ?_
 simp only [al]
 refine sK fun _ k1 => rL (xA (vI 0) rfl ?_)
 simp only [zP, po]
 refine wK k1 (sK fun _ k2 => ?_)
 refine sK fun _ k3 => rL (xM (.slice ra l.length rc) rfl ?_)
 refine xG (vI (l.length : Int)) rfl (ex_len0 Tryz.underlying22 rfl rfl) (xM (vI 0) rfl ?_)
 simp only [zP, po]
 refine wK k3 (bB ?_)
 gi_loopw [8] (fun x8 wr => ∃ (i : Nat), x8 = vI i ∧ i ≤ l.length ∧ (∀ j x, j < i → l[j]? = some x → pr x = false) ∧ Inv B (Res.row 9 1 (.slice ra l.length rc) l.length (textCells l) :: H) wr) (fun x8 _ => l.length - (intOf x8).toNat)
 case atStart => exact ⟨0, rfl, Nat.zero_le _, fun j x h => by omega, hv⟩
 case round =>
  obtain ⟨i, rfl, hi, hno, hv⟩ := hrel
  refine sK fun _ k5 => rL ?_
  by_cases hb6 : (i : Int) < (l.length : Int)
  ·refine xG (.bool true) rfl (ex_lss rfl rfl rfl (qT hb6)) ?_
   simp only [zP, po]
   refine wK k5 (sK fun _ k7 => ?_)
   refine cT rfl (kS ?_)
   refine tK k7 (sK fun _ k8 => ?_)
   refine bB (sK fun _ k9 => ?_)
   refine rL (xM (vI i) rfl ?_)
   refine xA (vI i) rfl ?_
   simp only [zP, po]
   refine wK k9 (sK fun _ k10 => ?_)
   obtain ⟨x, hx⟩ : ∃ x, l[i]? = some x := ⟨_, List.getElem?_eq_getElem (show i < l.length by omega)⟩
   obtain ⟨b, rfl⟩ := row_some hv.head (by omega)
   refine rL (xM (.func (.func f) #[] cb) rfl ?_)
   refine xM (.slice (some ⟨b, 0, none⟩) l.length rc) rfl (xM (vI i) rfl ?_)
   simp only [zP, po]
   refine xG (.pointer (some ⟨b, 0 + i, none⟩)) rfl (ex_index rfl rfl rfl (run_idx1 (k := i) Tryz.underlying22 s24es22 (by omega))) (xL _ rfl (run_load1 s24na9 (row_load (hv.get 0 rfl) (textCells_get hx))) ?_)
   refine wpi_callV hcal tV wideC rfl (wn rfl) rfl rfl (args := #[vS x]) (by simp only [List.map_toArray, List.map_cons, List.map_nil]; rfl) ((hf x _ _ hv).mono ?_)
   rintro e w11 ⟨rfl, hv⟩
   refine ⟨_, rfl, ?_⟩
   simp only [zP, po]
   refine wK k10 (wpIn_cond_split (t := pr x) rfl (fun hc12 => ?_) (fun hc12 => ?_))
   ·refine sK fun _ k13 => rL (xM (vI i) rfl ?_)
    refine xA (vI i) rfl ?_
    simp only [zP, po]
    refine wK k13 (rR ?_)
    refine bZ (tR ?_)
    refine tR (bZ ?_)
    refine tR (bR rfl rfl ?_)
    exact ⟨_, rfl, .inr ⟨i, x, rfl, hx, by simpa using hc12, fun y hy => (by obtain ⟨j, hj⟩ := List.mem_iff_getElem?.1 hy; have h9 := (List.getElem?_eq_some_iff.1 hj).1; rw [List.length_take] at h9; rw [List.getElem?_take_of_lt (by omega)] at hj; exact hno j y (by omega) hj)⟩, hv⟩
   refine kS (bN ?_)
   refine tK k8 (rL ?_)
   refine xG (vI ((i + 1 : Nat) : Int)) rfl (ex_add rfl rfl rfl (by rw [i64_in (by omega)]; omega)) (xM (vI ((i + 1 : Nat) : Int)) rfl ?_)
   refine wL ?_
   simp only [zP, po]
   refine then_normal ?_
   go_roundw
   case rel => exact ⟨i + 1, rfl, by omega, fun j x' hj hx' => (by
      rcases Nat.lt_or_ge j i with h | h
      ·exact hno j x' h hx'
      obtain rfl : j = i := by omega
      rw [hx] at hx'; cases hx'
      simpa using hc12), hv⟩
   case measure => show l.length - (((i + 1 : Nat) : Int)).toNat < l.length - ((i : Int)).toNat; omega
  refine xG (.bool false) rfl (ex_lss rfl rfl rfl (qF hb6)) ?_
  simp only [zP, po]
  refine wK k5 (sK fun _ k14 => ?_)
  refine cF rfl (xE ?_)
  refine tX (tX ?_)
  refine bH (tK k2 ?_)
  refine sK fun _ k15 => rL (xA (vI (-1)) rfl ?_)
  simp only [zP, po]
  refine wK k15 (rR ?_)
  refine bR rfl rfl ?_
  obtain rfl : i = l.length := by omega
  exact ⟨_, rfl, .inl ⟨rfl, fun y hy => (by obtain ⟨j, hj⟩ := List.mem_iff_getElem?.1 hy; exact hno j y (List.getElem?_eq_some_iff.1 hj).1 hj)⟩, hv⟩
theorem s24callable100 : Callable Tryz.prog 100 := ⟨_, Tryz.func100, by kernel_rfl, by kernel_rfl⟩
theorem s24sz9 : (Tryz.prog.info? 9).map (·.size) = some 1 := by kernel_rfl
theorem s24mk9 : (Tryz.prog.info? 9).map (fun i => (i.zero, i.size, i.bytes)) = some (some (vS []), 1, 16) := by kernel_rfl
theorem s24el22 : Elem Tryz.prog 22 9 (vS []) 1 16 := elem_of Tryz.underlying22 s24mk9 (by rfl) (by decide)
set_option maxHeartbeats 4000000 in
theorem deleteFunc (B : Base) (H : List Res) (w : World) (f : FuncId) (cb : Array Value) (ra : Option Addr) (rc : Nat) (l : List (List UInt8)) (pr : List UInt8 → Bool) (hm : l.length ≤ 1000000) (hcal : Callable Tryz.prog f) (hf : ∀ (x : List UInt8) (r : Res) (w : World), Inv B (r :: H) w → Calls Tryz.prog f (#[vS x] ++ cb) w fun e w' => e = .returned (.bool (pr x)) ∧ Inv B (r :: H) w') (hv : Inv B (Res.row 9 1 (.slice ra l.length rc) l.length (textCells l) :: H) w) :
  Calls Tryz.prog 180 #[.slice ra l.length rc, .func (.func f) #[] cb] w fun e w' => ∃ ra' rc', e = .returned (.slice ra' (l.filter fun y => !pr y).length rc') ∧ Inv B (Res.row 9 1 (.slice ra' (l.filter fun y => !pr y).length rc') (l.filter fun y => !pr y).length (textCells (l.filter fun y => !pr y)) :: H) w' := by
 refine cW Tryz.func180 rfl Tryz.ntmps180 ?_
 simp only [al]
 refine sK fun _ k1 => rL (xA (vN) rfl ?_)
 simp only [zP, po]
 refine wK k1 (sK fun _ k2 => ?_)
 refine rL (xM (.slice ra l.length rc) rfl ?_)
 refine xM (.func (.func f) #[] cb) rfl (xC s24callable100 rfl ((indexFuncO B H _ f cb ra rc l pr hm hcal hf hv).mono ?_) rfl)
 rintro e w3 ⟨r, rfl, hor, hv⟩
 refine ⟨_, rfl, ?_⟩
 rcases hor with ⟨rfl, hno⟩ | ⟨i0, x0, rfl, hx0, hp0, hno⟩
 ·simp only [zP, po]
  refine xA (vI (-1)) rfl ?_
  simp only [zP, po]
  refine wK k2 (sK fun _ k4 => ?_)
  refine sK fun _ k5 => rL (xM (vI (-1)) rfl ?_)
  refine xG (.bool true) rfl (ex_eql rfl rfl rfl (by decide)) ?_
  simp only [zP, po]
  refine wK k5 (cT rfl ?_)
  refine sK fun _ k6 => rL (xM (.slice ra l.length rc) rfl ?_)
  refine xA (.slice ra l.length rc) rfl ?_
  simp only [zP, po]
  refine wK k6 (rR ?_)
  refine tR (bR rfl rfl ?_)
  have hfl : l.filter (fun y => !pr y) = l := List.filter_eq_self.2 (fun y hy => by rw [hno y hy]; rfl)
  rw [hfl]
  exact ⟨_, _, rfl, hv⟩
 have hi0 : i0 < l.length := (List.getElem?_eq_some_iff.1 hx0).1
 obtain ⟨b, rfl⟩ := row_some hv.head (by omega)
 obtain ⟨hst, hsl⟩ := df_start hx0 hp0 hno
 simp only [zP, po]
 refine xA (vI i0) rfl ?_
 simp only [zP, po]
 refine wK k2 (sK fun _ k7 => ?_)
 refine sK fun _ k8 => rL (xM (vI i0) rfl ?_)
 refine xG (.bool false) rfl (ex_eql rfl rfl rfl (qF (by omega))) ?_
 simp only [zP, po]
 refine wK k8 (cF rfl ?_)
 refine kS (tK k7 ?_)
 refine sK fun _ k9 => sK fun _ k10 => rL (xM (vI i0) rfl ?_)
 refine xG (vI ((i0 + 1 : Nat) : Int)) rfl (ex_add rfl rfl rfl (by rw [i64_in (by omega)]; omega)) (xA (vI ((i0 + 1 : Nat) : Int)) rfl ?_)
 simp only [zP, po]
 refine wK k10 (bB ?_)
 gi_loopw [5, 6] (fun x5 x6 wr => ∃ (i j : Nat) (kept mid : List (List UInt8)), x5 = vI i ∧ x6 = vI j ∧ j ≤ l.length ∧ kept = (l.take j).filter (fun y => !pr y) ∧ i = kept.length ∧ 0 < mid.length ∧ i + mid.length = j ∧ Inv B (Res.row 9 1 (.slice (some ⟨b, 0, none⟩) l.length rc) l.length (textCells (kept ++ mid ++ l.drop j)) :: H) wr) (fun x5 x6 _ => l.length - (intOf x6).toNat)
 case atStart => exact ⟨i0, i0 + 1, l.take i0, [x0], rfl, rfl, by omega, hst.symm, by rw [List.length_take]; omega, by simp, by simp, by rw [← hsl]; exact hv⟩
 case round =>
  obtain ⟨i, j, kept, mid, rfl, rfl, hj, hkept, hik, hmid, hij, hv⟩ := hrel
  refine sK fun _ k12 => sK fun _ k13 => rL (xM (vI j) rfl ?_)
  refine xM (.slice (some ⟨b, 0, none⟩) l.length rc) rfl (xG (vI (l.length : Int)) rfl (ex_len0 Tryz.underlying22 rfl rfl) ?_)
  simp only [zP, po]
  by_cases hb14 : (j : Int) < (l.length : Int)
  ·refine xG (.bool true) rfl (ex_lss rfl rfl rfl (qT hb14)) ?_
   simp only [zP, po]
   refine wK k13 (cT rfl ?_)
   refine kS (tK k12 ?_)
   refine sK fun _ k15 => bB (sK fun _ k16 => ?_)
   obtain ⟨x, hx⟩ : ∃ x, l[j]? = some x := ⟨_, List.getElem?_eq_getElem (show j < l.length by omega)⟩
   refine rL (xM (.slice (some ⟨b, 0, none⟩) l.length rc) rfl ?_)
   refine xM (vI j) rfl (xG (.pointer (some ⟨b, 0 + j, none⟩)) rfl (ex_index rfl rfl rfl (run_idx1 (k := j) Tryz.underlying22 s24es22 (by omega))) ?_)
   simp only [zP, po]
   refine xL (vS x) rfl (run_load1 s24na9 (row_load (hv.get 0 rfl) (df_get (kept := kept) (mid := mid) hx (by omega)))) (xA (vS x) rfl ?_)
   simp only [zP, po]
   refine wK k16 (sK fun _ k17 => ?_)
   refine rL (xM (.func (.func f) #[] cb) rfl ?_)
   refine xM (vS x) rfl (wpi_callV hcal tV wideC rfl (wn rfl) rfl rfl (args := #[vS x]) (by simp only [List.map_toArray, List.map_cons, List.map_nil]; rfl) ((hf x _ _ hv).mono ?_))
   rintro e w18 ⟨rfl, hv⟩
   refine ⟨_, rfl, ?_⟩
   simp only [zP, po]
   refine xG (.bool (!(pr x))) rfl (ex_not rfl rfl rfl) ?_
   simp only [zP, po]
   refine wK k17 (wpIn_cond_split (t := !(pr x)) rfl (fun hc19 => ?_) (fun hc19 => ?_))
   ·refine sK fun _ k20 => ?_
    have hpx : pr x = false := by simpa using hc19
    obtain ⟨g0, mid2, hmg⟩ : ∃ g0 m2, mid = g0 :: m2 := (by cases mid with | nil => simp at hmid | cons a m => exact ⟨a, m, rfl⟩)
    subst hmg
    refine rL (xM (.slice (some ⟨b, 0, none⟩) l.length rc) rfl ?_)
    refine xM (vI i) rfl (xM (vS x) rfl ?_)
    simp only [zP, po]
    refine xG (.pointer (some ⟨b, 0 + i, none⟩)) rfl (ex_index rfl rfl rfl (run_idx1 (k := i) Tryz.underlying22 s24es22 (by omega))) (sl_storeRow (v := vS x) tV (wn rfl) rfl rfl rfl hv s24sz9 (by rw [textCells_n]; simp only [List.length_append, List.length_cons, List.length_drop]; omega) rfl rfl (fun w21 hv => ?_))
    rw [Nat.zero_add] at hv
    simp only [zP, po]
    refine wK k20 (rL ?_)
    refine xM (vI i) rfl (xG (vI ((i + 1 : Nat) : Int)) rfl (ex_add rfl rfl rfl (by rw [i64_in (by omega)]; omega)) ?_)
    refine xA (vI ((i + 1 : Nat) : Int)) rfl (wL ?_)
    simp only [zP, po]
    refine bN (tK k15 ?_)
    refine rL (xM (vI j) rfl ?_)
    refine xG (vI ((j + 1 : Nat) : Int)) rfl (ex_add rfl rfl rfl (by rw [i64_in (by omega)]; omega)) (xA (vI ((j + 1 : Nat) : Int)) rfl ?_)
    refine wL ?_
    simp only [zP, po]
    refine then_normal ?_
    go_roundw
    case rel => exact ⟨i + 1, j + 1, kept ++ [x], mid2 ++ [x], rfl, rfl, by omega, by rw [df_filter hx, ← hkept, hpx]; rfl, by rw [List.length_append]; simp; exact hik, by simp, by simp at hij ⊢; omega, by rw [hik, df_set hx] at hv; exact hv⟩
    case measure => show l.length - (((j + 1 : Nat) : Int)).toNat < l.length - ((j : Int)).toNat; omega
   refine kS (bN ?_)
   refine tK k15 ?_
   have hpx : pr x = true := by simpa using hc19
   refine rL (xM (vI j) rfl ?_)
   refine xG (vI ((j + 1 : Nat) : Int)) rfl (ex_add rfl rfl rfl (by rw [i64_in (by omega)]; omega)) (xA (vI ((j + 1 : Nat) : Int)) rfl ?_)
   refine wL ?_
   simp only [zP, po]
   refine then_normal ?_
   go_roundw
   case rel => exact ⟨i, j + 1, kept, mid ++ [x], rfl, rfl, by omega, by rw [df_filter hx, ← hkept, hpx]; simp, hik, by simp, by simp; omega, by rw [← df_skip hx]; exact hv⟩
   case measure => show l.length - (((j + 1 : Nat) : Int)).toNat < l.length - ((j : Int)).toNat; omega
  refine xG (.bool false) rfl (ex_lss rfl rfl rfl (qF hb14)) ?_
  simp only [zP, po]
  refine wK k13 (cF rfl ?_)
  refine xE (tX ?_)
  refine tX (bH ?_)
  refine tK k9 (sK fun _ k22 => ?_)
  obtain rfl : j = l.length := by omega
  rw [List.drop_length, List.append_nil, textCells_app] at hv
  rw [List.take_length] at hkept
  obtain ⟨L, hL1, hL2, hL3, hL4, hv⟩ := hv.rowCell
  obtain ⟨tl, hLe⟩ : ∃ tl, L = textCells kept ++ textCells mid ++ tl := ⟨L.drop (l.length * 1), by rw [← hL2, List.take_append_drop]⟩
  subst hLe
  have hkn : (textCells kept).length = i := by rw [textCells_n]; exact hik.symm
  refine rL (xM (.slice (some ⟨b, 0, none⟩) l.length rc) rfl ?_)
  refine xM (vI i) rfl (xG (.slice (some ⟨b, 0 + i, none⟩) (l.length - i) (rc - i)) rfl (ex_slice (lo' := some (vI i)) rfl rfl (congrArg some rfl) rfl rfl (run_from1 Tryz.underlying22 s24es22 (by omega) (by omega))) ?_)
  simp only [zP, po]
  refine sl_clearAt 0 (pre := textCells kept) (mid := textCells mid) (post := tl) (m := l.length - i) tV (wn rfl) rfl rfl s24el22 (one_cons rfl one_nil) hv rfl rfl (by rw [hkn, Nat.zero_add]) (by rw [textCells_n]; omega) (fun zs w23 hzs hv => ?_)
  simp only [zO] at hv
  simp only [zP, po]
  refine wK k22 (sK fun _ k24 => ?_)
  refine rL (xM (.slice (some ⟨b, 0, none⟩) l.length rc) rfl ?_)
  refine xM (vI i) rfl (xG (.slice (some ⟨b, 0, none⟩) i rc) rfl (ex_slice (hi' := some (vI i)) rfl rfl rfl (congrArg some rfl) rfl (run_hi Tryz.underlying22 s24es22 (by omega))) ?_)
  simp only [zP, po]
  refine xA (.slice (some ⟨b, 0, none⟩) i rc) rfl ?_
  simp only [zP, po]
  refine wK k24 (rR ?_)
  refine bR rfl rfl ?_
  have h8 := hv.cellRow (n := i) (c := rc) (size := 1) (by simp only [List.length_append, hzs] at hL1 ⊢; exact hL1) (by omega) hL4
  rw [List.append_assoc, Nat.mul_one, List.take_left' hkn, hik, hkept] at h8
  rw [hik, hkept]
  exact ⟨_, _, rfl, h8⟩
end Go.Proofs.YtoljdfjnannakaaGreatDoor
/- Transactions: Names, Clock. -/
namespace Go.Proofs.YtoljdfjnannakaaGreatDoor
open Go.RowKit Go.Pm Go.Sort
def deadNow (M : List (List UInt8 × Ver)) (clk : Int) (k : List UInt8) : Bool := match lookA M k with
 | some y => !aliveB y clk
 | none => false
def namesT (M : List (List UInt8 × Ver)) (clk : Int) : List (List UInt8) := ((M.map (·.1)).mergeSort leB).filter fun k => !deadNow M clk k
theorem vmap_nodup {w : World} {b : Nat} {es : List (List UInt8 × Value)} (h : (Res.vmap b es).holds w) : (es.map (·.1)).Nodup := by
 obtain ⟨E, clock, -, ⟨-, -, h2⟩, h3⟩ := h
 have h4 : E.toList.map (fun e => e.key) = (es.map (·.1)).map strV := by
  have := congrArg (List.map Prod.fst) h3
  simpa [List.map_map, Function.comp_def, kv] using this
 rw [h4] at h2
 exact List.Pairwise.imp (fun hab e => hab (by rw [e])) (List.pairwise_map.1 h2)
theorem adj_ne {l : List (List UInt8)} (h : l.Nodup) (j : Nat) (x y : List UInt8) (hx : l[j]? = some x) (hy : l[j + 1]? = some y) : ¬ y = x := by
 intro e; subst e
 have hj := (List.getElem?_eq_some_iff.1 hx).1
 have := (List.getElem?_inj hj h).1 (hx.trans hy.symm)
 omega
set_option maxHeartbeats 2000000 in
theorem compactTexts (B : Base) (H : List Res) (w : World) (ra : Option Addr) (rc : Nat) (l : List (List UInt8)) (hnd : l.Nodup) (hm : l.length ≤ 1000000) (hv : Inv B (Res.row 9 1 (.slice ra l.length rc) l.length (textCells l) :: H) w) :
  Calls Tryz.prog 102 #[.slice ra l.length rc] w fun e w' => e = .returned (.slice ra l.length rc) ∧ Inv B (Res.row 9 1 (.slice ra l.length rc) l.length (textCells l) :: H) w' := by
 refine cW Tryz.func102 rfl Tryz.ntmps102 ?_
 simp only [al]
 refine sK fun _ k1 => rL (xA (vN) rfl ?_)
 simp only [zP, po]
 refine wK k1 (sK fun _ k2 => ?_)
 refine sK fun _ k3 => rL (xM (.slice ra l.length rc) rfl ?_)
 refine xG (vI (l.length : Int)) rfl (ex_len0 Tryz.underlying22 rfl rfl) ?_
 by_cases hb4 : (l.length : Int) < 2
 ·refine xG (.bool true) rfl (ex_lss rfl rfl rfl (qT hb4)) ?_
  simp only [zP, po]
  refine wK k3 (cT rfl ?_)
  refine sK fun _ k5 => rL (xM (.slice ra l.length rc) rfl ?_)
  refine xA (.slice ra l.length rc) rfl ?_
  simp only [zP, po]
  refine wK k5 (rR ?_)
  refine tR (bR rfl rfl ?_)
  exact ⟨rfl, hv⟩
 refine xG (.bool false) rfl (ex_lss rfl rfl rfl (qF hb4)) ?_
 simp only [zP, po]
 refine wK k3 (cF rfl ?_)
 refine kS (tK k2 ?_)
 refine sK fun _ k6 => sK fun _ k7 => rL (xA (vI 1) rfl ?_)
 simp only [zP, po]
 refine wK k7 (bB ?_)
 gi_loopw [3] (fun x3 wr => ∃ (j : Nat), x3 = vI ((j + 1 : Nat) : Int) ∧ j + 1 ≤ l.length ∧ Inv B (Res.row 9 1 (.slice ra l.length rc) l.length (textCells l) :: H) wr) (fun x3 _ => l.length - (intOf x3).toNat)
 case atStart => exact ⟨0, rfl, by omega, hv⟩
 case round =>
  obtain ⟨j, rfl, hj, hv⟩ := hrel
  refine sK fun _ k9 => sK fun _ k10 => rL (xM (vI ((j + 1 : Nat) : Int)) rfl ?_)
  refine xM (.slice ra l.length rc) rfl (xG (vI (l.length : Int)) rfl (ex_len0 Tryz.underlying22 rfl rfl) ?_)
  simp only [zP, po]
  by_cases hb11 : ((j + 1 : Nat) : Int) < (l.length : Int)
  ·refine xG (.bool true) rfl (ex_lss rfl rfl rfl (qT hb11)) ?_
   simp only [zP, po]
   refine wK k10 (cT rfl ?_)
   refine kS (tK k9 ?_)
   refine sK fun _ k12 => bB (sK fun _ k13 => ?_)
   obtain ⟨x, hx⟩ : ∃ x, l[j]? = some x := ⟨_, List.getElem?_eq_getElem (show j < l.length by omega)⟩
   obtain ⟨y, hy⟩ : ∃ y, l[j + 1]? = some y := ⟨_, List.getElem?_eq_getElem (show j + 1 < l.length by omega)⟩
   obtain ⟨b, rfl⟩ := row_some hv.head (by omega)
   refine rW mixed [] [0,1,2,3,4,5,6,7,8,9] 61 rfl (by kernel_rfl) hv ?_
   simp only [qm, opAt]
   refine dM (.slice (some ⟨b, 0, none⟩) l.length rc) rfl (dM (vI ((j + 1 : Nat) : Int)) rfl ?_)
   refine dG (.pointer (some ⟨b, 0 + (j + 1 : Nat), none⟩)) rfl (ex_index rfl rfl rfl (run_idx1 (k := (j + 1 : Nat)) Tryz.underlying22 s9es22 (by omega))) ?_
   simp only [zP, po]
   refine dL _ rfl (fun hv => ex_load rfl rfl (run_load1 s9na9 (row_load (hv.get 0 rfl) (textCells_get hy)))) (dM (.slice (some ⟨b, 0, none⟩) l.length rc) rfl ?_)
   refine dM (vI ((j + 1 : Nat) : Int)) rfl ?_
   simp only [zP, po]
   refine dG (vI j) rfl (ex_sub rfl rfl rfl (by rw [i64_in (by omega)]; omega)) (dG (.pointer (some ⟨b, 0 + j, none⟩)) rfl (ex_index rfl rfl rfl (run_idx1 (k := j) Tryz.underlying22 s9es22 (by omega))) ?_)
   refine dL _ rfl (fun hv => ex_load rfl rfl (run_load1 s9na9 (row_load (hv.get 0 rfl) (textCells_get hx)))) ?_
   simp only [zP, po]
   refine dG (.bool false) rfl (ex_seql rfl rfl rfl (qF (adj_ne hnd j x y hx hy))) (dE fun w14 hv => ?_)
   simp only [zP, po]
   refine tK k13 (cF rfl ?_)
   refine kS (bN ?_)
   refine tK k12 (rL ?_)
   refine xM (vI ((j + 1 : Nat) : Int)) rfl (xG (vI ((j + 1 + 1 : Nat) : Int)) rfl (ex_add rfl rfl rfl (by rw [i64_in (by omega)]; omega)) ?_)
   refine xA (vI ((j + 1 + 1 : Nat) : Int)) rfl (wL ?_)
   simp only [zP, po]
   refine then_normal ?_
   go_roundw
   case rel => exact ⟨j + 1, rfl, by omega, hv⟩
   case measure => show l.length - (((j + 1 + 1 : Nat) : Int)).toNat < l.length - (((j + 1 : Nat) : Int)).toNat; omega
  refine xG (.bool false) rfl (ex_lss rfl rfl rfl (qF hb11)) ?_
  simp only [zP, po]
  refine wK k10 (cF rfl ?_)
  refine xE (tX ?_)
  refine tX (bH ?_)
  refine tK k6 (sK fun _ k15 => ?_)
  refine rL (xM (.slice ra l.length rc) rfl ?_)
  refine xA (.slice ra l.length rc) rfl ?_
  simp only [zP, po]
  refine wK k15 (rR ?_)
  refine bR rfl rfl (⟨rfl, hv⟩)
theorem x6al85 (w : World) : (Instr.alloc 85 true (.tuple #[])).run Tryz.prog w = .ok (.pointer (some ⟨w.heap.size, 0, none⟩)) (w.alloc (.cells ([vI 0, .bool false, vI 0, vI 0, vS [], vN, vN, vN] : List Value).toArray 85)) := by kernel_rfl
set_option maxHeartbeats 2000000 in
theorem namesDead (B : Base) (H : List Res) (w : World) (g1 t m wb : Nat) (clk : Int) (es : List (List UInt8 × Value)) (M : List (List UInt8 × Ver)) (key : List UInt8) (hM : VM B es M) (hv : Inv B (Res.cell g1 [vP t] 62 :: Res.cell t [vP m, vI 0, vI clk, .bool false, .map (some wb)] 133 :: Res.vmap wb es :: H) w) :
  Calls Tryz.prog 202 #[vS key, vP g1] w fun e w' => e = .returned (.bool (deadNow M clk key)) ∧ Inv B (Res.cell g1 [vP t] 62 :: Res.cell t [vP m, vI 0, vI clk, .bool false, .map (some wb)] 133 :: Res.vmap wb es :: H) w' := by
 refine cW Tryz.func202 rfl Tryz.ntmps202 ?_
 simp only [al]
 refine sK fun _ k1 => rL (xA (.bool false) rfl ?_)
 simp only [zP, po]
 refine wK k1 (sK fun _ k2 => ?_)
 refine rL (xL _ rfl (run_load1 x1na62 (hv.load 0 0 rfl rfl)) ?_)
 refine xG (vP t) rfl (ex_nil rfl rfl) (xF (.pointer (some ⟨t, 4, none⟩)) rfl (x2fa133_4 _ _ _) ?_)
 simp only [zP, po]
 refine xL _ rfl (run_load1 x2na131 (hv.load 1 4 rfl rfl)) (xM (vS key) rfl ?_)
 rcases VM.look key hM with ⟨hl, hlM⟩ | ⟨x, xp, xt, xz, hl, hlM, hxv⟩
 ·refine xG (.tuple #[.agg #[vI 0, .bool false, vI 0, vI 0, vS [], vN, vN, vN], .bool false]) rfl (ex_lookN (z := .agg #[vI 0, .bool false, vI 0, vI 0, vS [], vN, vN, vN]) 2 rfl rfl rfl Tryz.underlying131 Tryz.underlying9 (fun w => by kernel_rfl) hv rfl hl) ?_
  simp only [zP, po]
  refine xM (.tuple #[.agg #[vI 0, .bool false, vI 0, vI 0, vS [], vN, vN, vN], .bool false]) rfl (xG (.agg #[vI 0, .bool false, vI 0, vI 0, vS [], vN, vN, vN]) rfl (ex_extract rfl rfl rfl) ?_)
  refine xG (.bool false) rfl (ex_extract rfl rfl rfl) ?_
  simp only [zP, po]
  refine sl_alloc tV (wn rfl) rfl hv x6al85 (fun b3 w4 hv => ?_)
  refine xS 0 rfl hv x0sz85 rfl (by exact ⟨rfl, rfl, rfl, rfl, rfl, rfl, rfl, rfl, trivial⟩) (fun w5 hv => ?_)
  simp only [zO, sp] at hv
  refine xA (.bool false) rfl ?_
  simp only [zP, po]
  refine wK k2 (sK fun _ k6 => ?_)
  refine rW mixed [7] [0,1,2,3,4,5,6,7,8,9,10] 25 rfl (by kernel_rfl) hv ?_
  simp only [qm, opAt]
  refine dM (.bool false) rfl (dM (.bool false) rfl ?_)
  iterate 7 refine dN rfl ?_
  refine dK false (.bool false) rfl ?_
  simp only [zP, po]
  refine dA (.bool false) rfl (dE fun w7 hv => ?_)
  simp only [zP, po]
  refine tK k6 (rR ?_)
  refine bR rfl rfl (⟨congrArg (fun b => Ending.returned (Value.bool b)) (by unfold deadNow; rw [hlM]), (hv.kp [3, 3, 3] 3 1)⟩)
 refine xG (.tuple #[.agg #[vI x.stamp, .bool x.gone, vI x.expire, vI x.val.kind, vS x.val.text, xp, xt, xz], .bool true]) rfl (ex_lookS (z := .agg #[vI 0, .bool false, vI 0, vI 0, vS [], vN, vN, vN]) 2 rfl rfl rfl Tryz.underlying131 Tryz.underlying9 (fun w => by kernel_rfl) hv rfl hl) ?_
 simp only [zP, po]
 refine xM (.tuple #[.agg #[vI x.stamp, .bool x.gone, vI x.expire, vI x.val.kind, vS x.val.text, xp, xt, xz], .bool true]) rfl (xG (.agg #[vI x.stamp, .bool x.gone, vI x.expire, vI x.val.kind, vS x.val.text, xp, xt, xz]) rfl (ex_extract rfl rfl rfl) ?_)
 refine xG (.bool true) rfl (ex_extract rfl rfl rfl) ?_
 simp only [zP, po]
 refine sl_alloc tV (wn rfl) rfl hv x6al85 (fun b8 w9 hv => ?_)
 refine xS 0 rfl hv x0sz85 rfl (by exact ⟨rfl, rfl, rfl, rfl, rfl, hxv.p.one, hxv.t.one, hxv.z.one, trivial⟩) (fun w10 hv => ?_)
 simp only [zO, sp] at hv
 refine xA (.bool true) rfl ?_
 simp only [zP, po]
 refine wK k2 (sK fun _ k11 => ?_)
 refine rW mixed [7] [0,1,2,3,4,5,6,7,8,9,10] 25 rfl (by kernel_rfl) hv ?_
 simp only [qm, opAt]
 refine dM (.bool true) rfl (dM (.bool true) rfl ?_)
 refine dL (.agg #[vI x.stamp, .bool x.gone, vI x.expire, vI x.val.kind, vS x.val.text, xp, xt, xz]) rfl (fun hv => ex_load rfl rfl (lM 0 x0wd85 hv rfl rfl rfl rfl)) ?_
 simp only [zP, po]
 refine dL _ rfl (fun hv => ex_load rfl rfl (run_load1 x1na62 (hv.load 1 0 rfl rfl))) (dG (vP t) rfl (ex_nil rfl rfl) ?_)
 refine dG (.pointer (some ⟨t, 2, none⟩)) rfl (ex_field rfl rfl (x2fa133_2 _ _ _)) ?_
 simp only [zP, po]
 refine dL _ rfl (fun hv => ex_load rfl rfl (run_load1 s2na3 (hv.load 2 2 rfl rfl))) (dS rfl fun w12 hv => ?_)
 refine mC x2callable188 rfl ((chainAlive B _ _ x xp xt xz clk hv).mono ?_) rfl
 rintro e w13 ⟨rfl, hv⟩
 refine ⟨_, rfl, dW hv ?_⟩
 refine dG (.bool (!(aliveB x clk))) rfl (ex_not rfl rfl rfl) ?_
 simp only [zP, po]
 refine dK true (.bool (!(aliveB x clk))) rfl (dA (.bool (!(aliveB x clk))) rfl ?_)
 refine dE fun w14 hv => ?_
 simp only [zP, po]
 refine tK k11 (rR ?_)
 refine bR rfl rfl (⟨congrArg (fun b => Ending.returned (Value.bool b)) (by unfold deadNow; rw [hlM]), (hv.kp [3, 3, 3] 3 1)⟩)
theorem x6callable177 : Callable Tryz.prog 177 := ⟨_, Tryz.func177, by kernel_rfl, by kernel_rfl⟩
theorem x6callable201 : Callable Tryz.prog 201 := ⟨_, Tryz.func201, by kernel_rfl, by kernel_rfl⟩
theorem x6callable200 : Callable Tryz.prog 200 := ⟨_, Tryz.func200, by kernel_rfl, by kernel_rfl⟩
theorem x6callable101 : Callable Tryz.prog 101 := ⟨_, Tryz.func101, by kernel_rfl, by kernel_rfl⟩
theorem x6callable102 : Callable Tryz.prog 102 := ⟨_, Tryz.func102, by kernel_rfl, by kernel_rfl⟩
theorem x6callable202 : Callable Tryz.prog 202 := ⟨_, Tryz.func202, by kernel_rfl, by kernel_rfl⟩
set_option maxHeartbeats 8000000 in
theorem txnNames (B : Base) (H : List Res) (w : World) (t m s p wb : Nat) (va : Option Addr) (vc : Nat) (sv : Value) (clk : Int) (es : List (List UInt8 × Value)) (M : List (List UInt8 × Ver)) (hM : VM B es M) (hkl : ∀ k ∈ M.map (·.1), k.length ≤ 256) (hMl : M.length ≤ 1000000) (hv : Inv B (txR t m s p wb va vc sv clk es :: H) w) :
  Calls Tryz.prog 197 #[vP t] w fun e w' => ∃ ra rc, e = .returned (.slice ra (namesT M clk).length rc) ∧ Inv B (Res.row 9 1 (.slice ra (namesT M clk).length rc) (namesT M clk).length (textCells (namesT M clk)) :: txR t m s p wb va vc sv clk es :: H) w' := by
 refine cW Tryz.func197 rfl Tryz.ntmps197 ?_
 simp only [al]
 refine sK fun _ k1 => ?_
 replace hv := Inv.unstar hv
 simp only [txL, List.cons_append, List.nil_append] at hv
 refine rL (sl_box (L := [vP t]) tV (wn rfl) rfl rfl hv (fun w => by kernel_rfl) (fun b2 w3 hv => ?_))
 refine xA (vN) rfl ?_
 simp only [zP, po]
 refine wK k1 (sK fun _ k4 => ?_)
 refine rW mixed [15] [0,1,2,3,4,5,6,7,8,9,10,11,12,13,14,15,16] 33 rfl (by kernel_rfl) hv ?_
 simp only [qm, opAt]
 refine dL _ rfl (fun hv => ex_load rfl rfl (run_load1 x1na62 (hv.load 0 0 rfl rfl))) (dG (vP t) rfl (ex_nil rfl rfl) ?_)
 refine dG (vP t) rfl (ex_field rfl rfl (x1fa133_0 _ _ _)) ?_
 simp only [zP, po]
 refine dL _ rfl (fun hv => ex_load rfl rfl (run_load1 x1na53 (hv.load 1 0 rfl rfl))) (dG (vP m) rfl (ex_nil rfl rfl) ?_)
 refine dG (vP m) rfl (ex_field rfl rfl (x2fa96_0 _ _ _)) ?_
 simp only [zP, po]
 refine dL _ rfl (fun hv => ex_load rfl rfl (run_load1 x0na57 (hv.load 2 0 rfl rfl))) (dL _ rfl (fun hv => ex_load rfl rfl (run_load1 x1na62 (hv.load 0 0 rfl rfl))) ?_)
 refine dG (vP t) rfl (ex_nil rfl rfl) ?_
 simp only [zP, po]
 refine dG (.pointer (some ⟨t, 1, none⟩)) rfl (ex_field rfl rfl (x2fa133_1 _ _ _)) (dL _ rfl (fun hv => ex_load rfl rfl (run_load1 s2na3 (hv.load 1 1 rfl rfl))) ?_)
 refine dL _ rfl (fun hv => ex_load rfl rfl (run_load1 x1na62 (hv.load 0 0 rfl rfl))) ?_
 simp only [zP, po]
 refine dG (vP t) rfl (ex_nil rfl rfl) (dG (.pointer (some ⟨t, 2, none⟩)) rfl (ex_field rfl rfl (x2fa133_2 _ _ _)) ?_)
 refine dL _ rfl (fun hv => ex_load rfl rfl (run_load1 s2na3 (hv.load 1 2 rfl rfl))) ?_
 simp only [zP, po]
 refine dS rfl fun w5 hv => ?_
 replace hv := hv.front 6 rfl
 simp only [eS, eZ] at hv
 replace hv := hv.front 6 rfl
 simp only [eS, eZ] at hv
 refine mC x6callable177 rfl ((storeNames0 B _ _ s p 0 clk hv).mono ?_) rfl
 rintro e w6 ⟨rfl, hv⟩
 refine ⟨_, rfl, dW hv ?_⟩
 refine dA (vN) rfl (dE fun w7 hv => ?_)
 simp only [zP, po]
 refine tK k4 (sK fun _ k8 => ?_)
 refine rL (xM (vN) rfl ?_)
 refine xL _ rfl (run_load1 x1na62 (hv.load 2 0 rfl rfl)) (xG (vP t) rfl (ex_nil rfl rfl) ?_)
 simp only [zP, po]
 refine xF (.pointer (some ⟨t, 4, none⟩)) rfl (x2fa133_4 _ _ _) (xL _ rfl (run_load1 x2na131 (hv.load 3 4 rfl rfl)) ?_)
 refine xC x6callable201 rfl ((mapKeys B _ _ (some wb) hv).mono ?_) rfl
 rintro e w9 ⟨b9, rfl, hv⟩
 refine ⟨_, rfl, ?_⟩
 simp only [zP, po]
 replace hv := hv.front 7 rfl
 simp only [eS, eZ] at hv
 replace hv := hv.front 1 rfl
 simp only [eS, eZ] at hv
 have hnd := vmap_nodup (hv.get 1 rfl)
 have hke := VM.keys hM
 have hle : es.length = M.length := by have := congrArg List.length hke; simpa using this
 refine xC x6callable200 rfl ((appendKeys B _ _ b9 wb es (fun x hx => Nat.le_trans (hkl x.1 (by rw [← hke]; exact List.mem_map.2 ⟨x, hx, rfl⟩)) (by unfold maxLen; omega)) (by omega) hv).mono ?_) rfl
 rintro e w10 ⟨v9, ss, rfl, hperm, hv⟩
 refine ⟨_, rfl, ?_⟩
 obtain ⟨va9, vc9, rfl⟩ := row_slice hv.head
 have hsl : ss.length = M.length := by have := hperm.length_eq; rw [List.length_map] at this; omega
 refine xA (.slice va9 ss.length vc9) rfl ?_
 simp only [zP, po]
 refine wK k8 (sK fun _ k11 => ?_)
 refine rL (xM (.slice va9 ss.length vc9) rfl ?_)
 refine xC x6callable101 rfl ((sortTexts B _ _ _ ss (by omega) hv).mono ?_) rfl
 rintro e w12 ⟨rfl, hv⟩
 refine ⟨_, rfl, ?_⟩
 have hms : ss.mergeSort leB = (M.map (·.1)).mergeSort leB := by rw [mergeSort_of_perm hperm, hke]
 rw [hms] at hv
 obtain ⟨l, hl⟩ : ∃ l, (M.map (·.1)).mergeSort leB = l := ⟨_, rfl⟩
 rw [hl] at hv hms
 have hll : ss.length = l.length := by rw [← hms]; simp
 rw [hll] at hv ⊢
 have hln : l.Nodup := by rw [← hms]; exact ((List.mergeSort_perm ss leB).nodup_iff).2 ((hperm.nodup_iff).2 hnd)
 simp only [zP, po]
 refine wK k11 (sK fun _ k13 => ?_)
 refine rL (xM (.slice va9 l.length vc9) rfl ?_)
 refine xC x6callable102 rfl ((compactTexts B _ _ va9 vc9 l hln (by omega) hv).mono ?_) rfl
 rintro e w14 ⟨rfl, hv⟩
 refine ⟨_, rfl, ?_⟩
 refine xG (.func (.func 202) #[] #[vP b2]) rfl (ex_makeFunc (c' := #[vP b2]) rfl (by simp only [List.map_toArray, List.map_nil]) (by simp only [List.map_toArray, List.map_cons, List.map_nil]; rfl)) ?_
 simp only [zP, po]
 have hfn : ∀ (x : List UInt8) (r9 : Res) (w : World), Inv B (r9 :: (Res.cell b9 [.map (some wb)] 131 :: Res.vmap wb es :: Res.cell s [vP p, vI 0, vI 0] 100 :: Res.cell p [vN, vI 0] 130 :: Res.cell b2 [vP t] 62 :: Res.cell t [vP m, vI 0, vI clk, .bool false, .map (some wb)] 133 :: Res.cell m [vP s, sv, vI clk, .slice va 1 vc] 96 :: Res.row 62 1 (.slice va 1 vc) 1 [vP t] :: H)) w → Calls Tryz.prog 202 (#[vS x] ++ #[vP b2]) w fun e w' => e = .returned (.bool (deadNow M clk x)) ∧ Inv B (r9 :: (Res.cell b9 [.map (some wb)] 131 :: Res.vmap wb es :: Res.cell s [vP p, vI 0, vI 0] 100 :: Res.cell p [vN, vI 0] 130 :: Res.cell b2 [vP t] 62 :: Res.cell t [vP m, vI 0, vI clk, .bool false, .map (some wb)] 133 :: Res.cell m [vP s, sv, vI clk, .slice va 1 vc] 96 :: Res.row 62 1 (.slice va 1 vc) 1 [vP t] :: H)) w' := fun x r9 w hv =>
  (namesDead B _ w b2 t m wb clk es M x hM (((((((((hv.front 8 rfl).front 8 rfl).front 6 rfl).front 6 rfl).front 5 rfl).front 5 rfl).front 6 rfl).front 8 rfl).front 8 rfl)).mono fun e w' ⟨h7, h8⟩ => ⟨h7, (((((((((h8.front 8 rfl).front 8 rfl).front 3 rfl).front 3 rfl).front 8 rfl).front 8 rfl).front 6 rfl).front 8 rfl).front 8 rfl)⟩
 refine xC x0callable180 rfl ((deleteFunc B _ _ 202 _ va9 vc9 l (deadNow M clk) (by omega) x6callable202 hfn hv).mono ?_) rfl
 rintro e w15 ⟨ra, rc, rfl, hv⟩
 refine ⟨_, rfl, ?_⟩
 refine xA (.slice ra ((l.filter fun y => !deadNow M clk y).length) rc) rfl ?_
 simp only [zP, po]
 refine wK k13 (rR ?_)
 refine bR rfl rfl ?_
 subst hl
 exact ⟨_, _, rfl, Inv.front (Inv.star (K := txL _ _ _ _ _ _ _ _ _ _) ((hv.kp [4, 4, 4, 8, 8, 8] 7 2))) 1 rfl⟩
end Go.Proofs.YtoljdfjnannakaaGreatDoor
/- cset: keep, truth, change. -/
namespace Go.Proofs.YtoljdfjnannakaaGreatDoor
open Go.RowKit Go.Pm
theorem c1al28 (w : World) : (Instr.alloc 28 true (.tuple #[])).run Tryz.prog w = .ok (.pointer (some ⟨w.heap.size, 0, none⟩)) (w.alloc (.cells ([vI 0, vS [], vI 0, vN] : List Value).toArray 28)) := by kernel_rfl
theorem c1callable45 : Callable Tryz.prog 45 := ⟨_, Tryz.func45, by kernel_rfl, by kernel_rfl⟩
set_option maxHeartbeats 2000000 in
theorem csetTruth (B : Base) (H : List Res) (w : World) (b : Bool) (hv : Inv B H w) :
  Calls Tryz.prog 66 #[.bool b] w fun e w' => e = .returned (.agg #[vI 2, vS (([] : List UInt8)), vI (if b then 1 else 0), vN]) ∧ Inv B H w' := by
 refine cW Tryz.func66 rfl Tryz.ntmps66 ?_
 simp only [al]
 refine sK fun _ k1 => rL (sl_alloc tV (wn rfl) rfl hv c1al28 (fun b2 w3 hv => ?_))
 simp only [zP, po]
 refine wK k1 (sK fun _ k4 => ?_)
 refine sK fun _ k5 => rL (xM (.bool b) rfl ?_)
 simp only [zP, po]
 refine wK k5 (wpIn_cond_split (t := b) rfl (fun hc6 => ?_) (fun hc6 => ?_))
 ·refine sK fun _ k7 => rL (xC c1callable45 rfl ((respInt B _ _ 1 hv).mono ?_) rfl)
  rintro e w8 ⟨rfl, hv⟩
  refine ⟨_, rfl, ?_⟩
  refine xS 0 rfl hv rssz28 rfl (by exact ⟨rfl, rfl, rfl, rfl, trivial⟩) (fun w9 hv => ?_)
  simp only [zO, sp] at hv
  simp only [zP, po]
  refine wK k7 (rR ?_)
  refine tR (bC 0 rswd28 hv rfl rfl rfl rfl ?_)
  exact ⟨by rw [hc6]; rfl, (hv.kp [] 0 1)⟩
 refine kS (tK k4 ?_)
 refine sK fun _ k10 => rL (xC c1callable45 rfl ((respInt B _ _ 0 hv).mono ?_) rfl)
 rintro e w11 ⟨rfl, hv⟩
 refine ⟨_, rfl, ?_⟩
 refine xS 0 rfl hv rssz28 rfl (by exact ⟨rfl, rfl, rfl, rfl, trivial⟩) (fun w12 hv => ?_)
 simp only [zO, sp] at hv
 simp only [zP, po]
 refine wK k10 (rR ?_)
 refine bC 0 rswd28 hv rfl rfl rfl rfl (⟨by rw [hc6]; rfl, (hv.kp [] 0 1)⟩)
theorem setV_at {B : Base} {l : List (List UInt8)} {la : Option Addr} {lc : Nat} (hr : RdV B [] la (textCells l)) (hok : SliceOk la l.length lc) (hm : l.length ≤ 1000000) : ValAt B (setV l) (vN) (.slice la l.length lc) (vN) :=
 ⟨⟨none, 0, rfl, ok_nil, rdV_nil⟩, ⟨la, lc, rfl, hok, hr⟩, ⟨none, 0, rfl, ok_nil, rdV_nil⟩, Nat.zero_le _, hm, Nat.zero_le _⟩
theorem c1fa73_0 (w : World) (b o : Nat) : (Instr.fieldAt 73 (.pointer (some ⟨b, o, none⟩)) 0).run Tryz.prog w = .ok (.pointer (some ⟨b, o + 0, none⟩)) w := by kernel_rfl
theorem c1na24 (w : World) : (isAgg 24).run Tryz.prog w = .ok false w := by kernel_rfl
theorem c1callable29 : Callable Tryz.prog 29 := ⟨_, Tryz.func29, by kernel_rfl, by kernel_rfl⟩
set_option maxHeartbeats 2000000 in
theorem csetKeep (B : Base) (H : List Res) (w : World) (v t m s p wb : Nat) (va : Option Addr) (vc : Nat) (sv : Value) (clk : Int) (es : List (List UInt8 × Value)) (M : List (List UInt8 × Ver)) (hM : VM B es M) (_ : OkM M) (aa : Option Addr) (ac n : Nat) (key : List UInt8) (y : Ver) (yp yt yz : Value) (_ : ValAt B y.val yp yt yz) (la : Option Addr) (lc : Nat) (l : List (List UInt8)) (hrl : RdV B [] la (textCells l)) (hokl : SliceOk la l.length lc) (hml : l.length ≤ 1000000) (hv : Inv B (Res.cell v [.iface 62 (vP t)] 39 :: txR t m s p wb va vc sv clk es :: H) w) :
  Calls Tryz.prog 44 #[.agg #[vP v, .slice aa n ac], vS key, .agg #[vI y.stamp, .bool y.gone, vI y.expire, vI y.val.kind, vS y.val.text, yp, yt, yz], .slice la l.length lc] w fun e w' => ∃ C es' M' ec, B.Le C ∧ e = .returned (vI ec) ∧ VM C es' M' ∧ KeepI M clk key (setV l) y.expire ec M' ∧ Inv C (Res.cell v [.iface 62 (vP t)] 39 :: txR t m s p wb va vc sv clk es' :: H) w' := by
 refine cW Tryz.func44 rfl Tryz.ntmps44 ?_
 simp only [al]
 refine sK fun _ k1 => rL (sl_box (L := [vP v, .slice aa n ac]) tV (wn rfl) rfl rfl hv (fun w => by kernel_rfl) (fun b2 w3 hv => ?_))
 refine sl_box (L := [vI y.stamp, .bool y.gone, vI y.expire, vI y.val.kind, vS y.val.text, yp, yt, yz]) tV (wn rfl) rfl rfl hv (fun w => by kernel_rfl) (fun b4 w5 hv => ?_)
 refine xA (vI 0) rfl ?_
 simp only [zP, po]
 refine wK k1 (sK fun _ k6 => ?_)
 refine rL (xF (vP b2) rfl (c1fa73_0 _ _ _) ?_)
 refine xL _ rfl (run_load1 c1na24 (hv.load 1 0 rfl rfl)) (xM (vS key) rfl ?_)
 simp only [zP, po]
 refine xM (.slice la l.length lc) rfl (xG (.agg #[vI 4, vS [], vN, .slice la l.length lc, vN]) rfl (ex_buildN (vs := #[(0, vI 4), (3, .slice la l.length lc)]) rfl (by simp only [List.map_toArray, List.map_cons, List.map_nil]; rfl) (by kernel_rfl)) ?_)
 refine xF (.pointer (some ⟨b4, 2, none⟩)) rfl (s2fa85_2 _ _ _) ?_
 simp only [zP, po]
 refine xL _ rfl (run_load1 s2na3 (hv.load 0 2 rfl rfl)) ?_
 replace hv := hv.front 3 rfl
 simp only [eS, eZ] at hv
 replace hv := hv.front 3 rfl
 simp only [eS, eZ] at hv
 refine xC c1callable29 rfl ((viewKeep B _ _ v t m s p wb va vc sv clk es M key (setV l) _ _ _ y.expire hM (setV_at hrl hokl hml) hv).mono ?_) rfl
 rintro e w7 ⟨C, es', M', ec, hC, rfl, hM', hk, hv⟩
 refine ⟨_, rfl, ?_⟩
 refine xA (vI ec) rfl ?_
 simp only [zP, po]
 refine wK k6 (rR ?_)
 refine bR rfl rfl (⟨C, es', M', ec, hC, rfl, hM', hk, (hv.kp [1, 1] 2 2)⟩)
theorem c1fa73_1 (w : World) (b o : Nat) : (Instr.fieldAt 73 (.pointer (some ⟨b, o, none⟩)) 1).run Tryz.prog w = .ok (.pointer (some ⟨b, o + 1, none⟩)) w := by kernel_rfl
theorem c1callable63 : Callable Tryz.prog 63 := ⟨_, Tryz.func63, by kernel_rfl, by kernel_rfl⟩
theorem c1al85 (w : World) : (Instr.alloc 85 true (.tuple #[])).run Tryz.prog w = .ok (.pointer (some ⟨w.heap.size, 0, none⟩)) (w.alloc (.cells ([vI 0, .bool false, vI 0, vI 0, vS [], vN, vN, vN] : List Value).toArray 85)) := by kernel_rfl
theorem c1callable64 : Callable Tryz.prog 64 := ⟨_, Tryz.func64, by kernel_rfl, by kernel_rfl⟩
theorem c1wd73 : Wide Tryz.prog 73 2 := wide_of (fun w => by kernel_rfl) (by kernel_rfl)
theorem c1callable44 : Callable Tryz.prog 44 := ⟨_, Tryz.func44, by kernel_rfl, by kernel_rfl⟩
theorem c1callable42 : Callable Tryz.prog 42 := ⟨_, Tryz.func42, by kernel_rfl, by kernel_rfl⟩
theorem c1callable65 : Callable Tryz.prog 65 := ⟨_, Tryz.func65, by kernel_rfl, by kernel_rfl⟩
set_option maxHeartbeats 8000000 in
theorem csetChange (B : Base) (H : List Res) (w : World) (v t m s p wb : Nat) (va : Option Addr) (vc : Nat) (sv : Value) (clk : Int) (es : List (List UInt8 × Value)) (M : List (List UInt8 × Ver)) (hM : VM B es M) (hO : OkM M) (aa : Option Addr) (ac : Nat) (args : List (List UInt8)) (hra : RdV B [] aa (textCells args)) (hoka : SliceOk aa args.length ac) (_ : args.length ≤ 10000) (key : List UInt8) (hkey : args[0]? = some key) (b : Bool) (xa : Option Addr) (xc : Nat) (xs : List (List UInt8)) (hokx : SliceOk xa xs.length xc) (hrx : RdV B [] xa (textCells xs)) (hmx : xs.length ≤ 10000) (hv : Inv B (Res.cell v [.iface 62 (vP t)] 39 :: txR t m s p wb va vc sv clk es :: H) w) :
  Calls Tryz.prog 39 #[.agg #[vP v, .slice aa args.length ac], .bool b, .slice xa xs.length xc] w fun e w' => ∃ C es' M' r cs, B.Le C ∧ e = .returned (.agg cs.toArray) ∧ RpAt C r cs ∧ VM C es' M' ∧ OkM M' ∧ ChangeR M clk key b xs M' r ∧ Inv C (Res.cell v [.iface 62 (vP t)] 39 :: txR t m s p wb va vc sv clk es' :: H) w' := by
 refine cW Tryz.func39 rfl Tryz.ntmps39 ?_
 simp only [al]
 refine sK fun _ k1 => ?_
 have hal := (List.getElem?_eq_some_iff.1 hkey).1
 obtain ⟨ab, ao, had, hrdkey⟩ := text_reads hra hkey
 subst had
 refine rL (sl_box (L := [vP v, .slice (some ⟨ab, ao, none⟩) args.length ac]) tV (wn rfl) rfl rfl hv (fun w => by kernel_rfl) (fun b2 w3 hv => ?_))
 refine sl_alloc tV (wn rfl) rfl hv c1al28 (fun b4 w5 hv => ?_)
 simp only [zP, po]
 refine wK k1 (sK fun _ k6 => ?_)
 refine rT mixed (fun az wz => ∃ (C : Base) (y : Ver) (yp yt yz : Value) (ec : Int) (b13 : Nat), (B.Le C) ∧ (ValAt C y.val yp yt yz) ∧ (OfI M clk key 4 y ec) ∧ az = { tmps := #[.agg #[vP v, .slice (some ⟨ab, ao, none⟩) args.length ac], .bool b, .slice xa xs.length xc, vP b2, undef, undef, vP b4, vP b13, vI ec, undef, undef, .tuple #[.agg #[vI y.stamp, .bool y.gone, vI y.expire, vI y.val.kind, vS y.val.text, yp, yt, yz], vI ec], vP b2, vP v, .pointer (some ⟨b2, 1, none⟩), .slice (some ⟨ab, ao, none⟩) args.length ac, .pointer (some ⟨ab, ao + 0, none⟩), vS key, .tuple #[.agg #[vI y.stamp, .bool y.gone, vI y.expire, vI y.val.kind, vS y.val.text, yp, yt, yz], vI ec], .agg #[vI y.stamp, .bool y.gone, vI y.expire, vI y.val.kind, vS y.val.text, yp, yt, yz], vI ec, undef, undef, undef, undef, undef, undef, undef, undef, undef, undef, undef, undef, undef, undef, undef, undef, undef, undef, undef, undef, undef, undef, undef, undef, undef, undef, undef, undef, undef, undef, undef, undef, undef, undef, undef, undef, undef, undef, undef], defers := [] } ∧ Inv C (Res.cell b13 [vI y.stamp, .bool y.gone, vI y.expire, vI y.val.kind, vS y.val.text, yp, yt, yz] 85 :: Res.cell v [.iface 62 (vP t)] 39 :: txR t m s p wb va vc sv clk es :: Res.cell b4 [vI 0, vS [], vI 0, vN] 28 :: Res.cell b2 [vP v, .slice (some ⟨ab, ao, none⟩) args.length ac] 73 :: H) wz) [6, 10, 11] [0,1,2,3,4,5] [7,8,9,10,11,12] [6,7,8,9,11,12] 6 10 60 rfl (by kernel_rfl) hv ?_ ?_
 ·intro R2 l1 l2 hR2 hl1 hl2
  simp only [qm, opAt]
  refine tG (vP b2) rfl (ex_field rfl rfl (c1fa73_0 _ _ _)) (tF (vP v) rfl (fun hv => ex_load rfl rfl (run_load1 c1na24 (hv.load 1 0 rfl rfl))) fun f7 hf7 => ?_)
  simp only [zP, po]
  refine tG (.pointer (some ⟨b2, 1, none⟩)) rfl (ex_field rfl rfl (c1fa73_1 _ _ _)) (tF (.slice (some ⟨ab, ao, none⟩) args.length ac) rfl (fun hv => ex_load rfl rfl (run_load1 s1na22 (hv.load 1 1 rfl rfl))) fun f8 hf8 => ?_)
  simp only [zP, po]
  refine tG (.pointer (some ⟨ab, ao + 0, none⟩)) rfl (ex_index rfl rfl rfl (run_idx1 (k := 0) Tryz.underlying22 s9es22 (by omega))) (tF (vS key) rfl (fun hv => ex_load rfl rfl (run_load1 s9na9 (hrdkey _ _ _ (Base.Le.refl _) no_res hv 0 _ rfl))) fun f9 hf9 => ?_)
  simp only [zP, po]
  refine tB ?_ ?_
  ·rw [hl1]; clear hl1 hl2
   simp only [qm, opAt]
   refine dS rfl fun w10 hv => ?_
   replace hv := hv.front 3 rfl
   simp only [eS, eZ] at hv
   replace hv := hv.front 3 rfl
   simp only [eS, eZ] at hv
   refine mC c1callable63 rfl ((viewOf B _ _ v t m s p wb va vc sv clk es M key 4 hM hv).mono ?_) rfl
   rintro e w11 ⟨C, y, yp, yt, yz, ec, hC, rfl, hyv, hof, hv⟩
   refine ⟨_, rfl, dV hv (fK rfl (fK rfl (fK rfl fN))) ?_⟩
   refine dM (.tuple #[.agg #[vI y.stamp, .bool y.gone, vI y.expire, vI y.val.kind, vS y.val.text, yp, yt, yz], vI ec]) rfl (dG (.agg #[vI y.stamp, .bool y.gone, vI y.expire, vI y.val.kind, vS y.val.text, yp, yt, yz]) rfl (ex_extract rfl rfl rfl) ?_)
   simp only [zP, po]
   refine dG (vI ec) rfl (ex_extract rfl rfl rfl) (dS rfl fun w12 hv => ?_)
   refine mem_alloc rfl rfl hv c1al85 (fun b13 w14 hv => ?_)
   refine dV hv (fC (fun ww hv => hf9 ww (ex_load rfl rfl (run_load1 s9na9 (hrdkey _ _ _ hC no_res hv 0 _ rfl)))) (fC (fun ww hv => hf8 ww (ex_load rfl rfl (run_load1 s1na22 (hv.load 4 1 rfl rfl)))) (fC (fun ww hv => hf7 ww (ex_load rfl rfl (run_load1 c1na24 (hv.load 4 0 rfl rfl)))) fN))) (dS rfl fun w15 hv => ?_)
   refine mS 0 rfl hv x0sz85 rfl (by exact ⟨rfl, rfl, rfl, rfl, rfl, hyv.p.one, hyv.t.one, hyv.z.one, trivial⟩) (fun w16 hv => ?_)
   simp only [zO, sp] at hv
   refine dV hv (fK rfl (fK rfl (fK rfl fN))) ?_
   simp only [zP, po]
   refine dA (vI ec) rfl (dE fun wz hv => ?_)
   simp only [zP, po]
   exact hR2 _ _ ⟨C, y, yp, yt, yz, ec, b13, hC, hyv, hof, rfl, (((((hv.front 4 rfl).front 4 rfl).front 4 rfl).front 4 rfl).front 4 rfl)⟩
  rw [hl2]; clear hl1 hl2
  simp only [qm, opAt]
  refine dS rfl fun w17 hv => mem_alloc rfl rfl hv c1al85 (fun b18 w19 hv => ?_)
  refine dV hv (fC (fun ww hv => hf9 ww (ex_load rfl rfl (run_load1 s9na9 (hrdkey _ _ _ (Base.Le.refl _) no_res hv 0 _ rfl)))) (fC (fun ww hv => hf8 ww (ex_load rfl rfl (run_load1 s1na22 (hv.load 2 1 rfl rfl)))) (fC (fun ww hv => hf7 ww (ex_load rfl rfl (run_load1 c1na24 (hv.load 2 0 rfl rfl)))) fN))) (dS rfl fun w20 hv => ?_)
  replace hv := hv.front 4 rfl
  simp only [eS, eZ] at hv
  replace hv := hv.front 4 rfl
  simp only [eS, eZ] at hv
  refine mC c1callable63 rfl ((viewOf B _ _ v t m s p wb va vc sv clk es M key 4 hM hv).mono ?_) rfl
  rintro e w21 ⟨C, y, yp, yt, yz, ec, hC, rfl, hyv, hof, hv⟩
  refine ⟨_, rfl, dV hv (fK rfl (fK rfl (fK rfl fN))) ?_⟩
  refine dM (.tuple #[.agg #[vI y.stamp, .bool y.gone, vI y.expire, vI y.val.kind, vS y.val.text, yp, yt, yz], vI ec]) rfl ?_
  simp only [zP, po]
  refine dG (.agg #[vI y.stamp, .bool y.gone, vI y.expire, vI y.val.kind, vS y.val.text, yp, yt, yz]) rfl (ex_extract rfl rfl rfl) (dG (vI ec) rfl (ex_extract rfl rfl rfl) ?_)
  refine dS rfl fun w22 hv => mS 2 rfl hv x0sz85 rfl (by exact ⟨rfl, rfl, rfl, rfl, rfl, hyv.p.one, hyv.t.one, hyv.z.one, trivial⟩) (fun w23 hv => ?_)
  simp only [zS, zO, sp] at hv
  refine dV hv (fK rfl (fK rfl (fK rfl fN))) ?_
  simp only [zP, po]
  refine dA (vI ec) rfl (dE fun wz hv => ?_)
  simp only [zP, po]
  exact hR2 _ _ ⟨C, y, yp, yt, yz, ec, b18, hC, hyv, hof, rfl, (((((hv.front 4 rfl).front 4 rfl).front 3 rfl).front 3 rfl).front 4 rfl)⟩
 rintro _ w24 ⟨C, y, yp, yt, yz, ec, b13, hC, hyv, hof, rfl, hv⟩
 obtain ⟨pa, pc, za, zc, pn, zn, sa, sc, rfl, rfl, rfl, hoks, hrs⟩ : ∃ pa pc za zc pn zn sa sc, yp = .slice pa pn pc ∧ yz = .slice za zn zc ∧ yt = .slice sa y.val.texts.length sc ∧ SliceOk sa y.val.texts.length sc ∧ RdV C [] sa (textCells y.val.texts) := by
  obtain ⟨⟨a1, c1, h1, -⟩, ⟨a2, c2, h2, h3, h4⟩, ⟨a3, c3, h5, -⟩, -⟩ := hyv
  exact ⟨_, _, _, _, _, _, _, _, h1, h5, h2, h3, h4⟩
 refine tK k6 (sK fun _ k25 => ?_)
 refine sK fun _ k26 => rL (xM (vI ec) rfl ?_)
 by_cases hb27 : ec ≠ 0
 ·refine xG (.bool true) rfl (ex_neq rfl rfl rfl (qT hb27)) ?_
  simp only [zP, po]
  refine wK k26 (cT rfl ?_)
  refine sK fun _ k28 => rL (xM (vI ec) rfl ?_)
  refine xC rscallable24 rfl ((viewWrong C _ _ ec hv).mono ?_) rfl
  rintro e w30 ⟨s29, rfl, hv⟩
  refine ⟨_, rfl, ?_⟩
  refine xS 3 rfl hv rssz28 rfl (by exact ⟨rfl, rfl, rfl, rfl, trivial⟩) (fun w31 hv => ?_)
  simp only [zS, zO, sp] at hv
  simp only [zP, po]
  refine wK k28 (rR ?_)
  refine tR (bC 3 rswd28 hv rfl rfl rfl rfl ?_)
  exact ⟨C, es, M, rFault s29, rpCells 1 s29 0 (vN), hC, rfl, rpAt_leaf, hM.more hC, hO, ⟨y, ec, hof, .inl ⟨by omega, rfl, rfl⟩⟩, (hv.kp [2, 2] 2 3)⟩
 refine xG (.bool false) rfl (ex_neq rfl rfl rfl (qF hb27)) ?_
 simp only [zP, po]
 refine wK k26 (cF rfl ?_)
 refine kS (tK k25 ?_)
 refine sK fun _ k32 => ?_
 have hec00 : ec = 0 := by omega
 refine rL (xF (.pointer (some ⟨b13, 3, none⟩)) rfl (x2fa85_3 _ _ _) ?_)
 refine xF (.pointer (some ⟨b13, 6, none⟩)) rfl (s1fa78_3 _ _ _) (xL _ rfl (run_load1 s1na22 (hv.load 0 6 rfl rfl)) ?_)
 simp only [zP, po]
 refine xA (.slice sa y.val.texts.length sc) rfl (xA (vI 0) rfl ?_)
 simp only [zP, po]
 refine wK k32 (sK fun _ k33 => ?_)
 refine sK fun _ k34 => rL (xM (.bool b) rfl ?_)
 simp only [zP, po]
 refine wK k34 (wpIn_cond_split (t := b) rfl (fun hc35 => ?_) (fun hc35 => ?_))
 ·refine rL (xM (.slice sa y.val.texts.length sc) rfl ?_)
  refine xM (.slice xa xs.length xc) rfl ?_
  have hso := hO.set hof
  have hsor := hO.sorted hof
  have hsl := hso.1
  refine xC c1callable64 rfl ((setAdd C _ _ sa xa sc xc y.val.texts xs hoks hrs hsor (by omega) hokx (hrx.more hC (fun _ h => h)) hmx hv).mono ?_) rfl
  rintro e w36 ⟨D, oa, oc, out, n, ec2, hD, rfl, hoko, hro, hadd, hv⟩
  refine ⟨_, rfl, ?_⟩
  simp only [zP, po]
  refine xM (.tuple #[.slice oa out.length oc, vI n, vI ec2]) rfl (xG (.slice oa out.length oc) rfl (ex_extract rfl rfl rfl) ?_)
  refine xG (vI n) rfl (ex_extract rfl rfl rfl) ?_
  simp only [zP, po]
  refine xG (vI ec2) rfl (ex_extract rfl rfl rfl) (xA (.slice oa out.length oc) rfl ?_)
  refine xA (vI n) rfl ?_
  simp only [zP, po]
  refine xA (vI ec2) rfl ?_
  simp only [zP, po]
  refine wK k33 (sK fun _ k37 => ?_)
  refine sK fun _ k38 => rL (xM (vI ec2) rfl ?_)
  by_cases hb39 : ec2 = 0
  ·refine xG (.bool true) rfl (ex_eql rfl rfl rfl (qT hb39)) (xM (.bool true) rfl ?_)
   simp only [zP, po]
   refine xM (vI n) rfl ?_
   by_cases hb40 : n > 0
   ·refine xG (.bool true) rfl (ex_gtr rfl rfl rfl (qT hb40)) (xK true (.bool true) rfl ?_)
    simp only [zP, po]
    refine wK k38 (cT rfl ?_)
    refine rW mixed [7] [0,1,2,3,4,5,6,7,8] 60 rfl (by kernel_rfl) hv ?_
    simp only [qm, opAt]
    refine dL (.agg #[vP v, .slice (some ⟨ab, ao, none⟩) args.length ac]) rfl (fun hv => ex_load rfl rfl (lM 4 c1wd73 hv rfl rfl rfl rfl)) (dG (.pointer (some ⟨b2, 1, none⟩)) rfl (ex_field rfl rfl (c1fa73_1 _ _ _)) ?_)
    refine dL _ rfl (fun hv => ex_load rfl rfl (run_load1 s1na22 (hv.load 4 1 rfl rfl))) ?_
    simp only [zP, po]
    refine dG (.pointer (some ⟨ab, ao + 0, none⟩)) rfl (ex_index rfl rfl rfl (run_idx1 (k := 0) Tryz.underlying22 s9es22 (by omega))) (dL _ rfl (fun hv => ex_load rfl rfl (run_load1 s9na9 (hrdkey _ _ _ (hC.trans hD) no_res hv 0 _ rfl))) ?_)
    refine dL (.agg #[vI y.stamp, .bool y.gone, vI y.expire, vI y.val.kind, vS y.val.text, .slice pa pn pc, .slice sa y.val.texts.length sc, .slice za zn zc]) rfl (fun hv => ex_load rfl rfl (lM 0 x0wd85 hv rfl rfl rfl rfl)) ?_
    simp only [zP, po]
    refine dM (.slice oa out.length oc) rfl (dS rfl fun w41 hv => ?_)
    replace hv := hv.front 2 rfl
    simp only [eS, eZ] at hv
    replace hv := hv.front 2 rfl
    simp only [eS, eZ] at hv
    refine mC c1callable44 rfl ((csetKeep D _ _ v t m s p wb va vc sv clk es M (hM.more (hC.trans hD)) hO (some ⟨ab, ao, none⟩) ac args.length key y _ _ _ (hyv.more hD) oa oc out hro hoko (by have h9 := hadd; rcases h9 with ⟨-, -, rfl, -⟩ | ⟨-, j, -, ⟨-, -, rfl, -⟩ | ⟨-, h9, rfl, -⟩⟩ <;> simp <;> omega) hv).mono ?_) rfl
    rintro e w42 ⟨E, es', M', ec3, hE, rfl, hM', hkp, hv⟩
    refine ⟨_, rfl, dW hv ?_⟩
    refine dA (vI ec3) rfl (dE fun w43 hv => ?_)
    simp only [zP, po]
    refine tK k37 (sK fun _ k44 => ?_)
    refine rL (xM (vI ec3) rfl ?_)
    refine xM (vI n) rfl (xC c1callable45 rfl ((respInt E _ _ n hv).mono ?_) rfl)
    rintro e w45 ⟨rfl, hv⟩
    refine ⟨_, rfl, ?_⟩
    simp only [zP, po]
    refine xC c1callable42 rfl ((viewDone E _ _ ec3 2 n ([] : List UInt8) (vN) rfl rfl hv).mono ?_) rfl
    rintro e w46 ⟨xr, hxr, rfl, hv⟩
    refine ⟨_, rfl, ?_⟩
    rcases hxr with ⟨hec0, rfl⟩ | ⟨hec0, s47, rfl⟩
    ·refine xS 3 rfl hv rssz28 rfl (by exact ⟨rfl, rfl, rfl, rfl, trivial⟩) (fun w48 hv => ?_)
     simp only [zS, zO, sp] at hv
     simp only [zP, po]
     refine wK k44 (rR ?_)
     refine bC 3 rswd28 hv rfl rfl rfl rfl (⟨E, es', M', rInt n, rpCells 2 [] n (vN), ((hC.trans hD).trans hE), rfl, rpAt_leaf, hM'.more (Base.Le.refl _), hO.keep hkp, ⟨y, 0, by rw [← hec00]; exact hof, .inr ⟨rfl, out, n, ec2, by rw [if_pos hc35]; exact hadd, .inl ⟨hb39, by omega, ec3, hkp, .inl ⟨by omega, rfl⟩⟩⟩⟩, (hv.kp [1, 1] 2 3)⟩)
    refine xS 3 rfl hv rssz28 rfl (by exact ⟨rfl, rfl, rfl, rfl, trivial⟩) (fun w49 hv => ?_)
    simp only [zS, zO, sp] at hv
    simp only [zP, po]
    refine wK k44 (rR ?_)
    refine bC 3 rswd28 hv rfl rfl rfl rfl (⟨E, es', M', rFault s47, rpCells 1 s47 0 (vN), ((hC.trans hD).trans hE), rfl, rpAt_leaf, hM'.more (Base.Le.refl _), hO.keep hkp, ⟨y, 0, by rw [← hec00]; exact hof, .inr ⟨rfl, out, n, ec2, by rw [if_pos hc35]; exact hadd, .inl ⟨hb39, by omega, ec3, hkp, .inr ⟨by omega, rfl⟩⟩⟩⟩, (hv.kp [1, 1] 2 3)⟩)
   refine xG (.bool false) rfl (ex_gtr rfl rfl rfl (qF hb40)) (xK true (.bool false) rfl ?_)
   simp only [zP, po]
   refine wK k38 (cF rfl ?_)
   refine kS (tK k37 ?_)
   refine sK fun _ k50 => rL (xM (vI ec2) rfl ?_)
   refine xM (vI n) rfl (xC c1callable45 rfl ((respInt D _ _ n hv).mono ?_) rfl)
   rintro e w51 ⟨rfl, hv⟩
   refine ⟨_, rfl, ?_⟩
   simp only [zP, po]
   refine xC c1callable42 rfl ((viewDone D _ _ ec2 2 n ([] : List UInt8) (vN) rfl rfl hv).mono ?_) rfl
   rintro e w52 ⟨xr, hxr, rfl, hv⟩
   refine ⟨_, rfl, ?_⟩
   rcases hxr with ⟨hec0, rfl⟩ | ⟨hec0, s53, rfl⟩
   ·refine xS 3 rfl hv rssz28 rfl (by exact ⟨rfl, rfl, rfl, rfl, trivial⟩) (fun w54 hv => ?_)
    simp only [zS, zO, sp] at hv
    simp only [zP, po]
    refine wK k50 (rR ?_)
    refine bC 3 rswd28 hv rfl rfl rfl rfl (⟨D, es, M, rInt n, rpCells 2 [] n (vN), (hC.trans hD), rfl, rpAt_leaf, hM.more (hC.trans hD), hO, ⟨y, 0, by rw [← hec00]; exact hof, .inr ⟨rfl, out, n, ec2, by rw [if_pos hc35]; exact hadd, .inr ⟨by omega, rfl, .inl ⟨by omega, rfl⟩⟩⟩⟩, (hv.kp [2, 2] 2 3)⟩)
   refine xS 3 rfl hv rssz28 rfl (by exact ⟨rfl, rfl, rfl, rfl, trivial⟩) (fun w55 hv => ?_)
   simp only [zS, zO, sp] at hv
   simp only [zP, po]
   refine wK k50 (rR ?_)
   refine bC 3 rswd28 hv rfl rfl rfl rfl (⟨D, es, M, rFault s53, rpCells 1 s53 0 (vN), (hC.trans hD), rfl, rpAt_leaf, hM.more (hC.trans hD), hO, ⟨y, 0, by rw [← hec00]; exact hof, .inr ⟨rfl, out, n, ec2, by rw [if_pos hc35]; exact hadd, .inr ⟨by omega, rfl, .inr ⟨by omega, rfl⟩⟩⟩⟩, (hv.kp [2, 2] 2 3)⟩)
  refine xG (.bool false) rfl (ex_eql rfl rfl rfl (qF hb39)) (xM (.bool false) rfl ?_)
  simp only [zP, po]
  iterate 2 refine yN rfl ?_
  refine xK false (.bool false) rfl ?_
  simp only [zP, po]
  refine wK k38 (cF rfl ?_)
  refine kS (tK k37 ?_)
  refine sK fun _ k56 => rL (xM (vI ec2) rfl ?_)
  refine xM (vI n) rfl (xC c1callable45 rfl ((respInt D _ _ n hv).mono ?_) rfl)
  rintro e w57 ⟨rfl, hv⟩
  refine ⟨_, rfl, ?_⟩
  simp only [zP, po]
  refine xC c1callable42 rfl ((viewDone D _ _ ec2 2 n ([] : List UInt8) (vN) rfl rfl hv).mono ?_) rfl
  rintro e w58 ⟨xr, hxr, rfl, hv⟩
  refine ⟨_, rfl, ?_⟩
  rcases hxr with ⟨hec0, rfl⟩ | ⟨hec0, s59, rfl⟩
  ·refine xS 3 rfl hv rssz28 rfl (by exact ⟨rfl, rfl, rfl, rfl, trivial⟩) (fun w60 hv => ?_)
   simp only [zS, zO, sp] at hv
   simp only [zP, po]
   refine wK k56 (rR ?_)
   refine bC 3 rswd28 hv rfl rfl rfl rfl (⟨D, es, M, rInt n, rpCells 2 [] n (vN), (hC.trans hD), rfl, rpAt_leaf, hM.more (hC.trans hD), hO, ⟨y, 0, by rw [← hec00]; exact hof, .inr ⟨rfl, out, n, ec2, by rw [if_pos hc35]; exact hadd, .inr ⟨by omega, rfl, .inl ⟨by omega, rfl⟩⟩⟩⟩, (hv.kp [2, 2] 2 3)⟩)
  refine xS 3 rfl hv rssz28 rfl (by exact ⟨rfl, rfl, rfl, rfl, trivial⟩) (fun w61 hv => ?_)
  simp only [zS, zO, sp] at hv
  simp only [zP, po]
  refine wK k56 (rR ?_)
  refine bC 3 rswd28 hv rfl rfl rfl rfl (⟨D, es, M, rFault s59, rpCells 1 s59 0 (vN), (hC.trans hD), rfl, rpAt_leaf, hM.more (hC.trans hD), hO, ⟨y, 0, by rw [← hec00]; exact hof, .inr ⟨rfl, out, n, ec2, by rw [if_pos hc35]; exact hadd, .inr ⟨by omega, rfl, .inr ⟨by omega, rfl⟩⟩⟩⟩, (hv.kp [2, 2] 2 3)⟩)
 refine rL (xM (.slice sa y.val.texts.length sc) rfl ?_)
 refine xM (.slice xa xs.length xc) rfl ?_
 have hso := hO.set hof
 have hsl := hso.1
 refine xC c1callable65 rfl ((setDel C _ _ sa sc y.val.texts hrs (by omega) xa xc xs hokx (hrx.more hC (fun _ h => h)) (by omega) hv).mono ?_) rfl
 rintro e w62 ⟨D, oa, oc, out, hD, rfl, hoko, hro, hdel, hv⟩
 refine ⟨_, rfl, ?_⟩
 simp only [zP, po]
 refine xM (.tuple #[.slice oa out.length oc, vI ((y.val.texts.length : Int) - (out.length : Int))]) rfl (xG (.slice oa out.length oc) rfl (ex_extract rfl rfl rfl) ?_)
 refine xG (vI ((y.val.texts.length : Int) - (out.length : Int))) rfl (ex_extract rfl rfl rfl) ?_
 simp only [zP, po]
 refine xA (.slice oa out.length oc) rfl (xA (vI ((y.val.texts.length : Int) - (out.length : Int))) rfl ?_)
 simp only [zP, po]
 refine wK k33 (sK fun _ k63 => ?_)
 refine sK fun _ k64 => rL (xM (vI ec) rfl ?_)
 by_cases hb65 : ec = 0
 ·refine xG (.bool true) rfl (ex_eql rfl rfl rfl (qT hb65)) (xM (.bool true) rfl ?_)
  simp only [zP, po]
  refine xM (vI ((y.val.texts.length : Int) - (out.length : Int))) rfl ?_
  by_cases hb66 : ((y.val.texts.length : Int) - (out.length : Int)) > 0
  ·refine xG (.bool true) rfl (ex_gtr rfl rfl rfl (qT hb66)) (xK true (.bool true) rfl ?_)
   simp only [zP, po]
   refine wK k64 (cT rfl ?_)
   refine rW mixed [7] [0,1,2,3,4,5,6,7,8] 60 rfl (by kernel_rfl) hv ?_
   simp only [qm, opAt]
   refine dL (.agg #[vP v, .slice (some ⟨ab, ao, none⟩) args.length ac]) rfl (fun hv => ex_load rfl rfl (lM 4 c1wd73 hv rfl rfl rfl rfl)) (dG (.pointer (some ⟨b2, 1, none⟩)) rfl (ex_field rfl rfl (c1fa73_1 _ _ _)) ?_)
   refine dL _ rfl (fun hv => ex_load rfl rfl (run_load1 s1na22 (hv.load 4 1 rfl rfl))) ?_
   simp only [zP, po]
   refine dG (.pointer (some ⟨ab, ao + 0, none⟩)) rfl (ex_index rfl rfl rfl (run_idx1 (k := 0) Tryz.underlying22 s9es22 (by omega))) (dL _ rfl (fun hv => ex_load rfl rfl (run_load1 s9na9 (hrdkey _ _ _ (hC.trans hD) no_res hv 0 _ rfl))) ?_)
   refine dL (.agg #[vI y.stamp, .bool y.gone, vI y.expire, vI y.val.kind, vS y.val.text, .slice pa pn pc, .slice sa y.val.texts.length sc, .slice za zn zc]) rfl (fun hv => ex_load rfl rfl (lM 0 x0wd85 hv rfl rfl rfl rfl)) ?_
   simp only [zP, po]
   refine dM (.slice oa out.length oc) rfl (dS rfl fun w67 hv => ?_)
   replace hv := hv.front 2 rfl
   simp only [eS, eZ] at hv
   replace hv := hv.front 2 rfl
   simp only [eS, eZ] at hv
   refine mC c1callable44 rfl ((csetKeep D _ _ v t m s p wb va vc sv clk es M (hM.more (hC.trans hD)) hO (some ⟨ab, ao, none⟩) ac args.length key y _ _ _ (hyv.more hD) oa oc out hro hoko (by have h9 : out.length ≤ y.val.texts.length := (by rw [hdel]; exact List.length_filter_le _ _); omega) hv).mono ?_) rfl
   rintro e w68 ⟨E, es', M', ec3, hE, rfl, hM', hkp, hv⟩
   refine ⟨_, rfl, dW hv ?_⟩
   refine dA (vI ec3) rfl (dE fun w69 hv => ?_)
   simp only [zP, po]
   refine tK k63 (sK fun _ k70 => ?_)
   refine rL (xM (vI ec3) rfl ?_)
   refine xM (vI ((y.val.texts.length : Int) - (out.length : Int))) rfl (xC c1callable45 rfl ((respInt E _ _ ((y.val.texts.length : Int) - (out.length : Int)) hv).mono ?_) rfl)
   rintro e w71 ⟨rfl, hv⟩
   refine ⟨_, rfl, ?_⟩
   simp only [zP, po]
   refine xC c1callable42 rfl ((viewDone E _ _ ec3 2 ((y.val.texts.length : Int) - (out.length : Int)) ([] : List UInt8) (vN) rfl rfl hv).mono ?_) rfl
   rintro e w72 ⟨xr, hxr, rfl, hv⟩
   refine ⟨_, rfl, ?_⟩
   rcases hxr with ⟨hec0, rfl⟩ | ⟨hec0, s73, rfl⟩
   ·refine xS 3 rfl hv rssz28 rfl (by exact ⟨rfl, rfl, rfl, rfl, trivial⟩) (fun w74 hv => ?_)
    simp only [zS, zO, sp] at hv
    simp only [zP, po]
    refine wK k70 (rR ?_)
    refine bC 3 rswd28 hv rfl rfl rfl rfl (⟨E, es', M', rInt ((y.val.texts.length : Int) - (out.length : Int)), rpCells 2 [] ((y.val.texts.length : Int) - (out.length : Int)) (vN), ((hC.trans hD).trans hE), rfl, rpAt_leaf, hM'.more (Base.Le.refl _), hO.keep hkp, ⟨y, 0, by rw [← hec00]; exact hof, .inr ⟨rfl, out, ((y.val.texts.length : Int) - (out.length : Int)), 0, by rw [if_neg (by rw [hc35]; decide)]; exact ⟨hdel, rfl, rfl⟩, .inl ⟨rfl, by omega, ec3, hkp, .inl ⟨by omega, rfl⟩⟩⟩⟩, (hv.kp [1, 1] 2 3)⟩)
   refine xS 3 rfl hv rssz28 rfl (by exact ⟨rfl, rfl, rfl, rfl, trivial⟩) (fun w75 hv => ?_)
   simp only [zS, zO, sp] at hv
   simp only [zP, po]
   refine wK k70 (rR ?_)
   refine bC 3 rswd28 hv rfl rfl rfl rfl (⟨E, es', M', rFault s73, rpCells 1 s73 0 (vN), ((hC.trans hD).trans hE), rfl, rpAt_leaf, hM'.more (Base.Le.refl _), hO.keep hkp, ⟨y, 0, by rw [← hec00]; exact hof, .inr ⟨rfl, out, ((y.val.texts.length : Int) - (out.length : Int)), 0, by rw [if_neg (by rw [hc35]; decide)]; exact ⟨hdel, rfl, rfl⟩, .inl ⟨rfl, by omega, ec3, hkp, .inr ⟨by omega, rfl⟩⟩⟩⟩, (hv.kp [1, 1] 2 3)⟩)
  refine xG (.bool false) rfl (ex_gtr rfl rfl rfl (qF hb66)) (xK true (.bool false) rfl ?_)
  simp only [zP, po]
  refine wK k64 (cF rfl ?_)
  refine kS (tK k63 ?_)
  refine sK fun _ k76 => rL (xM (vI ec) rfl ?_)
  refine xM (vI ((y.val.texts.length : Int) - (out.length : Int))) rfl (xC c1callable45 rfl ((respInt D _ _ ((y.val.texts.length : Int) - (out.length : Int)) hv).mono ?_) rfl)
  rintro e w77 ⟨rfl, hv⟩
  refine ⟨_, rfl, ?_⟩
  simp only [zP, po]
  refine xC c1callable42 rfl ((viewDone D _ _ ec 2 ((y.val.texts.length : Int) - (out.length : Int)) ([] : List UInt8) (vN) rfl rfl hv).mono ?_) rfl
  rintro e w78 ⟨xr, hxr, rfl, hv⟩
  refine ⟨_, rfl, ?_⟩
  rcases hxr with ⟨hec0, rfl⟩ | ⟨hec0, s79, rfl⟩
  ·refine xS 3 rfl hv rssz28 rfl (by exact ⟨rfl, rfl, rfl, rfl, trivial⟩) (fun w80 hv => ?_)
   simp only [zS, zO, sp] at hv
   simp only [zP, po]
   refine wK k76 (rR ?_)
   refine bC 3 rswd28 hv rfl rfl rfl rfl (⟨D, es, M, rInt ((y.val.texts.length : Int) - (out.length : Int)), rpCells 2 [] ((y.val.texts.length : Int) - (out.length : Int)) (vN), (hC.trans hD), rfl, rpAt_leaf, hM.more (hC.trans hD), hO, ⟨y, 0, by rw [← hec00]; exact hof, .inr ⟨rfl, out, ((y.val.texts.length : Int) - (out.length : Int)), 0, by rw [if_neg (by rw [hc35]; decide)]; exact ⟨hdel, rfl, rfl⟩, .inr ⟨by omega, rfl, .inl ⟨by omega, rfl⟩⟩⟩⟩, (hv.kp [2, 2] 2 3)⟩)
  refine xS 3 rfl hv rssz28 rfl (by exact ⟨rfl, rfl, rfl, rfl, trivial⟩) (fun w81 hv => ?_)
  simp only [zS, zO, sp] at hv
  simp only [zP, po]
  refine wK k76 (rR ?_)
  refine bC 3 rswd28 hv rfl rfl rfl rfl (⟨D, es, M, rFault s79, rpCells 1 s79 0 (vN), (hC.trans hD), rfl, rpAt_leaf, hM.more (hC.trans hD), hO, ⟨y, 0, by rw [← hec00]; exact hof, .inr ⟨rfl, out, ((y.val.texts.length : Int) - (out.length : Int)), 0, by rw [if_neg (by rw [hc35]; decide)]; exact ⟨hdel, rfl, rfl⟩, .inr ⟨by omega, rfl, .inr ⟨by omega, rfl⟩⟩⟩⟩, (hv.kp [2, 2] 2 3)⟩)
 refine xG (.bool false) rfl (ex_eql rfl rfl rfl (qF hb65)) (xM (.bool false) rfl ?_)
 simp only [zP, po]
 iterate 2 refine yN rfl ?_
 refine xK false (.bool false) rfl ?_
 simp only [zP, po]
 refine wK k64 (cF rfl ?_)
 refine kS (tK k63 ?_)
 refine sK fun _ k82 => rL (xM (vI ec) rfl ?_)
 refine xM (vI ((y.val.texts.length : Int) - (out.length : Int))) rfl (xC c1callable45 rfl ((respInt D _ _ ((y.val.texts.length : Int) - (out.length : Int)) hv).mono ?_) rfl)
 rintro e w83 ⟨rfl, hv⟩
 refine ⟨_, rfl, ?_⟩
 simp only [zP, po]
 refine xC c1callable42 rfl ((viewDone D _ _ ec 2 ((y.val.texts.length : Int) - (out.length : Int)) ([] : List UInt8) (vN) rfl rfl hv).mono ?_) rfl
 rintro e w84 ⟨xr, hxr, rfl, hv⟩
 refine ⟨_, rfl, ?_⟩
 rcases hxr with ⟨hec0, rfl⟩ | ⟨hec0, s85, rfl⟩
 ·refine xS 3 rfl hv rssz28 rfl (by exact ⟨rfl, rfl, rfl, rfl, trivial⟩) (fun w86 hv => ?_)
  simp only [zS, zO, sp] at hv
  simp only [zP, po]
  refine wK k82 (rR ?_)
  refine bC 3 rswd28 hv rfl rfl rfl rfl (⟨D, es, M, rInt ((y.val.texts.length : Int) - (out.length : Int)), rpCells 2 [] ((y.val.texts.length : Int) - (out.length : Int)) (vN), (hC.trans hD), rfl, rpAt_leaf, hM.more (hC.trans hD), hO, ⟨y, 0, by rw [← hec00]; exact hof, .inr ⟨rfl, out, ((y.val.texts.length : Int) - (out.length : Int)), 0, by rw [if_neg (by rw [hc35]; decide)]; exact ⟨hdel, rfl, rfl⟩, .inr ⟨by omega, rfl, .inl ⟨by omega, rfl⟩⟩⟩⟩, (hv.kp [2, 2] 2 3)⟩)
 refine xS 3 rfl hv rssz28 rfl (by exact ⟨rfl, rfl, rfl, rfl, trivial⟩) (fun w87 hv => ?_)
 simp only [zS, zO, sp] at hv
 simp only [zP, po]
 refine wK k82 (rR ?_)
 refine bC 3 rswd28 hv rfl rfl rfl rfl (⟨D, es, M, rFault s85, rpCells 1 s85 0 (vN), (hC.trans hD), rfl, rpAt_leaf, hM.more (hC.trans hD), hO, ⟨y, 0, by rw [← hec00]; exact hof, .inr ⟨rfl, out, ((y.val.texts.length : Int) - (out.length : Int)), 0, by rw [if_neg (by rw [hc35]; decide)]; exact ⟨hdel, rfl, rfl⟩, .inr ⟨by omega, rfl, .inr ⟨by omega, rfl⟩⟩⟩⟩, (hv.kp [2, 2] 2 3)⟩)
end Go.Proofs.YtoljdfjnannakaaGreatDoor
/- cset: ask, sets, combined, move. -/
namespace Go.Proofs.YtoljdfjnannakaaGreatDoor
open Go.RowKit Go.Pm
theorem c2al28 (w : World) : (Instr.alloc 28 true (.tuple #[])).run Tryz.prog w = .ok (.pointer (some ⟨w.heap.size, 0, none⟩)) (w.alloc (.cells ([vI 0, vS [], vI 0, vN] : List Value).toArray 28)) := by kernel_rfl
theorem c2al85 (w : World) : (Instr.alloc 85 true (.tuple #[])).run Tryz.prog w = .ok (.pointer (some ⟨w.heap.size, 0, none⟩)) (w.alloc (.cells ([vI 0, .bool false, vI 0, vI 0, vS [], vN, vN, vN] : List Value).toArray 85)) := by kernel_rfl
theorem c2callable66 : Callable Tryz.prog 66 := ⟨_, Tryz.func66, by kernel_rfl, by kernel_rfl⟩
theorem c2callable43 : Callable Tryz.prog 43 := ⟨_, Tryz.func43, by kernel_rfl, by kernel_rfl⟩
set_option maxHeartbeats 8000000 in
theorem csetAsk (B : Base) (H : List Res) (w : World) (v t m s p wb : Nat) (va : Option Addr) (vc : Nat) (sv : Value) (clk : Int) (es : List (List UInt8 × Value)) (M : List (List UInt8 × Ver)) (hM : VM B es M) (hO : OkM M) (aa : Option Addr) (ac : Nat) (args : List (List UInt8)) (hra : RdV B [] aa (textCells args)) (hoka : SliceOk aa args.length ac) (_ : args.length ≤ 10000) (key : List UInt8) (hkey : args[0]? = some key) (name : List UInt8) (hnm : name = nSCARD ∨ name = nSISM ∨ name = nSMEM) (xa : Option Addr) (xc : Nat) (xs : List (List UInt8)) (hrx : RdV B [] xa (textCells xs)) (_ : xs.length ≤ 10000) (hxs1 : name = nSISM → 0 < xs.length) (hv : Inv B (Res.cell v [.iface 62 (vP t)] 39 :: txR t m s p wb va vc sv clk es :: H) w) :
  Calls Tryz.prog 40 #[.agg #[vP v, .slice aa args.length ac], vS name, .slice xa xs.length xc] w fun e w' => ∃ C r cs, B.Le C ∧ e = .returned (.agg cs.toArray) ∧ RpAt C r cs ∧ AskR M clk name key xs r ∧ Inv C (Res.cell v [.iface 62 (vP t)] 39 :: txR t m s p wb va vc sv clk es :: H) w' := by
 refine cW Tryz.func40 rfl Tryz.ntmps40 ?_
 simp only [al]
 refine sK fun _ k1 => ?_
 have hal := (List.getElem?_eq_some_iff.1 hkey).1
 obtain ⟨ab, ao, had, hrdkey⟩ := text_reads hra hkey
 subst had
 refine rL (sl_box (L := [vP v, .slice (some ⟨ab, ao, none⟩) args.length ac]) tV (wn rfl) rfl rfl hv (fun w => by kernel_rfl) (fun b2 w3 hv => ?_))
 refine sl_alloc tV (wn rfl) rfl hv c2al28 (fun b4 w5 hv => ?_)
 simp only [zP, po]
 refine wK k1 (sK fun _ k6 => ?_)
 refine rT mixed (fun az wz => ∃ (C : Base) (y : Ver) (yp yt yz : Value) (ec : Int) (b13 : Nat), (B.Le C) ∧ (ValAt C y.val yp yt yz) ∧ (OfI M clk key 4 y ec) ∧ az = { tmps := #[.agg #[vP v, .slice (some ⟨ab, ao, none⟩) args.length ac], vS name, .slice xa xs.length xc, vP b2, undef, undef, vP b4, vP b13, vI ec, undef, undef, undef, .tuple #[.agg #[vI y.stamp, .bool y.gone, vI y.expire, vI y.val.kind, vS y.val.text, yp, yt, yz], vI ec], vP b2, vP v, .pointer (some ⟨b2, 1, none⟩), .slice (some ⟨ab, ao, none⟩) args.length ac, .pointer (some ⟨ab, ao + 0, none⟩), vS key, .tuple #[.agg #[vI y.stamp, .bool y.gone, vI y.expire, vI y.val.kind, vS y.val.text, yp, yt, yz], vI ec], .agg #[vI y.stamp, .bool y.gone, vI y.expire, vI y.val.kind, vS y.val.text, yp, yt, yz], vI ec, undef, undef, undef, undef, undef, undef, undef, undef, undef, undef, undef, undef, undef, undef, undef, undef, undef, undef, undef, undef, undef, undef, undef, undef, undef, undef, undef, undef, undef, undef, undef, undef, undef, undef, undef, undef, undef, undef, undef, undef, undef, undef, undef, undef, undef, undef, undef, undef, undef], defers := [] } ∧ Inv C (Res.cell b13 [vI y.stamp, .bool y.gone, vI y.expire, vI y.val.kind, vS y.val.text, yp, yt, yz] 85 :: Res.cell v [.iface 62 (vP t)] 39 :: txR t m s p wb va vc sv clk es :: Res.cell b4 [vI 0, vS [], vI 0, vN] 28 :: Res.cell b2 [vP v, .slice (some ⟨ab, ao, none⟩) args.length ac] 73 :: H) wz) [6, 10, 11] [0,1,2,3,4,5] [7,8,9,10,11,12] [6,7,8,9,11,12] 6 10 71 rfl (by kernel_rfl) hv ?_ ?_
 ·intro R2 l1 l2 hR2 hl1 hl2
  simp only [qm, opAt]
  refine tG (vP b2) rfl (ex_field rfl rfl (c1fa73_0 _ _ _)) (tF (vP v) rfl (fun hv => ex_load rfl rfl (run_load1 c1na24 (hv.load 1 0 rfl rfl))) fun f7 hf7 => ?_)
  simp only [zP, po]
  refine tG (.pointer (some ⟨b2, 1, none⟩)) rfl (ex_field rfl rfl (c1fa73_1 _ _ _)) (tF (.slice (some ⟨ab, ao, none⟩) args.length ac) rfl (fun hv => ex_load rfl rfl (run_load1 s1na22 (hv.load 1 1 rfl rfl))) fun f8 hf8 => ?_)
  simp only [zP, po]
  refine tG (.pointer (some ⟨ab, ao + 0, none⟩)) rfl (ex_index rfl rfl rfl (run_idx1 (k := 0) Tryz.underlying22 s9es22 (by omega))) (tF (vS key) rfl (fun hv => ex_load rfl rfl (run_load1 s9na9 (hrdkey _ _ _ (Base.Le.refl _) no_res hv 0 _ rfl))) fun f9 hf9 => ?_)
  simp only [zP, po]
  refine tB ?_ ?_
  ·rw [hl1]; clear hl1 hl2
   simp only [qm, opAt]
   refine dS rfl fun w10 hv => ?_
   replace hv := hv.front 3 rfl
   simp only [eS, eZ] at hv
   replace hv := hv.front 3 rfl
   simp only [eS, eZ] at hv
   refine mC c1callable63 rfl ((viewOf B _ _ v t m s p wb va vc sv clk es M key 4 hM hv).mono ?_) rfl
   rintro e w11 ⟨C, y, yp, yt, yz, ec, hC, rfl, hyv, hof, hv⟩
   refine ⟨_, rfl, dV hv (fK rfl (fK rfl (fK rfl fN))) ?_⟩
   refine dM (.tuple #[.agg #[vI y.stamp, .bool y.gone, vI y.expire, vI y.val.kind, vS y.val.text, yp, yt, yz], vI ec]) rfl (dG (.agg #[vI y.stamp, .bool y.gone, vI y.expire, vI y.val.kind, vS y.val.text, yp, yt, yz]) rfl (ex_extract rfl rfl rfl) ?_)
   simp only [zP, po]
   refine dG (vI ec) rfl (ex_extract rfl rfl rfl) (dS rfl fun w12 hv => ?_)
   refine mem_alloc rfl rfl hv c2al85 (fun b13 w14 hv => ?_)
   refine dV hv (fC (fun ww hv => hf9 ww (ex_load rfl rfl (run_load1 s9na9 (hrdkey _ _ _ hC no_res hv 0 _ rfl)))) (fC (fun ww hv => hf8 ww (ex_load rfl rfl (run_load1 s1na22 (hv.load 4 1 rfl rfl)))) (fC (fun ww hv => hf7 ww (ex_load rfl rfl (run_load1 c1na24 (hv.load 4 0 rfl rfl)))) fN))) (dS rfl fun w15 hv => ?_)
   refine mS 0 rfl hv x0sz85 rfl (by exact ⟨rfl, rfl, rfl, rfl, rfl, hyv.p.one, hyv.t.one, hyv.z.one, trivial⟩) (fun w16 hv => ?_)
   simp only [zO, sp] at hv
   refine dV hv (fK rfl (fK rfl (fK rfl fN))) ?_
   simp only [zP, po]
   refine dA (vI ec) rfl (dE fun wz hv => ?_)
   simp only [zP, po]
   exact hR2 _ _ ⟨C, y, yp, yt, yz, ec, b13, hC, hyv, hof, rfl, (((((hv.front 4 rfl).front 4 rfl).front 4 rfl).front 4 rfl).front 4 rfl)⟩
  rw [hl2]; clear hl1 hl2
  simp only [qm, opAt]
  refine dS rfl fun w17 hv => mem_alloc rfl rfl hv c2al85 (fun b18 w19 hv => ?_)
  refine dV hv (fC (fun ww hv => hf9 ww (ex_load rfl rfl (run_load1 s9na9 (hrdkey _ _ _ (Base.Le.refl _) no_res hv 0 _ rfl)))) (fC (fun ww hv => hf8 ww (ex_load rfl rfl (run_load1 s1na22 (hv.load 2 1 rfl rfl)))) (fC (fun ww hv => hf7 ww (ex_load rfl rfl (run_load1 c1na24 (hv.load 2 0 rfl rfl)))) fN))) (dS rfl fun w20 hv => ?_)
  replace hv := hv.front 4 rfl
  simp only [eS, eZ] at hv
  replace hv := hv.front 4 rfl
  simp only [eS, eZ] at hv
  refine mC c1callable63 rfl ((viewOf B _ _ v t m s p wb va vc sv clk es M key 4 hM hv).mono ?_) rfl
  rintro e w21 ⟨C, y, yp, yt, yz, ec, hC, rfl, hyv, hof, hv⟩
  refine ⟨_, rfl, dV hv (fK rfl (fK rfl (fK rfl fN))) ?_⟩
  refine dM (.tuple #[.agg #[vI y.stamp, .bool y.gone, vI y.expire, vI y.val.kind, vS y.val.text, yp, yt, yz], vI ec]) rfl ?_
  simp only [zP, po]
  refine dG (.agg #[vI y.stamp, .bool y.gone, vI y.expire, vI y.val.kind, vS y.val.text, yp, yt, yz]) rfl (ex_extract rfl rfl rfl) (dG (vI ec) rfl (ex_extract rfl rfl rfl) ?_)
  refine dS rfl fun w22 hv => mS 2 rfl hv x0sz85 rfl (by exact ⟨rfl, rfl, rfl, rfl, rfl, hyv.p.one, hyv.t.one, hyv.z.one, trivial⟩) (fun w23 hv => ?_)
  simp only [zS, zO, sp] at hv
  refine dV hv (fK rfl (fK rfl (fK rfl fN))) ?_
  simp only [zP, po]
  refine dA (vI ec) rfl (dE fun wz hv => ?_)
  simp only [zP, po]
  exact hR2 _ _ ⟨C, y, yp, yt, yz, ec, b18, hC, hyv, hof, rfl, (((((hv.front 4 rfl).front 4 rfl).front 3 rfl).front 3 rfl).front 4 rfl)⟩
 rintro _ w24 ⟨C, y, yp, yt, yz, ec, b13, hC, hyv, hof, rfl, hv⟩
 obtain ⟨pa, pc, za, zc, pn, zn, sa, sc, rfl, rfl, rfl, hoks, hrs⟩ : ∃ pa pc za zc pn zn sa sc, yp = .slice pa pn pc ∧ yz = .slice za zn zc ∧ yt = .slice sa y.val.texts.length sc ∧ SliceOk sa y.val.texts.length sc ∧ RdV C [] sa (textCells y.val.texts) := by
  obtain ⟨⟨a1, c1, h1, -⟩, ⟨a2, c2, h2, h3, h4⟩, ⟨a3, c3, h5, -⟩, -⟩ := hyv
  exact ⟨_, _, _, _, _, _, _, _, h1, h5, h2, h3, h4⟩
 refine tK k6 (sK fun _ k25 => ?_)
 refine sK fun _ k26 => rL (xM (vI ec) rfl ?_)
 by_cases hb27 : ec ≠ 0
 ·refine xG (.bool true) rfl (ex_neq rfl rfl rfl (qT hb27)) ?_
  simp only [zP, po]
  refine wK k26 (cT rfl ?_)
  refine sK fun _ k28 => rL (xM (vI ec) rfl ?_)
  refine xC rscallable24 rfl ((viewWrong C _ _ ec hv).mono ?_) rfl
  rintro e w30 ⟨s29, rfl, hv⟩
  refine ⟨_, rfl, ?_⟩
  refine xS 3 rfl hv rssz28 rfl (by exact ⟨rfl, rfl, rfl, rfl, trivial⟩) (fun w31 hv => ?_)
  simp only [zS, zO, sp] at hv
  simp only [zP, po]
  refine wK k28 (rR ?_)
  refine tR (bC 3 rswd28 hv rfl rfl rfl rfl ?_)
  exact ⟨C, rFault s29, rpCells 1 s29 0 (vN), hC, rfl, rpAt_leaf, ⟨y, ec, hof, .inl ⟨hb27, rfl⟩⟩, (hv.kp [2, 2] 2 3)⟩
 refine xG (.bool false) rfl (ex_neq rfl rfl rfl (qF hb27)) ?_
 simp only [zP, po]
 refine wK k26 (cF rfl ?_)
 refine kS (tK k25 ?_)
 refine sK fun _ k32 => sK fun _ k33 => rL (xM (vS name) rfl ?_)
 simp only [zP, po]
 refine wK k33 (bB ?_)
 refine sK fun _ k34 => rL ?_
 by_cases hb35 : name = ([83, 67, 65, 82, 68] : List UInt8)
 ·refine xG (.bool true) rfl (ex_seql rfl rfl rfl (qT hb35)) (xA (.bool true) rfl ?_)
  simp only [zP, po]
  refine wK k34 (cT rfl ?_)
  refine sK fun _ k36 => rL (xF (.pointer (some ⟨b13, 3, none⟩)) rfl (x2fa85_3 _ _ _) ?_)
  refine xF (.pointer (some ⟨b13, 6, none⟩)) rfl (s1fa78_3 _ _ _) (xL _ rfl (run_load1 s1na22 (hv.load 0 6 rfl rfl)) ?_)
  simp only [zP, po]
  refine xG (vI (y.val.texts.length : Int)) rfl (ex_len0 Tryz.underlying22 rfl rfl) (xC c1callable45 rfl ((respInt C _ _ (y.val.texts.length : Int) hv).mono ?_) rfl)
  rintro e w37 ⟨rfl, hv⟩
  refine ⟨_, rfl, ?_⟩
  refine xS 3 rfl hv rssz28 rfl (by exact ⟨rfl, rfl, rfl, rfl, trivial⟩) (fun w38 hv => ?_)
  simp only [zS, zO, sp] at hv
  simp only [zP, po]
  refine wK k36 (rR ?_)
  refine bZ (tR ?_)
  refine bC 3 rswd28 hv rfl rfl rfl rfl ?_
  obtain rfl : ec = 0 := by omega
  exact ⟨C, rInt (y.val.texts.length : Int), rpCells 2 [] (y.val.texts.length : Int) (vN), hC, rfl, rpAt_leaf, ⟨y, 0, hof, .inr ⟨rfl, .inl ⟨hb35, rfl⟩⟩⟩, (hv.kp [2, 2] 2 3)⟩
 refine xG (.bool false) rfl (ex_seql rfl rfl rfl (qF hb35)) (xA (.bool false) rfl ?_)
 simp only [zP, po]
 refine wK k34 (cF rfl ?_)
 refine sK fun _ k39 => rL ?_
 by_cases hb40 : name = ([83, 73, 83, 77, 69, 77, 66, 69, 82] : List UInt8)
 ·refine xG (.bool true) rfl (ex_seql rfl rfl rfl (qT hb40)) (xA (.bool true) rfl ?_)
  simp only [zP, po]
  refine wK k39 (cT rfl ?_)
  refine sK fun _ k41 => ?_
  have hxl := hxs1 hb40
  obtain ⟨x, hx⟩ : ∃ x, xs[0]? = some x := ⟨_, List.getElem?_eq_getElem (show 0 < xs.length by omega)⟩
  obtain ⟨bb, bo, had, hrdx⟩ := text_reads hrx hx
  subst had
  refine rW mixed [6, 7, 8] [0,1,2,3,4,5,6,7,8] 71 rfl (by kernel_rfl) hv ?_
  simp only [qm, opAt]
  refine dG (.pointer (some ⟨b13, 3, none⟩)) rfl (ex_field rfl rfl (x2fa85_3 _ _ _)) (dG (.pointer (some ⟨b13, 6, none⟩)) rfl (ex_field rfl rfl (s1fa78_3 _ _ _)) ?_)
  refine dL _ rfl (fun hv => ex_load rfl rfl (run_load1 s1na22 (hv.load 0 6 rfl rfl))) ?_
  simp only [zP, po]
  refine dM (.slice (some ⟨bb, bo, none⟩) xs.length xc) rfl (dG (.pointer (some ⟨bb, bo + 0, none⟩)) rfl (ex_index rfl rfl rfl (run_idx1 (k := 0) Tryz.underlying22 s9es22 (by omega))) ?_)
  refine dL _ rfl (fun hv => ex_load rfl rfl (run_load1 s9na9 (hrdx _ _ _ hC no_res hv 0 _ rfl))) ?_
  simp only [zP, po]
  refine dS rfl fun w42 hv => mC t3callable67 rfl ((setHas C _ _ sa sc y.val.texts x (hrs.more (Base.Le.refl _) (fun _ h => h)) (by have := (hO.set hof).1; omega) (hO.sorted hof) hv).mono ?_) rfl
  rintro e w43 ⟨rfl, hv⟩
  refine ⟨_, rfl, dW hv ?_⟩
  refine dS rfl fun w44 hv => mC c2callable66 rfl ((csetTruth C _ _ (decide (x ∈ y.val.texts)) hv).mono ?_) rfl
  rintro e w45 ⟨rfl, hv⟩
  refine ⟨_, rfl, dW hv ?_⟩
  refine dS rfl fun w46 hv => mS 3 rfl hv rssz28 rfl (by exact ⟨rfl, rfl, rfl, rfl, trivial⟩) (fun w47 hv => ?_)
  simp only [zS, zO, sp] at hv
  refine dW hv (dE fun w48 hv => ?_)
  simp only [zP, po]
  refine tK k41 (rR ?_)
  refine bZ (tR ?_)
  refine bC 3 rswd28 hv rfl rfl rfl rfl ?_
  obtain rfl : ec = 0 := by omega
  exact ⟨C, rInt (if decide (x ∈ y.val.texts) then 1 else 0), rpCells 2 [] (if decide (x ∈ y.val.texts) then 1 else 0) (vN), hC, rfl, rpAt_leaf, ⟨y, 0, hof, .inr ⟨rfl, .inr (.inl ⟨hb40, x, hx, rfl⟩)⟩⟩, (hv.kp [2, 2] 2 3)⟩
 refine xG (.bool false) rfl (ex_seql rfl rfl rfl (qF hb40)) (xA (.bool false) rfl ?_)
 simp only [zP, po]
 refine wK k39 (cF rfl ?_)
 refine sK fun _ k49 => rL ?_
 by_cases hb50 : name = ([83, 77, 69, 77, 66, 69, 82, 83] : List UInt8)
 ·refine xG (.bool true) rfl (ex_seql rfl rfl rfl (qT hb50)) (xA (.bool true) rfl ?_)
  simp only [zP, po]
  refine wK k49 (cT rfl ?_)
  refine sK fun _ k51 => rL (xF (.pointer (some ⟨b13, 3, none⟩)) rfl (x2fa85_3 _ _ _) ?_)
  refine xF (.pointer (some ⟨b13, 6, none⟩)) rfl (s1fa78_3 _ _ _) (xL _ rfl (run_load1 s1na22 (hv.load 0 6 rfl rfl)) ?_)
  simp only [zP, po]
  refine xC c2callable43 rfl ((respStrs C _ _ sa sc y.val.texts (hrs.more (Base.Le.refl _) (fun _ h => h)) (by have := (hO.set hof).1; omega) hv).mono ?_) rfl
  rintro e w52 ⟨D, lv, hD, rfl, hrp, hv⟩
  refine ⟨_, rfl, ?_⟩
  refine xS 3 rfl hv rssz28 rfl (by exact ⟨rfl, rfl, rfl, hrp.lv.2, trivial⟩) (fun w53 hv => ?_)
  simp only [zS, zO, sp] at hv
  simp only [zP, po]
  refine wK k51 (rR ?_)
  refine bZ (tR ?_)
  refine bC 3 rswd28 hv rfl rfl rfl rfl ?_
  obtain rfl : ec = 0 := by omega
  exact ⟨D, rStrs y.val.texts, rpCells 5 [] 0 lv, (hC.trans hD), rfl, hrp, ⟨y, 0, hof, .inr ⟨rfl, .inr (.inr (.inl ⟨hb50, rfl⟩))⟩⟩, (hv.kp [2, 2] 2 3)⟩
 exfalso; exact hnm.elim hb35 (fun h9 => h9.elim hb40 hb50)
end Go.Proofs.YtoljdfjnannakaaGreatDoor
