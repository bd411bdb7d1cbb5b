/- A region that draws its order, its values told, over resources. -/
import Derived.Test.YtffmbdagjpdieaaGreatDoorSlRange
namespace Go.Pm
open Go.RowKit

def mixV (mem : List Nat) (vals : List Value) : Nat → List Value → List Value
  | i, v :: vs => (if mem.contains i then vals.getD (place mem i) undef else v) :: mixV mem vals (i + 1) vs
  | _, [] => []
theorem putAll_mix (mem : List Nat) (vals : List Value) : ∀ (os : List Oper) (VS vs : List Value) (i : Nat) (a : Act), VS.length = os.length → vs.length = os.length → Facts3 mem vals i (VS.map SP.eq) os vs → putAll os vs a = putAll os (mixV mem vals i VS) a
  | [], [], [], _, _, _, _, _ => rfl
  | o :: os, v :: VS, u :: vs, i, a, h1, h2, h3 => by
    obtain ⟨h4, h5⟩ := h3
    have e : a.put o.dst u = a.put o.dst (if mem.contains i then vals.getD (place mem i) undef else v) := by
      cases hd : o.dst with
      | none => rfl
      | some d =>
        have h6 := h4 (by rw [hd]; rfl)
        split at h6
        · rename_i hm; rw [if_pos hm, h6]
        · rename_i hm
          obtain ⟨w, hw⟩ := h6
          rw [if_neg hm, show u = v from hw]
    show putAll os vs (a.put o.dst u) = putAll os (mixV mem vals (i + 1) VS) (a.put o.dst _)
    rw [e]
    exact putAll_mix mem vals os VS vs (i + 1) _ (by simpa using h1) (by simpa using h2) h5
  | [], _ :: _, _, _, _, h, _, _ => by simp at h
  | _ :: _, [], _, _, _, h, _, _ => by simp at h
  | [], [], _ :: _, _, _, _, h, _ => by simp at h
  | _ :: _, _ :: _, [], _, _, _, h, _ => by simp at h
section
variable {n : Nat} {P : Program} {ops : Array Oper} {Q : Exit → Act → World → Prop} {a0 : Act} {w0 : World}
theorem add_step' {c : Bool} {p q : Prop} (hc : c = false) (h : q) : if c = true then p else q := by subst hc; exact h
theorem mem_step' {c : Bool} {p q : Prop} (hc : c = true) (h : p) : if c = true then p else q := by subst hc; exact h
theorem region_detR {l id : Nat} (hm : P.follows .mixedOrders = true) (hno : ¬ LetsOut Q) (VS : List Value) (mem : List Nat) (J : List Value → World → Prop) (k : Nat) (hsize : a0.tmps.size = k)
    (hck : (backward ops && onceDst ops && fitsDst ops k && decide mem.Nodup && chained ops mem && mem.all (· < ops.size) && decide (VS.length = ops.size)) = true) (hd : ops.all (fun o => !isDefer o) = true)
    (h0 : J [] w0) (hJ : ∀ vals w w', J vals w → Ext w w' → J vals w')
    (hop : AllOps (fun i o => ∀ a w vals, J vals w → Ready3 ops (VS.map SP.eq) mem a0 a w vals i → if mem.contains i then (vals.length = place mem i → StepMem P ops J Q o a w vals) else StepAdds P ops (VS.map SP.eq) Q i o a w) 0 ops.toList)
    (hfin : ∀ w vals, vals.length = mem.length → J vals w → Q .normal (putAll ops.toList (mixV mem vals 0 VS) a0) w) : (Code.region id ops true).wpIn (Fence.wide.inRound l) n P Q a0 w0 := by
  have hck2 := hck
  rw [Bool.and_eq_true] at hck2
  refine wpIn_region_chain hm hno (VS.map SP.eq) mem J k hsize hck2.1 hd h0 hJ hop (fun vs w vals h1 h2 h3 h4 => ?_)
  rw [putAll_mix mem vals ops.toList VS vs 0 a0 (by simpa using of_decide_eq_true hck2.2) (by simpa using h1) h4]
  exact hfin w vals h2 h3
theorem region_det {id : Nat} (hm : P.follows .mixedOrders = true) (VS : List Value) (mem : List Nat) (J : List Value → World → Prop) (k : Nat) (hsize : a0.tmps.size = k)
    (hck : (backward ops && onceDst ops && fitsDst ops k && decide mem.Nodup && chained ops mem && mem.all (· < ops.size) && decide (VS.length = ops.size)) = true)
    (h0 : J [] w0) (hJ : ∀ vals w w', J vals w → Ext w w' → J vals w')
    (hop : AllOps (fun i o => ∀ a w vals, J vals w → Ready3 ops (VS.map SP.eq) mem a0 a w vals i → if mem.contains i then (vals.length = place mem i → StepMem P ops J Q o a w vals) else StepAdds P ops (VS.map SP.eq) Q i o a w) 0 ops.toList)
    (hfin : ∀ w vals, vals.length = mem.length → J vals w → Q .normal (putAll ops.toList (mixV mem vals 0 VS) a0) w) : (Code.region id ops true).wpIn Fence.wide n P Q a0 w0 := by
  have hck2 := hck
  rw [Bool.and_eq_true] at hck2
  refine wpIn_wide.2 (wp_region_chain hm (VS.map SP.eq) mem J k hsize hck2.1 h0 hJ hop (fun vs w vals h1 h2 h3 h4 => ?_))
  rw [putAll_mix mem vals ops.toList VS vs 0 a0 (by simpa using of_decide_eq_true hck2.2) (by simpa using h1) h4]
  exact hfin w vals h2 h3
end
theorem Ready3.v {ops : Array Oper} {VS : List Value} {mem : List Nat} {a0 a : Act} {w : World} {vals : List Value} {i : Nat} (hR : Ready3 ops (VS.map SP.eq) mem a0 a w vals i) (j d : Nat) (h1 : ahead ops j i = true) (h2 : (ops[j]?).bind (·.dst) = some d) (h3 : mem.contains j = false) {v : Value} (hv : VS[j]? = some v) : a.tmps.getD d undef = v := by
  obtain ⟨w', h⟩ := hR.old j d h1 h2 h3
  unfold nth at h
  rw [List.getD_eq_getElem?_getD, List.getElem?_map, hv] at h
  exact h
/-- the resources, stage by stage -/
def JI (B : Base) (Hs : List (List Res)) (VM : List Value) (vals : List Value) (w : World) : Prop := Inv B (Hs.getD vals.length []) w ∧ vals = VM.take vals.length
theorem JI.ext {B : Base} {Hs : List (List Res)} {VM : List Value} : ∀ vals w w', JI B Hs VM vals w → Ext w w' → JI B Hs VM vals w' := fun _ _ _ h he => ⟨Pm.Inv.ext h.1 he, h.2⟩
theorem JI.at0 {B : Base} {Hs : List (List Res)} {VM : List Value} {vals : List Value} {w : World} (h : JI B Hs VM vals w) {k : Nat} (hk : vals.length = k) : Inv B (Hs.getD k []) w := by subst hk; exact h.1
theorem JI.next {B : Base} {Hs : List (List Res)} {VM : List Value} {vals : List Value} {v : Value} {w w1 : World} {k : Nat} (h0 : JI B Hs VM vals w1) (hk : vals.length = k) (hv : VM[k]? = some v) (h : Inv B (Hs.getD (k + 1) []) w) : JI B Hs VM (vals ++ [v]) w := by
  subst hk
  refine ⟨?_, ?_⟩
  · show Inv B (Hs.getD (vals ++ [v]).length []) w
    rw [List.length_append]
    exact h
  · rw [List.length_append, List.length_singleton, List.take_add_one, ← h0.2, hv]
    rfl
theorem Ready3.mv {ops : Array Oper} {VS VM : List Value} {mem : List Nat} {a0 a : Act} {w : World} {vals : List Value} {i : Nat} {B : Base} {Hs : List (List Res)} (hR : Ready3 ops (VS.map SP.eq) mem a0 a w vals i) (hJ : JI B Hs VM vals w) (j d : Nat) (h1 : ahead ops j i = true) (h2 : (ops[j]?).bind (·.dst) = some d) (h3 : mem.contains j = true) {v : Value} (hv : VM[place mem j]? = some v) : a.tmps.getD d undef = v := by
  rw [hR.val j d h1 h2 h3]
  have hm : j ∈ mem := by simpa using h3
  have hl := hR.lo j hm h1
  have e : vals[place mem j]? = VM[place mem j]? := by
    conv => lhs; rw [hJ.2]
    rw [List.getElem?_take_of_lt hl]
  rw [List.getD_eq_getElem?_getD, e, hv]
  rfl
theorem mixV_self (mem : List Nat) (VS : List Value) : ∀ (i : Nat) (l : List Value), (∀ j v, l[j]? = some v → VS[i + j]? = some v) → mixV mem (mem.map (fun k => VS.getD k undef)) i l = l
  | _, [], _ => rfl
  | i, v :: l, h => by
    have h0 := h 0 v (by simp)
    show (if mem.contains i then _ else v) :: mixV mem _ (i + 1) l = v :: l
    rw [mixV_self mem VS (i + 1) l (fun j u hu => by have := h (j + 1) u (by simpa using hu); rwa [show i + (j + 1) = i + 1 + j by omega] at this)]
    congr 1
    split
    · rename_i hc
      have hm : i ∈ mem := by simpa using hc
      have hl : place mem i < mem.length := place_lt hm
      rw [List.getD_eq_getElem?_getD, List.getElem?_map, List.getElem?_eq_getElem hl]
      have : mem[place mem i] = i := List.getElem_idxOf hl
      simp only [Option.map_some, Option.getD_some, this]
      rw [List.getD_eq_getElem?_getD, show VS[i]? = some v by simpa using h0]
      rfl
    · rfl
section
variable {n : Nat} {P : Program} {ops : Array Oper} {Q : Exit → Act → World → Prop} {a0 : Act} {w0 : World}
theorem region_detVR {l id : Nat} (hm : P.follows .mixedOrders = true) (hno : ¬ LetsOut Q) (VS : List Value) (mem : List Nat) (B : Base) (Hs : List (List Res)) (k : Nat) (hsize : a0.tmps.size = k)
    (hck : (backward ops && onceDst ops && fitsDst ops k && decide mem.Nodup && chained ops mem && mem.all (· < ops.size) && decide (VS.length = ops.size)) = true) (hd : ops.all (fun o => !isDefer o) = true)
    (h0 : Inv B (Hs.getD 0 []) w0)
    (hop : AllOps (fun i o => ∀ a w vals, JI B Hs (mem.map (fun k => VS.getD k undef)) vals w → Ready3 ops (VS.map SP.eq) mem a0 a w vals i → if mem.contains i then (vals.length = place mem i → StepMem P ops (JI B Hs (mem.map (fun k => VS.getD k undef))) Q o a w vals) else StepAdds P ops (VS.map SP.eq) Q i o a w) 0 ops.toList)
    (hfin : ∀ w, Inv B (Hs.getD mem.length []) w → Q .normal (putAll ops.toList VS a0) w) : (Code.region id ops true).wpIn (Fence.wide.inRound l) n P Q a0 w0 := by
  refine region_detR hm hno VS mem _ k hsize hck hd ⟨h0, by simp⟩ JI.ext hop (fun w vals hvl hJ => ?_)
  have hv : vals = mem.map (fun k => VS.getD k undef) := by rw [hJ.2, hvl]; exact List.take_of_length_le (by simp)
  have := hfin w (hJ.at0 hvl)
  rw [hv, mixV_self mem VS 0 VS (fun j v h => by simpa using h)]
  exact this
theorem region_detV {id : Nat} (hm : P.follows .mixedOrders = true) (VS : List Value) (mem : List Nat) (B : Base) (Hs : List (List Res)) (k : Nat) (hsize : a0.tmps.size = k)
    (hck : (backward ops && onceDst ops && fitsDst ops k && decide mem.Nodup && chained ops mem && mem.all (· < ops.size) && decide (VS.length = ops.size)) = true)
    (h0 : Inv B (Hs.getD 0 []) w0)
    (hop : AllOps (fun i o => ∀ a w vals, JI B Hs (mem.map (fun k => VS.getD k undef)) vals w → Ready3 ops (VS.map SP.eq) mem a0 a w vals i → if mem.contains i then (vals.length = place mem i → StepMem P ops (JI B Hs (mem.map (fun k => VS.getD k undef))) Q o a w vals) else StepAdds P ops (VS.map SP.eq) Q i o a w) 0 ops.toList)
    (hfin : ∀ w, Inv B (Hs.getD mem.length []) w → Q .normal (putAll ops.toList VS a0) w) : (Code.region id ops true).wpIn Fence.wide n P Q a0 w0 := by
  refine region_det hm VS mem _ k hsize hck ⟨h0, by simp⟩ JI.ext hop (fun w vals hvl hJ => ?_)
  have hv : vals = mem.map (fun k => VS.getD k undef) := by rw [hJ.2, hvl]; exact List.take_of_length_le (by simp)
  have := hfin w (hJ.at0 hvl)
  rw [hv, mixV_self mem VS 0 VS (fun j v h => by simpa using h)]
  exact this
end
end Go.Pm
