/- A map of one's own whose keys are texts and whose elements are numbers: which keys it has. -/
import Derived.Test.YtmhdpjifhfoabaaGreatDoorClNamB
import Derived.Test.YtmhdpjifhfoabaaGreatDoorRows
import Derived.MapKept
import Derived.LaidEqlPtr
set_option maxRecDepth 100000
set_option maxHeartbeats 16000000
set_option synthInstance.maxSize 4096
set_option synthInstance.maxHeartbeats 400000
namespace Go.Pm
open Go.RowKit
def Res.keys (b : Nat) (ks : List (List UInt8)) (m : Int) : Res where
 fp := [b]
 holds w := ∃ (es : Array MapEntry) (clock : Nat), w.heap[b]? = some (.map es clock) ∧ es.toList.map (·.key) = ks.map strV ∧ ∀ e ∈ es.toList, ∃ c : Int, e.val = .int .i64 c ∧ 0 ≤ c ∧ c ≤ m
 stab w w' h := by
  rintro ⟨es, clock, h1, h2, h3⟩
  exact ⟨es, clock, (h b (by simp)).trans h1, h2, h3⟩
theorem strV_beq (a b : List UInt8) : ((⟨a.toArray⟩ : ByteArray) == ⟨b.toArray⟩) = decide (a = b) := by
 show (a.toArray == b.toArray) = _
 by_cases h : a = b
 ·subst h; simp
 rw [decide_eq_false h]
 exact beq_eq_false_iff_ne.2 fun e => h (by simpa using e)
theorem findNow_str (k : List UInt8) : ∀ (es : List MapEntry) (ks : List (List UInt8)) (n : Nat), es.map (·.key) = ks.map strV →
  (k ∉ ks ∧ Instr.findNow .string (strV k) es n = some none) ∨ (k ∈ ks ∧ ∃ i e, es[i]? = some e ∧ e.key = strV k ∧ Instr.findNow .string (strV k) es n = some (some (n + i, e.val)))
 | [], [], n, _ => .inl ⟨by simp, rfl⟩
 | e :: es, k' :: ks, n, h => by
  simp only [List.map_cons, List.cons.injEq] at h
  obtain ⟨h1, h2⟩ := h
  have hs : Instr.sameNow .string (strV k) e.key = some (decide (k = k')) := by
   rw [h1]
   show some ((⟨k.toArray⟩ : ByteArray) == ⟨k'.toArray⟩) = _
   rw [strV_beq]
  by_cases hk : k = k'
  ·subst hk
   refine .inr ⟨List.mem_cons_self, 0, e, rfl, h1, ?_⟩
   simp [Instr.findNow, hs]
  rcases findNow_str k es ks (n + 1) h2 with ⟨h3, h4⟩ | ⟨h3, i, e', h4, h5, h6⟩
  ·exact .inl ⟨by simp [hk, h3], by simp [Instr.findNow, hs, hk, h4]⟩
  exact .inr ⟨List.mem_cons_of_mem _ h3, i + 1, e', by simpa using h4, h5, by
   simp only [Instr.findNow, hs, hk, decide_false, h6]
   rw [show n + 1 + i = n + (i + 1) by omega]⟩
 | [], _ :: _, _, h => by simp at h
 | _ :: _, [], _, h => by simp at h
def addKey (ks : List (List UInt8)) (k : List UInt8) : List (List UInt8) := if k ∈ ks then ks else ks ++ [k]
section
variable {P : Program} {t kt et : TypeId} {w : World} {b : Nat} {ks : List (List UInt8)} {m : Int} {k : List UInt8}
theorem check_succ (hk : P.underlying kt = some .string) (n : Nat) (e : Bool) (s : ByteArray) (w : World) : (Instr.checkKey e (n + 1) kt (.string s)).run P w = .ok () w := by
 simp [Instr.checkKey, run_underlying hk]
theorem run_checkStr (hk : P.underlying kt = some .string) (e : Bool) (s : ByteArray) (w : World) : (Instr.checkKey e 10000 kt (.string s)).run P w = .ok () w := by
 exact check_succ hk 9999 e s w
theorem run_findStr (hk : P.underlying kt = some .string) (es : List MapEntry) (r : Option (Nat × Value)) (h : Instr.findNow .string (strV k) es 0 = some r) (w : World) : (Instr.findKey kt (strV k) es).run P w = .ok r w := by
 simp [Instr.findKey, run_underlying hk, h]
theorem run_updStr (ht : P.underlying t = some (.map kt et)) (hk : P.underlying kt = some .string) (h : (Res.keys b ks m).holds w) {c m' : Int} (hc : 0 ≤ c ∧ c ≤ m') (hm : m ≤ m') : ∃ w', (Instr.mapUpdate t (.map (some b)) (strV k) (.int .i64 c)).run P w = .ok () w' ∧ Only [b] w w' ∧ (Res.keys b (addKey ks k) m').holds w' := by
 obtain ⟨es, clock, h1, h2, h3⟩ := h
 have hset : ∀ o : Obj, (setObj b o).run P w = .ok () (w.putObj b o) := fun o => by
  simp [setObj, Sem.run, h1, World.putObj]
 have hnew : ∀ o : Obj, (w.putObj b o).heap[b]? = some o := fun o => by
  have hb := (Array.getElem?_eq_some_iff.1 h1).1
  simp [World.putObj, hb]
 rcases findNow_str k es.toList ks 0 h2 with ⟨h4, h5⟩ | ⟨h4, i, e, h6, h7, h5⟩
 ·refine ⟨_, ?_, Only.putObjL w b (.map (es.push { key := strV k, val := .int .i64 c, born := clock }) (clock + 1)), es.push { key := strV k, val := .int .i64 c, born := clock }, clock + 1, hnew _, ?_, ?_⟩
  ·simp [Instr.mapUpdate, run_underlying ht, getObj, Sem.run, h1, run_checkStr hk, run_findStr hk _ _ h5, hset]
  ·simp [addKey, h4, h2]
  intro e he
  simp only [Array.toList_push, List.mem_append, List.mem_singleton] at he
  rcases he with he | he
  ·obtain ⟨c', q1, q2, q3⟩ := h3 e he
   exact ⟨c', q1, q2, Int.le_trans q3 hm⟩
  exact ⟨c, by rw [he], hc.1, hc.2⟩
 have hi := (List.getElem?_eq_some_iff.1 h6).1
 have hsame : (Instr.keyThatStays e.key (strV k)).run P w = .ok (strV k) w := by
  have hb : Instr.sameBits 10000 (strV k) (strV k) = true := by
   show ((⟨k.toArray⟩ : ByteArray) == ⟨k.toArray⟩) = true
   rw [strV_beq]; simp
  rw [h7]
  simp only [Instr.keyThatStays, hb, if_true]
  rfl
 have hget : ((es[i]?).map (·.key)).getD (strV k) = e.key := by
  rw [← Array.getElem?_toList, h6]; rfl
 refine ⟨_, ?_, Only.putObjL w b (.map (es.modify i fun e => { e with key := strV k, val := .int .i64 c }) clock), es.modify i fun e => { e with key := strV k, val := .int .i64 c }, clock, hnew _, ?_, ?_⟩
 ·rw [Nat.zero_add] at h5
  simp only [Instr.mapUpdate, Sem.run_bind, run_underlying ht, Result.andThen_ok]
  simp [getObj, Sem.run, h1, run_checkStr hk, run_findStr hk _ _ h5, hget, hsame, hset]
 ·rw [addKey, if_pos h4, ← h2]
  apply List.ext_getElem?
  intro j
  simp only [Array.toList_modify, List.getElem?_map, List.getElem?_modify]
  by_cases hj : i = j
  ·subst hj
   rw [h6]; simp [h7]
  simp [hj]
 intro e' he'
 obtain ⟨j, hj⟩ := List.mem_iff_getElem?.1 he'
 simp only [Array.toList_modify, List.getElem?_modify] at hj
 by_cases hij : i = j
 ·subst hij
  rw [h6] at hj
  simp at hj
  exact ⟨c, by rw [← hj], hc.1, hc.2⟩
 simp [hij] at hj
 obtain ⟨c', q1, q2, q3⟩ := h3 e' (List.mem_of_getElem? (by rw [← Array.getElem?_toList] at hj; exact hj))
 exact ⟨c', q1, q2, Int.le_trans q3 hm⟩
end
section
variable {F : Fence} {n : Nat} {P : Program} {ops : Array Oper} {Q : Exit → Act → World → Prop} {a : Act} {w : World} {rest : List Oper} {o : Oper} {B : Base} {H : List Res} {t kt et : TypeId} {x y z : Operand} {b : Nat} {ks : List (List UInt8)} {m : Int} {k : List UInt8}
theorem sl_makeMap (hF : ∀ f, F.fn f) (hg : Region.wanted o (yielded ops a.tmps) = true) (ho : o.op = .makeMap t (some x)) (hx : a.eval x = .int .i64 m) (ht : P.underlying t = some (.map kt et)) (hv : Inv B H w)
  (h : ∀ b w', Inv B (Res.keys b [] 0 :: H) w' → wpListIn F n P ops Q rest (a.put o.dst (.map (some b))) w') : wpListIn F n P ops Q (o :: rest) a w := by
 have hr : (Instr.makeMap t (some (.int .i64 m))).run P w = .ok (.map (some w.heap.size)) (w.alloc (.map #[] 0)) := by
  simp [Instr.makeMap, run_underlying ht, asInt, asIntOf, newObj, Sem.run]
 have hex : Ex P a o w (.map (some w.heap.size)) (w.alloc (.map #[] 0)) := by
  unfold Ex; simp [execOp, ho, hx, hr]
 have hnew : (w.alloc (.map #[] 0)).heap[w.heap.size]? = some (.map #[] 0) := heap_alloc_new w _
 refine wpi_exG hF hg (by unfold isDefer; rw [ho]) hex (h _ _ (hv.new ((Below.refl _ _).alloc (Nat.le_refl _) _) (Res.keys w.heap.size [] 0) ⟨#[], 0, hnew, rfl, fun e he => by simp at he⟩ (fun b hb => ?_) (by simp [Res.keys])))
 have : b = w.heap.size := by simpa [Res.keys] using hb
 subst this
 exact ⟨Nat.le_refl _, (Array.getElem?_eq_some_iff.1 hnew).1⟩
theorem sl_updStr {c m' : Int} (hF : ∀ f, F.fn f) (hg : Region.wanted o (yielded ops a.tmps) = true) (ho : o.op = .mapUpdate t x y z) (hx : a.eval x = .map (some b)) (hy : a.eval y = strV k) (hz : a.eval z = .int .i64 c) (ht : P.underlying t = some (.map kt et)) (hk : P.underlying kt = some .string) (hv : Inv B (Res.keys b ks m :: H) w) (hc : 0 ≤ c ∧ c ≤ m') (hm : m ≤ m')
  (h : ∀ w', Inv B (Res.keys b (addKey ks k) m' :: H) w' → wpListIn F n P ops Q rest (a.put o.dst undef) w') : wpListIn F n P ops Q (o :: rest) a w := by
 obtain ⟨w', h1, h2, h3⟩ := run_updStr (k := k) ht hk hv.head hc hm
 refine wpi_exUG hF hg (by unfold isDefer; rw [ho]) (by unfold ExU; simp [execOp, ho, hx, hy, hz, h1]) (h w' (hv.upd (Res.keys b (addKey ks k) m') h2 h3 (fun b' hb => .inl hb) (fun b' hb => ?_) (by simp [Res.keys])))
 exact Nat.lt_of_lt_of_le (hv.headLt b' hb) h2.size
theorem ex_lenMap (i : Nat) (ht : P.underlying t = some (.map kt et)) (ho : o.op = .call { callee := .builtin .len, args := #[x], argTypes := #[t] }) (hx : a.eval x = .map (some b)) (hv : Inv B H w) (hi : H[i]? = some (Res.keys b ks m)) : Ex P a o w (.int .i64 (ks.length : Int)) w := by
 obtain ⟨es, clock, h1, h2, -⟩ := (hv.get i hi : (Res.keys b ks m).holds w)
 have hl : es.size = ks.length := by have := congrArg List.length h2; simpa using this
 unfold Ex
 simp [execOp, ho, hx, resolve, invoke, builtin, Builtin.len_, run_underlying ht, getObj, Sem.run, h1, goInt, hl]
end
def keysOf (l : List (List UInt8)) : List (List UInt8) := l.foldl addKey []
theorem keysOf_snoc (l : List (List UInt8)) (k : List UInt8) : keysOf (l ++ [k]) = addKey (keysOf l) k := by simp [keysOf]
theorem keysOf_mem (l : List (List UInt8)) : ∀ k, k ∈ keysOf l ↔ k ∈ l := by
 refine snocInd (p := fun l => ∀ k, k ∈ keysOf l ↔ k ∈ l) (fun k => Iff.rfl) (fun l c ih k => ?_) l
 rw [keysOf_snoc, addKey]
 split
 ·rename_i h
  rw [ih] at h
  rw [ih, List.mem_append, List.mem_singleton]
  constructor
  ·exact .inl
  rintro (h2 | rfl)
  ·exact h2
  exact h
 rw [List.mem_append, List.mem_append, ih]
theorem keysOf_len (l : List (List UInt8)) : (keysOf l).length ≤ l.length ∧ ((keysOf l).length = l.length ↔ l.Nodup) := by
 refine snocInd (p := fun l => (keysOf l).length ≤ l.length ∧ ((keysOf l).length = l.length ↔ l.Nodup)) ⟨Nat.le_refl _, by simp [keysOf]⟩ (fun l c ih => ?_) l
 have hn : (l ++ [c]).Nodup ↔ l.Nodup ∧ c ∉ l := by
  rw [List.nodup_append]
  constructor
  ·rintro ⟨h1, -, h2⟩; exact ⟨h1, fun h => h2 c h c (by simp) rfl⟩
  rintro ⟨h1, h2⟩; exact ⟨h1, by simp, fun a ha b hb => by simp at hb; subst hb; intro e; subst e; exact h2 ha⟩
 rw [keysOf_snoc, addKey, List.length_append, hn]
 split
 ·rename_i h
  rw [keysOf_mem] at h
  refine ⟨by simp; omega, ?_⟩
  constructor
  ·intro h2; simp at h2; have := ih.1; omega
  rintro ⟨-, h2⟩; exact absurd h h2
 rename_i h
 rw [keysOf_mem] at h
 rw [List.length_append]
 refine ⟨by simp; exact ih.1, ?_⟩
 simp only [List.length_cons, List.length_nil, Nat.zero_add, Nat.add_right_cancel_iff, ih.2, h, not_false_iff, and_true]
end Go.Pm
namespace Go.Proofs.YtmhdpjifhfoabaaGreatDoor
open Go.RowKit Go.Pm
theorem s9es22 (w : World) : (sizeOf (Tryz.prog.elem 22)).run Tryz.prog w = .ok 1 w := by kernel_rfl
theorem s9na9 (w : World) : (isAgg 9).run Tryz.prog w = .ok false w := by kernel_rfl
theorem indexFuncText (B : Base) (H : List Res) (w : World) (f : FuncId) (cb : Array Value) (ad : Option Addr) (c : Nat) (l : List (List UInt8)) (pr : (List UInt8) → Bool) (hr : RdV B [] ad (textCells l)) (hm : l.length ≤ 1000000) (hcal : Callable Tryz.prog f) (hf : ∀ x ∈ l, ∀ w, Inv B H w → Calls Tryz.prog f (#[vS x] ++ cb) w fun e w' => e = .returned (.bool (pr x)) ∧ Inv B H w') (hv : Inv B H w) :
  Calls Tryz.prog 105 #[.slice ad l.length c, .func (.func f) #[] cb] w fun e w' => ∃ r : Int, e = .returned (vI r) ∧ (0 ≤ r ↔ l.any pr = true) ∧ Inv B H w' := by
 refine cW Tryz.func105 rfl Tryz.ntmps105 ?_
 simp only [al]
 refine sK fun _ k1 => rL (uA rfl ?_)
 refine uW k1 (sK fun _ k2 => ?_)
 refine sK fun _ k3 => rL (uM rfl ?_)
 refine uG (vI (l.length : Int)) rfl (ex_len0 Tryz.underlying22 rfl rfl) (uM rfl ?_)
 refine uW k3 (bB ?_)
 gi_loopw [8] (fun x8 wr => ∃ (i : Nat), x8 = vI i ∧ i ≤ l.length ∧ (∀ j x, j < i → l[j]? = some x → pr x = false) ∧ Inv B H wr) (fun x8 _ => l.length - (intOf x8).toNat)
 case atStart => exact ⟨0, rfl, Nat.zero_le _, fun j x h => by omega, hv⟩
 case round =>
  obtain ⟨i, rfl, hi, hno, hv⟩ := hrel
  refine sK fun _ k5 => rL ?_
  by_cases hb6 : (i : Int) < (l.length : Int)
  ·refine uG (.bool true) rfl (ex_lss rfl rfl rfl (qT hb6)) (uW k5 ?_)
   refine sK fun _ k7 => cT rfl (kS ?_)
   refine tK k7 (sK fun _ k8 => ?_)
   refine bB (sK fun _ k9 => ?_)
   refine rL (uM rfl ?_)
   refine uA rfl (uW k9 ?_)
   refine sK fun _ k10 => ?_
   obtain ⟨x, hx⟩ : ∃ x, l[i]? = some x := ⟨_, List.getElem?_eq_getElem (show i < l.length by omega)⟩
   obtain ⟨bb, bo, had, hrdx⟩ := text_reads hr hx
   subst had
   refine rL (uM rfl ?_)
   refine uM rfl (uM rfl ?_)
   refine uG (.pointer (some ⟨bb, bo + i, none⟩)) rfl (ex_index rfl rfl rfl (run_idx1 (k := i) Tryz.underlying22 s9es22 (by omega))) ?_
   refine uL _ rfl (run_load1 s9na9 (hrdx _ _ _ (Base.Le.refl _) no_res hv 0 _ rfl)) ?_
   refine wpi_callV hcal tV wideC rfl (wn rfl) rfl rfl (args := #[vS x]) (by simp only [List.map_toArray, List.map_cons, List.map_nil]; rfl) ((hf x (List.mem_of_getElem? hx) _ hv).mono ?_)
   rintro e w11 ⟨rfl, hv⟩
   refine ⟨_, rfl, uW k10 ?_⟩
   refine wpIn_cond_split (t := pr x) rfl (fun hc12 => ?_) (fun hc12 => ?_)
   ·refine sK fun _ k13 => rL (uM rfl ?_)
    refine uA rfl (uW k13 ?_)
    refine rR (bZ ?_)
    refine tR (tR ?_)
    refine bZ (tR ?_)
    refine bR rfl rfl (⟨_, rfl, ⟨fun _ => any_of hx (by simpa using hc12), fun _ => by omega⟩, hv⟩)
   refine kS (bN ?_)
   refine tK k8 (rL ?_)
   refine uG (vI ((i + 1 : Nat) : Int)) rfl (ex_add rfl rfl rfl (by rw [i64_in (by omega)]; omega)) (uM rfl ?_)
   refine uZ (then_normal ?_)
   go_roundw
   case rel => exact ⟨i + 1, rfl, by omega, fun j x' hj hx' => (by
      rcases Nat.lt_or_ge j i with h | h
      ·exact hno j x' h hx'
      obtain rfl : j = i := by omega
      rw [hx] at hx'; cases hx'
      simpa using hc12), hv⟩
   case measure => show l.length - (((i + 1 : Nat) : Int)).toNat < l.length - ((i : Int)).toNat; omega
  refine uG (.bool false) rfl (ex_lss rfl rfl rfl (qF hb6)) (uW k5 ?_)
  refine sK fun _ k14 => cF rfl (xE ?_)
  refine tX (tX ?_)
  refine bH (tK k2 ?_)
  refine sK fun _ k15 => rL (uA rfl ?_)
  refine uW k15 (rR ?_)
  refine bR rfl rfl ?_
  obtain rfl : i = l.length := by omega
  exact ⟨_, rfl, ⟨fun h => by omega, fun h => by rw [any_none (fun i x hx => hno i x (List.getElem?_eq_some_iff.1 hx).1 hx)] at h; cases h⟩, hv⟩
theorem s9callable105 : Callable Tryz.prog 105 := cb Tryz.func105 (by kernel_rfl)
theorem containsFuncText (B : Base) (H : List Res) (w : World) (f : FuncId) (cb : Array Value) (ad : Option Addr) (c : Nat) (l : List (List UInt8)) (pr : (List UInt8) → Bool) (hr : RdV B [] ad (textCells l)) (hm : l.length ≤ 1000000) (hcal : Callable Tryz.prog f) (hf : ∀ x ∈ l, ∀ w, Inv B H w → Calls Tryz.prog f (#[vS x] ++ cb) w fun e w' => e = .returned (.bool (pr x)) ∧ Inv B H w') (hv : Inv B H w) :
  Calls Tryz.prog 95 #[.slice ad l.length c, .func (.func f) #[] cb] w fun e w' => e = .returned (.bool (l.any pr)) ∧ Inv B H w' := by
 refine cW Tryz.func95 rfl Tryz.ntmps95 ?_
 simp only [al]
 refine sK fun _ k1 => rL (uA rfl ?_)
 refine uW k1 (sK fun _ k2 => ?_)
 refine rL (uM rfl ?_)
 refine uM rfl ?_
 refine xC s9callable105 rfl ((indexFuncText B H _ f cb ad c l pr hr hm hcal hf hv).mono ?_) rfl
 rintro e w3 ⟨r, rfl, hra, hv⟩
 refine ⟨_, rfl, uG (.bool (decide (r ≥ 0))) rfl (ex_geq rfl rfl rfl rfl) ?_⟩
 refine uA rfl (uW k2 ?_)
 refine rR (bR rfl rfl ?_)
 exact ⟨congrArg (fun b => Ending.returned (Value.bool b)) (by rw [Bool.eq_iff_iff, decide_eq_true_iff]; exact hra), hv⟩
theorem s9es76 (w : World) : (sizeOf (Tryz.prog.elem 76)).run Tryz.prog w = .ok 2 w := by kernel_rfl
theorem s9wd118 : Wide Tryz.prog 118 2 := wide_of (fun w => by kernel_rfl) (by kernel_rfl)
theorem indexFuncMem (B : Base) (H : List Res) (w : World) (f : FuncId) (cb : Array Value) (ad : Option Addr) (c : Nat) (l : List (Int × List UInt8)) (pr : (Int × List UInt8) → Bool) (hr : RdV B [] ad (memCells l)) (hm : l.length ≤ 1000000) (hcal : Callable Tryz.prog f) (hf : ∀ x ∈ l, ∀ w, Inv B H w → Calls Tryz.prog f (#[.agg #[vI x.1, vS x.2]] ++ cb) w fun e w' => e = .returned (.bool (pr x)) ∧ Inv B H w') (hv : Inv B H w) :
  Calls Tryz.prog 229 #[.slice ad l.length c, .func (.func f) #[] cb] w fun e w' => ∃ r : Int, e = .returned (vI r) ∧ (0 ≤ r ↔ l.any pr = true) ∧ Inv B H w' := by
 refine cW Tryz.func229 rfl Tryz.ntmps229 ?_
 simp only [al]
 refine sK fun _ k1 => rL (uA rfl ?_)
 refine uW k1 (sK fun _ k2 => ?_)
 refine sK fun _ k3 => rL (uM rfl ?_)
 refine uG (vI (l.length : Int)) rfl (ex_len0 Tryz.underlying76 rfl rfl) (uM rfl ?_)
 refine uW k3 (bB ?_)
 gi_loopw [8] (fun x8 wr => ∃ (i : Nat), x8 = vI i ∧ i ≤ l.length ∧ (∀ j x, j < i → l[j]? = some x → pr x = false) ∧ Inv B H wr) (fun x8 _ => l.length - (intOf x8).toNat)
 case atStart => exact ⟨0, rfl, Nat.zero_le _, fun j x h => by omega, hv⟩
 case round =>
  obtain ⟨i, rfl, hi, hno, hv⟩ := hrel
  refine sK fun _ k5 => rL ?_
  by_cases hb6 : (i : Int) < (l.length : Int)
  ·refine uG (.bool true) rfl (ex_lss rfl rfl rfl (qT hb6)) (uW k5 ?_)
   refine sK fun _ k7 => cT rfl (kS ?_)
   refine tK k7 (sK fun _ k8 => ?_)
   refine bB (sK fun _ k9 => ?_)
   refine rL (uM rfl ?_)
   refine uA rfl (uW k9 ?_)
   refine sK fun _ k10 => ?_
   obtain ⟨x, hx⟩ : ∃ x, l[i]? = some x := ⟨_, List.getElem?_eq_getElem (show i < l.length by omega)⟩
   obtain ⟨bb, bo, had, hrdx⟩ := mem_reads hr hx
   subst had
   refine rL (uM rfl ?_)
   refine uM rfl (uM rfl ?_)
   refine uG (.pointer (some ⟨bb, bo + i * 2, none⟩)) rfl (ex_index rfl rfl rfl (run_idx (k := i) Tryz.underlying76 s9es76 (by omega))) ?_
   refine uL (.agg #[vI x.1, vS x.2]) rfl (run_loadR (cs := [vI x.1, vS x.2]) s9wd118 (Reads.mid (pre := []) (mid := [vI x.1, vS x.2]) (post := []) hrdx _ _ _ (Base.Le.refl _) no_res hv)) ?_
   refine wpi_callV hcal tV wideC rfl (wn rfl) rfl rfl (args := #[.agg #[vI x.1, vS x.2]]) (by simp only [List.map_toArray, List.map_cons, List.map_nil]; rfl) ((hf x (List.mem_of_getElem? hx) _ hv).mono ?_)
   rintro e w11 ⟨rfl, hv⟩
   refine ⟨_, rfl, uW k10 ?_⟩
   refine wpIn_cond_split (t := pr x) rfl (fun hc12 => ?_) (fun hc12 => ?_)
   ·refine sK fun _ k13 => rL (uM rfl ?_)
    refine uA rfl (uW k13 ?_)
    refine rR (bZ ?_)
    refine tR (tR ?_)
    refine bZ (tR ?_)
    refine bR rfl rfl (⟨_, rfl, ⟨fun _ => any_of hx (by simpa using hc12), fun _ => by omega⟩, hv⟩)
   refine kS (bN ?_)
   refine tK k8 (rL ?_)
   refine uG (vI ((i + 1 : Nat) : Int)) rfl (ex_add rfl rfl rfl (by rw [i64_in (by omega)]; omega)) (uM rfl ?_)
   refine uZ (then_normal ?_)
   go_roundw
   case rel => exact ⟨i + 1, rfl, by omega, fun j x' hj hx' => (by
      rcases Nat.lt_or_ge j i with h | h
      ·exact hno j x' h hx'
      obtain rfl : j = i := by omega
      rw [hx] at hx'; cases hx'
      simpa using hc12), hv⟩
   case measure => show l.length - (((i + 1 : Nat) : Int)).toNat < l.length - ((i : Int)).toNat; omega
  refine uG (.bool false) rfl (ex_lss rfl rfl rfl (qF hb6)) (uW k5 ?_)
  refine sK fun _ k14 => cF rfl (xE ?_)
  refine tX (tX ?_)
  refine bH (tK k2 ?_)
  refine sK fun _ k15 => rL (uA rfl ?_)
  refine uW k15 (rR ?_)
  refine bR rfl rfl ?_
  obtain rfl : i = l.length := by omega
  exact ⟨_, rfl, ⟨fun h => by omega, fun h => by rw [any_none (fun i x hx => hno i x (List.getElem?_eq_some_iff.1 hx).1 hx)] at h; cases h⟩, hv⟩
theorem s9callable229 : Callable Tryz.prog 229 := cb Tryz.func229 (by kernel_rfl)
theorem containsFuncMem (B : Base) (H : List Res) (w : World) (f : FuncId) (cb : Array Value) (ad : Option Addr) (c : Nat) (l : List (Int × List UInt8)) (pr : (Int × List UInt8) → Bool) (hr : RdV B [] ad (memCells l)) (hm : l.length ≤ 1000000) (hcal : Callable Tryz.prog f) (hf : ∀ x ∈ l, ∀ w, Inv B H w → Calls Tryz.prog f (#[.agg #[vI x.1, vS x.2]] ++ cb) w fun e w' => e = .returned (.bool (pr x)) ∧ Inv B H w') (hv : Inv B H w) :
  Calls Tryz.prog 222 #[.slice ad l.length c, .func (.func f) #[] cb] w fun e w' => e = .returned (.bool (l.any pr)) ∧ Inv B H w' := by
 refine cW Tryz.func222 rfl Tryz.ntmps222 ?_
 simp only [al]
 refine sK fun _ k1 => rL (uA rfl ?_)
 refine uW k1 (sK fun _ k2 => ?_)
 refine rL (uM rfl ?_)
 refine uM rfl ?_
 refine xC s9callable229 rfl ((indexFuncMem B H _ f cb ad c l pr hr hm hcal hf hv).mono ?_) rfl
 rintro e w3 ⟨r, rfl, hra, hv⟩
 refine ⟨_, rfl, uG (.bool (decide (r ≥ 0))) rfl (ex_geq rfl rfl rfl rfl) ?_⟩
 refine uA rfl (uW k2 ?_)
 refine rR (bR rfl rfl ?_)
 exact ⟨congrArg (fun b => Ending.returned (Value.bool b)) (by rw [Bool.eq_iff_iff, decide_eq_true_iff]; exact hra), hv⟩
theorem listLong (B : Base) (H : List Res) (w : World) (s : List UInt8) (hv : Inv B H w) :
  Calls Tryz.prog 92 #[vS s] w fun e w' => e = .returned (.bool (decide (s.length > 4096))) ∧ Inv B H w' := by
 refine cW Tryz.func92 rfl Tryz.ntmps92 ?_
 simp only [al]
 refine sK fun _ k1 => rL (uA rfl ?_)
 refine uW k1 (sK fun _ k2 => ?_)
 refine rL (uM rfl ?_)
 refine uG (vI (s.length : Int)) rfl (ex_lenStr Tryz.underlying9 rfl rfl) ?_
 refine uG (.bool (decide ((s.length : Int) > 4096))) rfl (ex_gtr rfl rfl rfl rfl) (uA rfl ?_)
 refine uW k2 (rR ?_)
 refine bR rfl rfl (⟨congrArg (fun b => Ending.returned (Value.bool b)) (decide_eq_decide.2 (by omega)), hv⟩)
theorem setLong (B : Base) (H : List Res) (w : World) (s : List UInt8) (hv : Inv B H w) :
  Calls Tryz.prog 221 #[vS s] w fun e w' => e = .returned (.bool (decide (s.length > 4096))) ∧ Inv B H w' := by
 refine cW Tryz.func221 rfl Tryz.ntmps221 ?_
 simp only [al]
 refine sK fun _ k1 => rL (uA rfl ?_)
 refine uW k1 (sK fun _ k2 => ?_)
 refine rL (uM rfl ?_)
 refine uG (vI (s.length : Int)) rfl (ex_lenStr Tryz.underlying9 rfl rfl) ?_
 refine uG (.bool (decide ((s.length : Int) > 4096))) rfl (ex_gtr rfl rfl rfl rfl) (uA rfl ?_)
 refine uW k2 (rR ?_)
 refine bR rfl rfl (⟨congrArg (fun b => Ending.returned (Value.bool b)) (decide_eq_decide.2 (by omega)), hv⟩)
theorem s9fa118_1 : FA Tryz.prog 118 1 1 := fun w b o => by kernel_rfl
theorem zsetLong (B : Base) (H : List Res) (w : World) (n : Int) (s : List UInt8) (hv : Inv B H w) :
  Calls Tryz.prog 223 #[.agg #[vI n, vS s]] w fun e w' => e = .returned (.bool (decide (s.length > 4096))) ∧ Inv B H w' := by
 refine cW Tryz.func223 rfl Tryz.ntmps223 ?_
 simp only [al]
 refine sK fun _ k1 => rL (sl_box (L := [vI n, vS s]) tV (wn rfl) rfl rfl hv (fun w => by kernel_rfl) (fun b2 w3 hv => ?_))
 refine uA rfl (uW k1 ?_)
 refine sK fun _ k4 => rL (uF (.pointer (some ⟨b2, 1, none⟩)) rfl (s9fa118_1 _ _ _) ?_)
 refine uL _ rfl (run_load1 s9na9 (hv.load 0 1 rfl rfl)) ?_
 refine uG (vI (s.length : Int)) rfl (ex_lenStr Tryz.underlying9 rfl rfl) ?_
 refine uG (.bool (decide ((s.length : Int) > 4096))) rfl (ex_gtr rfl rfl rfl rfl) (uA rfl ?_)
 refine uW k4 (rR ?_)
 refine bR rfl rfl (⟨congrArg (fun b => Ending.returned (Value.bool b)) (decide_eq_decide.2 (by omega)), (hv.kp [] 0 1)⟩)
def listRight (l : List (List UInt8)) : Bool := decide (l.length ≤ 512) && !l.any (fun s : List UInt8 => decide (s.length > 4096))
theorem s9callable92 : Callable Tryz.prog 92 := cb Tryz.func92 (by kernel_rfl)
theorem s9callable95 : Callable Tryz.prog 95 := cb Tryz.func95 (by kernel_rfl)
theorem listRightC (B : Base) (H : List Res) (w : World) (ad : Option Addr) (c : Nat) (l : List (List UInt8)) (hr : RdV B [] ad (textCells l)) (hm : l.length ≤ 1000000) (hv : Inv B H w) :
  Calls Tryz.prog 207 #[.slice ad l.length c] w fun e w' => e = .returned (.bool (listRight l)) ∧ Inv B H w' := by
 refine cW Tryz.func207 rfl Tryz.ntmps207 ?_
 simp only [al]
 refine sK fun _ k1 => rL (uA rfl ?_)
 refine uW k1 (sK fun _ k2 => ?_)
 refine rL (uM rfl ?_)
 refine uG (vI (l.length : Int)) rfl (ex_len0 Tryz.underlying22 rfl rfl) ?_
 by_cases hb3 : (l.length : Int) ≤ 512
 ·refine uG (.bool true) rfl (ex_leq rfl rfl rfl (qT hb3)) (uM rfl ?_)
  refine uM rfl ?_
  refine xC s9callable95 rfl ((containsFuncText B _ _ 92 #[] ad c l (fun s : List UInt8 => decide (s.length > 4096)) hr hm s9callable92 (fun x _ w hv => listLong B _ w x hv) hv).mono ?_) rfl
  rintro e w4 ⟨rfl, hv⟩
  refine ⟨_, rfl, uG (.bool (!(l.any (fun s : List UInt8 => decide (s.length > 4096))))) rfl (ex_not rfl rfl rfl) ?_⟩
  refine uK rfl (uA rfl ?_)
  refine uW k2 (rR ?_)
  refine bR rfl rfl (⟨congrArg (fun b => Ending.returned (Value.bool b)) (by unfold listRight; first | rw [qT (by omega : l.length ≤ 512)]; rfl | (rw [qF (by omega : ¬ l.length ≤ 512)]; rfl)), hv⟩)
 refine uG (.bool false) rfl (ex_leq rfl rfl rfl (qF hb3)) (uM rfl ?_)
 iterate 3 refine uP rfl ?_
 refine uK rfl (uA rfl ?_)
 refine uW k2 (rR ?_)
 refine bR rfl rfl (⟨congrArg (fun b => Ending.returned (Value.bool b)) (by unfold listRight; first | rw [qT (by omega : l.length ≤ 512)]; rfl | (rw [qF (by omega : ¬ l.length ≤ 512)]; rfl)), hv⟩)
end Go.Proofs.YtmhdpjifhfoabaaGreatDoor
namespace Go.Pm
open Go.RowKit
def lookA {α : Type} : List (List UInt8 × α) → List UInt8 → Option α
 | [], _ => none
 | e :: l, k => if e.1 = k then some e.2 else lookA l k
def updA {α : Type} : List (List UInt8 × α) → List UInt8 → α → List (List UInt8 × α)
 | [], k, v => [(k, v)]
 | e :: l, k, v => if e.1 = k then (k, v) :: l else e :: updA l k v
theorem look_upd {α : Type} : ∀ (l : List (List UInt8 × α)) (k k' : List UInt8) (v : α), lookA (updA l k v) k' = if k = k' then some v else lookA l k'
 | [], k, k', v => by simp [updA, lookA]
 | e :: l, k, k', v => by
  unfold updA
  by_cases h : e.1 = k
  ·rw [if_pos h]
   by_cases h2 : k = k'
   ·simp [lookA, h2]
   simp [lookA, h2, h]
  rw [if_neg h]
  by_cases h2 : k = k'
  ·subst h2; simp [lookA, h, look_upd l k k v]
  by_cases h3 : e.1 = k'
  ·simp [lookA, h3, h2]
  simp [lookA, h3, h2, look_upd l k k' v]
theorem look_none {α : Type} : ∀ (l : List (List UInt8 × α)) (k : List UInt8), lookA l k = none ↔ k ∉ l.map (·.1)
 | [], k => by simp [lookA]
 | e :: l, k => by
  by_cases h : e.1 = k
  ·simp [lookA, h]
  simp [lookA, h, look_none l k, Ne.symm h]
def kv (x : List UInt8 × Value) : Value × Value := (strV x.1, x.2)
def Res.vmap (b : Nat) (es : List (List UInt8 × Value)) : Res where
 fp := [b]
 holds w := ∃ (E : Array MapEntry) (clock : Nat), w.heap[b]? = some (.map E clock) ∧ MapKept.Stamped E clock ∧ E.toList.map (fun e => (e.key, e.val)) = es.map kv
 stab w w' h := by
  rintro ⟨E, clock, h1, h2, h3⟩
  exact ⟨E, clock, (h b (by simp)).trans h1, h2, h3⟩
theorem strV_inj {a b : List UInt8} (h : strV a = strV b) : a = b := by simpa [strV] using h
theorem find_assoc (k : List UInt8) : ∀ (E : List MapEntry) (es : List (List UInt8 × Value)) (n : Nat), E.map (fun e => (e.key, e.val)) = es.map kv →
  (lookA es k = none ∧ (∀ v, updA es k v = es ++ [(k, v)]) ∧ Instr.findNow .string (strV k) E n = some none) ∨
  (∃ i e, E[i]? = some e ∧ e.key = strV k ∧ lookA es k = some e.val ∧ (∀ v, updA es k v = es.set i (k, v)) ∧ Instr.findNow .string (strV k) E n = some (some (n + i, e.val)))
 | [], [], n, _ => .inl ⟨rfl, fun _ => rfl, rfl⟩
 | e :: E, x :: es, n, h => by
  simp only [List.map_cons, List.cons.injEq, kv, Prod.mk.injEq] at h
  obtain ⟨⟨h1, h1'⟩, h2⟩ := h
  have hs : Instr.sameNow .string (strV k) e.key = some (decide (k = x.1)) := by
   rw [h1]
   show some ((⟨k.toArray⟩ : ByteArray) == ⟨x.1.toArray⟩) = _
   rw [strV_beq]
  by_cases hk : x.1 = k
  ·refine .inr ⟨0, e, rfl, by rw [h1, hk], by simp [lookA, hk, h1'], fun v => by simp [updA, hk], ?_⟩
   simp [Instr.findNow, hs, hk]
  have hk' : ¬ k = x.1 := fun e => hk e.symm
  rcases find_assoc k E es (n + 1) h2 with ⟨h3, h4, h5⟩ | ⟨i, e', h4, h5, h6, h7, h8⟩
  ·exact .inl ⟨by simp [lookA, hk, h3], fun v => by simp [updA, hk, h4], by simp [Instr.findNow, hs, hk', h5]⟩
  exact .inr ⟨i + 1, e', by simpa using h4, h5, by simp [lookA, hk, h6], fun v => by simp [updA, hk, h7], by
   simp only [Instr.findNow, hs, hk', decide_false, h8]
   rw [show n + 1 + i = n + (i + 1) by omega]⟩
 | [], _ :: _, _, h => by simp at h
 | _ :: _, [], _, h => by simp at h
section
variable {P : Program} {t kt et : TypeId} {w : World} {b : Nat} {es : List (List UInt8 × Value)} {k : List UInt8} {z v : Value}
theorem run_lookV (ok : Bool) (ht : P.underlying t = some (.map kt et)) (hk : P.underlying kt = some .string) (hz : ∀ w, (zeroValue et).run P w = .ok z w) (h : (Res.vmap b es).holds w) :
  (Instr.lookup t (.map (some b)) (strV k) ok).run P w = .ok (if ok then .tuple #[(lookA es k).getD z, .bool (lookA es k).isSome] else (lookA es k).getD z) w := by
 obtain ⟨E, clock, h1, -, h2⟩ := h
 rcases find_assoc k E.toList es 0 h2 with ⟨h3, -, h5⟩ | ⟨i, e, -, -, h3, -, h5⟩
 ·cases ok <;> simp [Instr.lookup, run_underlying ht, getObj, Sem.run, h1, run_checkStr hk, run_findStr hk _ _ h5, hz, h3]
 cases ok <;> simp [Instr.lookup, run_underlying ht, getObj, Sem.run, h1, run_checkStr hk, run_findStr hk _ _ h5, h3]
theorem run_updV (ht : P.underlying t = some (.map kt et)) (hk : P.underlying kt = some .string) (h : (Res.vmap b es).holds w) (v : Value) : ∃ w', (Instr.mapUpdate t (.map (some b)) (strV k) v).run P w = .ok () w' ∧ Only [b] w w' ∧ (Res.vmap b (updA es k v)).holds w' := by
 obtain ⟨E, clock, h1, hst, h2⟩ := h
 have hset : ∀ o : Obj, (setObj b o).run P w = .ok () (w.putObj b o) := fun o => by
  simp [setObj, Sem.run, h1, World.putObj]
 have hnew : ∀ o : Obj, (w.putObj b o).heap[b]? = some o := fun o => by
  have hb := (Array.getElem?_eq_some_iff.1 h1).1
  simp [World.putObj, hb]
 rcases find_assoc k E.toList es 0 h2 with ⟨h3, h4, h5⟩ | ⟨i, e, h6, h7, h3, h4, h5⟩
 ·refine ⟨_, ?_, Only.putObjL w b (.map (E.push { key := strV k, val := v, born := clock }) (clock + 1)), E.push { key := strV k, val := v, born := clock }, clock + 1, hnew _, MapKept.stamped_push hst (fun x hx e => ?_), ?_⟩
  ·simp [Instr.mapUpdate, run_underlying ht, getObj, Sem.run, h1, run_checkStr hk, run_findStr hk _ _ h5, hset]
  ·rw [look_none] at h3
   obtain ⟨j, hj⟩ := List.mem_iff_getElem?.1 hx
   have h9 := congrArg (fun l => l[j]?) h2
   simp only [List.getElem?_map, hj, Option.map_some] at h9
   cases hx2 : es[j]? with
   | none => rw [hx2] at h9; simp at h9
   | some y =>
    rw [hx2] at h9
    simp only [Option.map_some, kv, Option.some.injEq, Prod.mk.injEq] at h9
    exact h3 (List.mem_map.2 ⟨y, List.mem_of_getElem? hx2, strV_inj (h9.1.symm.trans e)⟩)
  rw [h4]; simp [h2, kv]
 have hsame : (Instr.keyThatStays e.key (strV k)).run P w = .ok (strV k) w := by
  have hb : Instr.sameBits 10000 (strV k) (strV k) = true := by
   show ((⟨k.toArray⟩ : ByteArray) == ⟨k.toArray⟩) = true
   rw [strV_beq]; simp
  rw [h7]
  simp only [Instr.keyThatStays, hb, if_true]
  rfl
 have hget : ((E[i]?).map (·.key)).getD (strV k) = e.key := by
  rw [← Array.getElem?_toList, h6]; rfl
 refine ⟨_, ?_, Only.putObjL w b (.map (E.modify i fun e => { e with key := strV k, val := v }) clock), E.modify i fun e => { e with key := strV k, val := v }, clock, hnew _, ?_, ?_⟩
 ·rw [Nat.zero_add] at h5
  simp only [Instr.mapUpdate, Sem.run_bind, run_underlying ht, Result.andThen_ok]
  simp [getObj, Sem.run, h1, run_checkStr hk, run_findStr hk _ _ h5, hget, hsame, hset]
 ·refine MapKept.stamped_modify hst i _ (fun _ _ => rfl) (fun e' _ he' => ?_)
  rw [← Array.getElem?_toList, h6] at he'
  cases he'
  exact h7.symm
 rw [h4]
 apply List.ext_getElem?
 intro j
 have hj9 := congrArg (fun l => l[j]?) h2
 simp only [List.getElem?_map] at hj9
 simp only [Array.toList_modify, List.getElem?_map, List.getElem?_modify, List.getElem?_set]
 by_cases hj : i = j
 ·subst hj
  have hl : i < es.length := by
   have := (List.getElem?_eq_some_iff.1 h6).1
   have h9 := congrArg List.length h2
   simp only [List.length_map] at h9
   omega
  rw [h6]; simp [hl, kv]
 simp only [hj, if_false]
 rw [← hj9]
 cases E.toList[j]? <;> rfl
end
section
variable {F : Fence} {n : Nat} {P : Program} {ops : Array Oper} {Q : Exit → Act → World → Prop} {a : Act} {w : World} {rest : List Oper} {o : Oper} {B : Base} {H : List Res} {t kt et : TypeId} {x y u : Operand} {b : Nat} {es : List (List UInt8 × Value)} {k : List UInt8} {z v : Value} {r r' : Res}
theorem vmap_new (hv : Inv B H w) : Inv B (Res.vmap w.heap.size [] :: H) (w.alloc (.map #[] 0)) := by
 have hnew : (w.alloc (.map #[] 0)).heap[w.heap.size]? = some (.map #[] 0) := heap_alloc_new w _
 refine hv.new ((Below.refl _ _).alloc (Nat.le_refl _) _) (Res.vmap w.heap.size []) ⟨#[], 0, hnew, MapKept.stamped_empty 0, rfl⟩ (fun b hb => ?_) (by simp [Res.vmap])
 have : b = w.heap.size := by simpa [Res.vmap] using hb
 subst this
 exact ⟨Nat.le_refl _, (Array.getElem?_eq_some_iff.1 hnew).1⟩
theorem sl_newMapV (hF : ∀ f, F.fn f) (hg : Region.wanted o (yielded ops a.tmps) = true) (ho : o.op = .makeMap t none) (hv : Inv B H w)
  (h : ∀ b w', Inv B (Res.vmap b [] :: H) w' → wpListIn F n P ops Q rest (a.put o.dst (.map (some b))) w') : wpListIn F n P ops Q (o :: rest) a w := by
 have hr : (Instr.makeMap t none).run P w = .ok (.map (some w.heap.size)) (w.alloc (.map #[] 0)) := by
  simp [Instr.makeMap, newObj, Sem.run]
 have hex : Ex P a o w (.map (some w.heap.size)) (w.alloc (.map #[] 0)) := by
  unfold Ex; simp [execOp, ho, hr]
 exact wpi_exG hF hg (by unfold isDefer; rw [ho]) hex (h _ _ (vmap_new hv))
theorem ex_lookV (i : Nat) {ok : Bool} (ho : o.op = .lookup t x y ok) (hx : a.eval x = .map (some b)) (hy : a.eval y = strV k) (ht : P.underlying t = some (.map kt et)) (hk : P.underlying kt = some .string) (hz : ∀ w, (zeroValue et).run P w = .ok z w) (hv : Inv B H w) (hi : H[i]? = some (Res.vmap b es)) :
  Ex P a o w (if ok then .tuple #[(lookA es k).getD z, .bool (lookA es k).isSome] else (lookA es k).getD z) w := by
 unfold Ex
 simp [execOp, ho, hx, hy, run_lookV ok ht hk hz (hv.get i hi)]
theorem vmap_set : ∀ (i : Nat) (H : List Res), H[i]? = some r → (r' :: H.eraseIdx i).Perm (H.set i r')
 | 0, y :: H, h => by simp
 | i + 1, y :: H, h => by
  simp only [List.getElem?_cons_succ] at h
  simp only [List.eraseIdx_cons_succ, List.set_cons_succ]
  exact (List.Perm.swap _ _ _).trans ((vmap_set i H h).cons y)
 | _, [], h => by simp at h
theorem mem_updV {J : List Value → World → Prop} {vals : List Value} (i : Nat) (hg : Region.wanted o (yielded ops a.tmps) = true) (ho : o.op = .mapUpdate t x y u) (hx : a.eval x = .map (some b)) (hy : a.eval y = strV k) (hz : a.eval u = v) (ht : P.underlying t = some (.map kt et)) (hk : P.underlying kt = some .string) (hv : Inv B H w) (hi : H[i]? = some (Res.vmap b es))
  (h : ∀ w', Inv B (H.set i (Res.vmap b (updA es k v))) w' → J (vals ++ [undef]) w') : StepMem P ops J Q o a w vals := by
 have hv' := hv.front i hi
 obtain ⟨w', h1, h2, h3⟩ := run_updV (k := k) ht hk hv'.head v
 have h9 : Inv B (Res.vmap b (updA es k v) :: H.eraseIdx i) w' := hv'.upd (Res.vmap b (updA es k v)) h2 h3 (fun b' hb => .inl hb) (fun b' hb => Nat.lt_of_lt_of_le (hv'.headLt b' hb) h2.size) (by simp [Res.vmap])
 exact ExU.mem (by unfold ExU; simp [execOp, ho, hx, hy, hz, h1]) hg (h _ (h9.perm (vmap_set i H hi)))
theorem ex_lookS (i : Nat) (ho : o.op = .lookup t x y true) (hx : a.eval x = .map (some b)) (hy : a.eval y = strV k) (ht : P.underlying t = some (.map kt et)) (hk : P.underlying kt = some .string) (hz : ∀ w, (zeroValue et).run P w = .ok z w) (hv : Inv B H w) (hi : H[i]? = some (Res.vmap b es)) (hl : lookA es k = some v) :
  Ex P a o w (.tuple #[v, .bool true]) w := by
 have h := ex_lookV i ho hx hy ht hk hz hv hi
 rw [hl] at h; exact h
theorem ex_lookN (i : Nat) (ho : o.op = .lookup t x y true) (hx : a.eval x = .map (some b)) (hy : a.eval y = strV k) (ht : P.underlying t = some (.map kt et)) (hk : P.underlying kt = some .string) (hz : ∀ w, (zeroValue et).run P w = .ok z w) (hv : Inv B H w) (hi : H[i]? = some (Res.vmap b es)) (hl : lookA es k = none) :
  Ex P a o w (.tuple #[z, .bool false]) w := by
 have h := ex_lookV i ho hx hy ht hk hz hv hi
 rw [hl] at h; exact h
theorem sl_updV (hF : ∀ f, F.fn f) (hg : Region.wanted o (yielded ops a.tmps) = true) (ho : o.op = .mapUpdate t x y u) (hx : a.eval x = .map (some b)) (hy : a.eval y = strV k) (hz : a.eval u = v) (ht : P.underlying t = some (.map kt et)) (hk : P.underlying kt = some .string) (hv : Inv B (Res.vmap b es :: H) w)
  (h : ∀ w', Inv B (Res.vmap b (updA es k v) :: H) w' → wpListIn F n P ops Q rest (a.put o.dst undef) w') : wpListIn F n P ops Q (o :: rest) a w := by
 obtain ⟨w', h1, h2, h3⟩ := run_updV (k := k) ht hk hv.head v
 refine wpi_exUG hF hg (by unfold isDefer; rw [ho]) (by unfold ExU; simp [execOp, ho, hx, hy, hz, h1]) (h w' (hv.upd (Res.vmap b (updA es k v)) h2 h3 (fun b' hb => .inl hb) (fun b' hb => ?_) (by simp [Res.vmap])))
 exact Nat.lt_of_lt_of_le (hv.headLt b' hb) h2.size
theorem ex_psame {tt : TypeId} {ad : Addr} (ht : P.underlying t = some (.pointer et)) (hi : (P.info? et).isSome = true) (ho : o.op = .binOp .eql t x y tt) (hx : a.eval x = .pointer (some ad)) (hy : a.eval y = .pointer (some ad)) : Ex P a o w (.bool true) w := by
 have hg : (eqGuard .eql t x y (.pointer (some ad)) (.pointer (some ad))).run P w = .ok () w := by simp [eqGuard]
 obtain ⟨j, hi⟩ := Option.isSome_iff_exists.1 hi
 have hr := run_eql_ptr_same w ad ht hi
 unfold Ex; simp [execOp, ho, hx, hy, hg, hr]
end
end Go.Pm
namespace Go.Proofs.YtmhdpjifhfoabaaGreatDoor
open Go.RowKit Go.Pm
def VM (B : Base) : List (List UInt8 × Value) → List (List UInt8 × Ver) → Prop
 | [], [] => True
 | e :: es, m :: M => (e.1 = m.1 ∧ ∃ p t z, e.2 = .agg (verCells m.2 p t z).toArray ∧ ValAt B m.2.val p t z) ∧ VM B es M
 | _, _ => False
theorem VM.more {B C : Base} (hB : B.Le C) : ∀ {es : List (List UInt8 × Value)} {M : List (List UInt8 × Ver)}, VM B es M → VM C es M
 | [], [], _ => trivial
 | e :: _, m :: _, ⟨⟨h1, p, t, z, h2, h3⟩, h4⟩ => ⟨⟨h1, p, t, z, h2, h3.more hB⟩, VM.more hB h4⟩
 | [], _ :: _, h => h.elim
 | _ :: _, [], h => h.elim
theorem VM.look {B : Base} (k : List UInt8) : ∀ {es : List (List UInt8 × Value)} {M : List (List UInt8 × Ver)}, VM B es M → (lookA es k = none ∧ lookA M k = none) ∨ ∃ x p t z, lookA es k = some (.agg (verCells x p t z).toArray) ∧ lookA M k = some x ∧ ValAt B x.val p t z
 | [], [], _ => .inl ⟨rfl, rfl⟩
 | e :: es, m :: M, ⟨⟨h1, p, t, z, h2, h3⟩, h4⟩ => by
  by_cases h : e.1 = k
  ·exact .inr ⟨m.2, p, t, z, by simp [lookA, h, h2], by simp [lookA, ← h1, h], h3⟩
  have h' : ¬ m.1 = k := by rw [← h1]; exact h
  simp only [lookA, h, h', if_false]
  exact VM.look k h4
 | [], _ :: _, h => h.elim
 | _ :: _, [], h => h.elim
theorem VM.upd {B : Base} {k : List UInt8} {x : Ver} {p t z : Value} (hx : ValAt B x.val p t z) : ∀ {es : List (List UInt8 × Value)} {M : List (List UInt8 × Ver)}, VM B es M → VM B (updA es k (.agg (verCells x p t z).toArray)) (updA M k x)
 | [], [], _ => ⟨⟨rfl, p, t, z, rfl, hx⟩, trivial⟩
 | e :: es, m :: M, ⟨⟨h1, h2⟩, h4⟩ => by
  by_cases h : e.1 = k
  ·have h' : m.1 = k := by rw [← h1]; exact h
   simp only [updA, h, h', if_true]
   exact ⟨⟨rfl, p, t, z, rfl, hx⟩, h4⟩
  have h' : ¬ m.1 = k := by rw [← h1]; exact h
  simp only [updA, h, h', if_false]
  exact ⟨⟨h1, h2⟩, VM.upd hx h4⟩
 | [], _ :: _, h => h.elim
 | _ :: _, [], h => h.elim
theorem VM.keys {B : Base} : ∀ {es : List (List UInt8 × Value)} {M : List (List UInt8 × Ver)}, VM B es M → es.map (·.1) = M.map (·.1)
 | [], [], _ => rfl
 | e :: es, m :: M, ⟨⟨h1, _⟩, h4⟩ => by simp [h1, VM.keys h4]
 | [], _ :: _, h => h.elim
 | _ :: _, [], h => h.elim
def txL (t m s p wb : Nat) (va : Option Addr) (vc : Nat) (sv : Value) (clk : Int) (es : List (List UInt8 × Value)) : List Res :=
  [Res.cell t [.pointer (some ⟨m, 0, none⟩), .int .i64 0, .int .i64 clk, .bool false, .map (some wb)] 136,
   Res.cell m [.pointer (some ⟨s, 0, none⟩), sv, .int .i64 clk, .slice va 1 vc] 96,
   Res.row 62 1 (.slice va 1 vc) 1 [.pointer (some ⟨t, 0, none⟩)],
   Res.vmap wb es,
   Res.cell s [.pointer (some ⟨p, 0, none⟩), .int .i64 0, .int .i64 0] 100,
   Res.cell p [.slice none 0 0, .int .i64 0] 133]
def txR (t m s p wb : Nat) (va : Option Addr) (vc : Nat) (sv : Value) (clk : Int) (es : List (List UInt8 × Value)) : Res := Res.star (txL t m s p wb va vc sv clk es)
def gver : Ver := ⟨0, true, 0, ⟨0, [], [], [], []⟩⟩
theorem x1es94 (w : World) : (sizeOf (Tryz.prog.elem 94)).run Tryz.prog w = .ok 1 w := by kernel_rfl
theorem x1na62 (w : World) : (isAgg 62).run Tryz.prog w = .ok false w := by kernel_rfl
theorem indexTx (B : Base) (H : List Res) (w : World) (t : Nat) (va : Option Addr) (vc : Nat) (hv : Inv B (Res.row 62 1 (.slice va 1 vc) 1 [vP t] :: H) w) :
  Calls Tryz.prog 210 #[.slice va 1 vc, vP t] w fun e w' => e = .returned (vI 0) ∧ Inv B (Res.row 62 1 (.slice va 1 vc) 1 [vP t] :: H) w' := by
 refine cW Tryz.func210 rfl Tryz.ntmps210 ?_
 simp only [al]
 refine sK fun _ k1 => rL (uA rfl ?_)
 refine uW k1 (sK fun _ k2 => ?_)
 refine sK fun _ k3 => rL (uG (.slice va 1 vc) rfl (ex_move rfl rfl) ?_)
 refine uG (vI 1) rfl (ex_len0 Tryz.underlying94 rfl rfl) (uM rfl ?_)
 refine uW k3 (bB ?_)
 gi_loopw [8] (fun x8 wr => x8 = vI 0 ∧ Inv B (Res.row 62 1 (.slice va 1 vc) 1 [vP t] :: H) wr) (fun x8 _ => 0)
 case atStart => exact ⟨rfl, hv⟩
 case round =>
  obtain ⟨rfl, hv⟩ := hrel
  refine sK fun _ k5 => rL (uG (.bool true) rfl (ex_lss rfl rfl rfl (by decide)) ?_)
  refine uW k5 (sK fun _ k6 => ?_)
  refine cT rfl (kS ?_)
  refine tK k6 (sK fun _ k7 => ?_)
  refine bB (sK fun _ k8 => ?_)
  refine rL (uM rfl ?_)
  refine uA rfl (uW k8 ?_)
  refine sK fun _ k9 => ?_
  obtain ⟨b, rfl⟩ := row_some hv.head (by omega)
  refine rL (uM rfl ?_)
  refine uG (.slice (some ⟨b, 0, none⟩) 1 vc) rfl (ex_move rfl rfl) (uM rfl ?_)
  refine uG (.pointer (some ⟨b, 0 + 0, none⟩)) rfl (ex_index rfl rfl rfl (run_idx1 (k := 0) Tryz.underlying94 x1es94 (by omega))) ?_
  refine uL _ rfl (run_load1 x1na62 (row_load (hv.get 0 rfl) rfl)) ?_
  refine uG (.bool true) rfl (ex_psame Tryz.underlying62 (by kernel_rfl) rfl rfl rfl) (uW k9 ?_)
  refine cT rfl (sK fun _ k10 => ?_)
  refine rL (uM rfl ?_)
  refine uA rfl (uW k10 ?_)
  refine rR (bZ ?_)
  refine tR (tR ?_)
  refine bZ (tR ?_)
  refine bR rfl rfl (⟨rfl, hv⟩)
theorem x1callable210 : Callable Tryz.prog 210 := cb Tryz.func210 (by kernel_rfl)
theorem containsTx (B : Base) (H : List Res) (w : World) (t : Nat) (va : Option Addr) (vc : Nat) (hv : Inv B (Res.row 62 1 (.slice va 1 vc) 1 [vP t] :: H) w) :
  Calls Tryz.prog 203 #[.slice va 1 vc, vP t] w fun e w' => e = .returned (.bool true) ∧ Inv B (Res.row 62 1 (.slice va 1 vc) 1 [vP t] :: H) w' := by
 refine cW Tryz.func203 rfl Tryz.ntmps203 ?_
 simp only [al]
 refine sK fun _ k1 => rL (uA rfl ?_)
 refine uW k1 (sK fun _ k2 => ?_)
 refine rL (uG (.slice va 1 vc) rfl (ex_move rfl rfl) ?_)
 refine uM rfl ?_
 refine xC x1callable210 rfl ((indexTx B H _ t va vc hv).mono ?_) rfl
 rintro e w3 ⟨rfl, hv⟩
 refine ⟨_, rfl, uG (.bool true) rfl (ex_geq rfl rfl rfl (by decide)) ?_⟩
 refine uA rfl (uW k2 ?_)
 refine rR (bR rfl rfl ?_)
 exact ⟨rfl, hv⟩
theorem mayLong (B : Base) (H : List Res) (w : World) (s : List UInt8) (hv : Inv B H w) :
  Calls Tryz.prog 202 #[vS s] w fun e w' => e = .returned (.bool (decide (s.length > 256))) ∧ Inv B H w' := by
 refine cW Tryz.func202 rfl Tryz.ntmps202 ?_
 simp only [al]
 refine sK fun _ k1 => rL (uA rfl ?_)
 refine uW k1 (sK fun _ k2 => ?_)
 refine rL (uM rfl ?_)
 refine uG (vI (s.length : Int)) rfl (ex_lenStr Tryz.underlying9 rfl rfl) ?_
 refine uG (.bool (decide ((s.length : Int) > 256))) rfl (ex_gtr rfl rfl rfl rfl) (uA rfl ?_)
 refine uW k2 (rR ?_)
 refine bR rfl rfl (⟨congrArg (fun b => Ending.returned (Value.bool b)) (decide_eq_decide.2 (by omega)), hv⟩)
theorem x1fa136_3 : FA Tryz.prog 136 3 3 := fun w b o => by kernel_rfl
theorem x1fa136_0 : FA Tryz.prog 136 0 0 := fun w b o => by kernel_rfl
theorem x1na53 (w : World) : (isAgg 53).run Tryz.prog w = .ok false w := by kernel_rfl
theorem x1fa96_3 : FA Tryz.prog 96 3 3 := fun w b o => by kernel_rfl
theorem x1na94 (w : World) : (isAgg 94).run Tryz.prog w = .ok false w := by kernel_rfl
theorem x1callable203 : Callable Tryz.prog 203 := cb Tryz.func203 (by kernel_rfl)
theorem x1callable202 : Callable Tryz.prog 202 := cb Tryz.func202 (by kernel_rfl)
theorem txnMay (B : Base) (H : List Res) (w : World) (t m s wb : Nat) (va : Option Addr) (vc : Nat) (sv : Value) (clk : Int) (ka : Option Addr) (kc : Nat) (ks : List (List UInt8)) (hr : RdV B [] ka (textCells ks)) (hm : ks.length ≤ 1000000) (hv : Inv B (Res.cell t [vP m, vI 0, vI clk, .bool false, .map (some wb)] 136 :: Res.cell m [vP s, sv, vI clk, .slice va 1 vc] 96 :: Res.row 62 1 (.slice va 1 vc) 1 [vP t] :: H) w) :
  Calls Tryz.prog 195 #[vP t, .slice ka ks.length kc] w fun e w' => ∃ ec : Int, e = .returned (vI ec) ∧ ((ec = 0 ∧ ks.any (fun s : List UInt8 => decide (s.length > 256)) = false) ∨ (ec = 2 ∧ ks.any (fun s : List UInt8 => decide (s.length > 256)) = true)) ∧ Inv B (Res.cell t [vP m, vI 0, vI clk, .bool false, .map (some wb)] 136 :: Res.cell m [vP s, sv, vI clk, .slice va 1 vc] 96 :: Res.row 62 1 (.slice va 1 vc) 1 [vP t] :: H) w' := by
 refine cW Tryz.func195 rfl Tryz.ntmps195 ?_
 simp only [al]
 refine sK fun _ k1 => rL (uA rfl ?_)
 refine uW k1 (sK fun _ k2 => ?_)
 refine sK fun _ k3 => rL (uM rfl ?_)
 refine uG (vP t) rfl (ex_nil rfl rfl) ?_
 refine uF (.pointer (some ⟨t, 3, none⟩)) rfl (x1fa136_3 _ _ _) ?_
 refine uL _ rfl (run_load1 s2na4 (hv.load 0 3 rfl rfl)) (uW k3 ?_)
 refine cF rfl (kS ?_)
 refine tK k2 (sK fun _ k4 => ?_)
 refine rL (uA rfl ?_)
 refine uW k4 (sK fun _ k5 => ?_)
 refine sK fun _ k6 => rL (uM rfl ?_)
 refine uG (vP t) rfl (ex_nil rfl rfl) ?_
 refine uF (vP t) rfl (x1fa136_0 _ _ _) ?_
 refine uL _ rfl (run_load1 x1na53 (hv.load 0 0 rfl rfl)) ?_
 refine uG (.bool false) rfl (ex_pisnil Tryz.underlying53 rfl rfl rfl rfl) (uM rfl ?_)
 refine uM rfl ?_
 refine uG (vP t) rfl (ex_nil rfl rfl) ?_
 refine uF (vP t) rfl (x1fa136_0 _ _ _) ?_
 refine uL _ rfl (run_load1 x1na53 (hv.load 0 0 rfl rfl)) ?_
 refine uG (vP m) rfl (ex_nil rfl rfl) ?_
 refine uF (.pointer (some ⟨m, 3, none⟩)) rfl (x1fa96_3 _ _ _) ?_
 refine uL _ rfl (run_load1 x1na94 (hv.load 1 3 rfl rfl)) ?_
 refine uM rfl ?_
 replace hv := hv.front 1 rfl
 simp only [eS, eZ] at hv
 replace hv := hv.front 1 rfl
 simp only [eS, eZ] at hv
 replace hv := hv.front 2 rfl
 simp only [eS, eZ] at hv
 refine xC x1callable203 rfl ((containsTx B _ _ t va vc hv).mono ?_) rfl
 rintro e w7 ⟨rfl, hv⟩
 refine ⟨_, rfl, uG (.bool false) rfl (ex_not rfl rfl rfl) ?_⟩
 refine uK rfl (uM rfl ?_)
 refine uM rfl ?_
 refine uM rfl ?_
 refine xC s9callable95 rfl ((containsFuncText B _ _ 202 #[] ka kc ks (fun s : List UInt8 => decide (s.length > 256)) hr hm x1callable202 (fun x _ w hv => mayLong B _ w x hv) hv).mono ?_) rfl
 rintro e w8 ⟨rfl, hv⟩
 refine ⟨_, rfl, uK rfl ?_⟩
 refine uW k6 (wpIn_cond_split (t := ks.any (fun s : List UInt8 => decide (s.length > 256))) rfl (fun hc9 => ?_) (fun hc9 => ?_))
 ·refine sK fun _ k10 => rL (uA rfl ?_)
  refine uW k10 (rR ?_)
  refine tR (bR rfl rfl ?_)
  exact ⟨_, rfl, .inr ⟨rfl, hc9⟩, ((hv.front 2 rfl).front 2 rfl)⟩
 refine kS (tK k5 ?_)
 refine sK fun _ k11 => rL (uA rfl ?_)
 refine uW k11 (rR ?_)
 refine bR rfl rfl (⟨_, rfl, .inl ⟨rfl, hc9⟩, ((hv.front 2 rfl).front 2 rfl)⟩)
theorem calls_bool {P : Program} {f : FuncId} {args : Array Value} {w : World} {R : World → Prop} {b b' : Bool} (h : Calls P f args w fun e w' => e = .returned (.bool b) ∧ R w') (hb : b = b') : Calls P f args w fun e w' => e = .returned (.bool b') ∧ R w' := hb ▸ h
def SetAt (l : List (List UInt8)) (i : Nat) : Prop := ∀ x, l[i]? = some x → x.length ≤ 4096 ∧ ∀ (j : Nat) y, i = j + 1 → l[j]? = some y → Op.bytesLess y x = true
def SetOk (l : List (List UInt8)) : Prop := l.length ≤ 512 ∧ ∀ i, SetAt l i
def HashAt (l : List (List UInt8 × List UInt8)) (i : Nat) : Prop := ∀ x, l[i]? = some x → (x.1.length ≤ 4096 ∧ x.2.length ≤ 4096) ∧ ∀ (j : Nat) y, i = j + 1 → l[j]? = some y → Op.bytesLess y.1 x.1 = true
def HashOk (l : List (List UInt8 × List UInt8)) : Prop := l.length ≤ 512 ∧ ∀ i, HashAt l i
theorem s10callable221 : Callable Tryz.prog 221 := cb Tryz.func221 (by kernel_rfl)
theorem setRightC (B : Base) (H : List Res) (w : World) (ad : Option Addr) (c : Nat) (l : List (List UInt8)) (hr : RdV B [] ad (textCells l)) (hm : l.length ≤ 1000000) (hv : Inv B H w) :
  Calls Tryz.prog 208 #[.slice ad l.length c] w fun e w' => ∃ b, e = .returned (.bool b) ∧ (b = true ↔ SetOk l) ∧ Inv B H w' := by
 refine cW Tryz.func208 rfl Tryz.ntmps208 ?_
 simp only [al]
 refine sK fun _ k1 => rL (uA rfl ?_)
 refine uW k1 (sK fun _ k2 => ?_)
 refine sK fun _ k3 => rL (uM rfl ?_)
 refine uG (vI (l.length : Int)) rfl (ex_len0 Tryz.underlying22 rfl rfl) ?_
 by_cases hb4 : (l.length : Int) > 512
 ·refine uG (.bool true) rfl (ex_gtr rfl rfl rfl (qT hb4)) (uW k3 ?_)
  refine cT rfl (sK fun _ k5 => ?_)
  refine rL (uA rfl ?_)
  refine uW k5 (rR ?_)
  refine tR (bR rfl rfl ?_)
  exact ⟨false, rfl, ⟨fun h => (by cases h), fun h => by have := h.1; omega⟩, hv⟩
 refine uG (.bool false) rfl (ex_gtr rfl rfl rfl (qF hb4)) (uW k3 ?_)
 refine cF rfl (kS ?_)
 refine tK k2 (sK fun _ k6 => ?_)
 refine sK fun _ k7 => rL (uM rfl ?_)
 refine uG (vI (l.length : Int)) rfl (ex_len0 Tryz.underlying22 rfl rfl) (uM rfl ?_)
 refine uW k7 (bB ?_)
 gi_loopw [10] (fun x10 wr => ∃ (i : Nat), x10 = vI i ∧ i ≤ l.length ∧ (∀ k, k < i → SetAt l k) ∧ Inv B H wr) (fun x10 _ => l.length - (intOf x10).toNat)
 case atStart => exact ⟨0, rfl, Nat.zero_le _, fun k h => by omega, hv⟩
 case round =>
  obtain ⟨i, rfl, hi, hall, hv⟩ := hrel
  refine sK fun _ k9 => rL ?_
  by_cases hb10 : (i : Int) < (l.length : Int)
  ·refine uG (.bool true) rfl (ex_lss rfl rfl rfl (qT hb10)) (uW k9 ?_)
   refine sK fun _ k11 => cT rfl (kS ?_)
   refine tK k11 (sK fun _ k12 => ?_)
   refine bB (sK fun _ k13 => ?_)
   obtain ⟨x, hx⟩ : ∃ x, l[i]? = some x := ⟨_, List.getElem?_eq_getElem (show i < l.length by omega)⟩
   obtain ⟨bb, bo, had, hrdx⟩ := text_reads hr hx
   subst had
   refine rL (uM rfl ?_)
   refine uG (.pointer (some ⟨bb, bo + i, none⟩)) rfl (ex_index rfl rfl rfl (run_idx1 (k := i) Tryz.underlying22 s9es22 (by omega))) ?_
   refine uL _ rfl (run_load1 s9na9 (hrdx _ _ _ (Base.Le.refl _) no_res hv 0 _ rfl)) (uA rfl ?_)
   refine uA rfl (uW k13 ?_)
   refine sK fun _ k14 => rL (uM rfl ?_)
   by_cases hq15 : x.length > 4096
   ·refine xC s10callable221 rfl ((calls_bool (setLong B _ _ x hv) (qT hq15)).mono ?_) rfl
    rintro e w16 ⟨rfl, hv⟩
    refine ⟨_, rfl, uM rfl ?_⟩
    iterate 11 refine uP rfl ?_
    refine uK rfl (uW k14 ?_)
    refine cT rfl (sK fun _ k17 => ?_)
    refine rL (uA rfl ?_)
    refine uW k17 (rR ?_)
    refine bZ (tR ?_)
    refine tR (bZ ?_)
    refine tR (bR rfl rfl ?_)
    exact ⟨false, rfl, ⟨fun h => (by cases h), fun h => by have := (h.2 i x hx).1; first | omega | exact absurd this hq15⟩, hv⟩
   refine xC s10callable221 rfl ((calls_bool (setLong B _ _ x hv) (qF hq15)).mono ?_) rfl
   rintro e w18 ⟨rfl, hv⟩
   refine ⟨_, rfl, uM rfl ?_⟩
   refine uM rfl ?_
   by_cases hb19 : (i : Int) > 0
   ·refine uG (.bool true) rfl (ex_gtr rfl rfl rfl (qT hb19)) ?_
    obtain ⟨j, hj⟩ : ∃ j : Nat, i = j + 1 := ⟨i - 1, by omega⟩
    obtain ⟨y, hy⟩ : ∃ x, l[j]? = some x := ⟨_, List.getElem?_eq_getElem (show j < l.length by omega)⟩
    obtain ⟨b9, o9, had9, hrdy⟩ := text_reads hr hy
    cases had9
    refine uM rfl ?_
    refine uM rfl ?_
    refine uM rfl ?_
    refine uG (vI j) rfl (ex_sub rfl rfl rfl (by rw [i64_in (by omega)]; omega)) ?_
    refine uG (.pointer (some ⟨bb, bo + j, none⟩)) rfl (ex_index rfl rfl rfl (run_idx1 (k := j) Tryz.underlying22 s9es22 (by omega))) ?_
    refine uL _ rfl (run_load1 s9na9 (hrdy _ _ _ (Base.Le.refl _) no_res hv 0 _ rfl)) ?_
    refine uM rfl ?_
    refine uG (.bool (!Op.bytesLess y x)) rfl (ex_sgeq rfl rfl rfl rfl) ?_
    refine uK rfl (uK rfl ?_)
    refine uW k14 (wpIn_cond_split (t := !Op.bytesLess y x) rfl (fun hc20 => ?_) (fun hc20 => ?_))
    ·refine sK fun _ k21 => rL (uA rfl ?_)
     refine uW k21 (rR ?_)
     refine bZ (tR ?_)
     refine tR (bZ ?_)
     refine tR (bR rfl rfl ?_)
     exact ⟨false, rfl, ⟨fun h => (by cases h), fun h => by have := (h.2 i x hx).2 j y (by omega) hy; rw [this] at hc20; simp at hc20⟩, hv⟩
    refine kS (bN ?_)
    refine tK k12 (rL ?_)
    refine uG (vI ((i + 1 : Nat) : Int)) rfl (ex_add rfl rfl rfl (by rw [i64_in (by omega)]; omega)) (uM rfl ?_)
    refine uZ (then_normal ?_)
    go_roundw
    case rel => exact ⟨i + 1, rfl, by omega, fun k hk => (by
       rcases Nat.lt_or_ge k i with h | h
       ·exact hall k h
       obtain rfl : k = i := by omega
       intro x' hx'
       rw [hx] at hx'; cases hx'
       refine ⟨by omega, fun j' y' hj' hy' => ?_⟩
       obtain rfl : j' = j := by omega
       rw [hy] at hy'; cases hy'; simpa using hc20), hv⟩
    case measure => show l.length - (((i + 1 : Nat) : Int)).toNat < l.length - ((i : Int)).toNat; omega
   refine uG (.bool false) rfl (ex_gtr rfl rfl rfl (qF hb19)) ?_
   refine uM rfl ?_
   iterate 7 refine uP rfl ?_
   refine uK rfl (uK rfl ?_)
   refine uW k14 (cF rfl ?_)
   refine kS (bN ?_)
   refine tK k12 (rL ?_)
   refine uG (vI ((i + 1 : Nat) : Int)) rfl (ex_add rfl rfl rfl (by rw [i64_in (by omega)]; omega)) (uM rfl ?_)
   refine uZ (then_normal ?_)
   go_roundw
   case rel => exact ⟨i + 1, rfl, by omega, fun k hk => (by
      rcases Nat.lt_or_ge k i with h | h
      ·exact hall k h
      obtain rfl : k = i := by omega
      intro x' hx'
      rw [hx] at hx'; cases hx'
      refine ⟨by omega, fun j' y' hj' hy' => ?_⟩
      omega), hv⟩
   case measure => show l.length - (((i + 1 : Nat) : Int)).toNat < l.length - ((i : Int)).toNat; omega
  refine uG (.bool false) rfl (ex_lss rfl rfl rfl (qF hb10)) (uW k9 ?_)
  refine sK fun _ k22 => cF rfl (xE ?_)
  refine tX (tX ?_)
  refine bH (tK k6 ?_)
  refine sK fun _ k23 => rL (uA rfl ?_)
  refine uW k23 (rR ?_)
  refine bR rfl rfl ?_
  obtain rfl : i = l.length := by omega
  exact ⟨true, rfl, ⟨fun _ => ⟨by omega, fun k x hx => hall k (List.getElem?_eq_some_iff.1 hx).1 x hx⟩, fun _ => rfl⟩, hv⟩
theorem s10fa116_0 : FA Tryz.prog 116 0 0 := fun w b o => by kernel_rfl
theorem s10fa116_1 : FA Tryz.prog 116 1 1 := fun w b o => by kernel_rfl
theorem hashFits (B : Base) (H : List Res) (w : World) (x : List UInt8 × List UInt8) (hv : Inv B H w) :
  Calls Tryz.prog 220 #[.agg #[vS x.1, vS x.2]] w fun e w' => e = .returned (.bool (decide (x.1.length ≤ 4096 ∧ x.2.length ≤ 4096))) ∧ Inv B H w' := by
 refine cW Tryz.func220 rfl Tryz.ntmps220 ?_
 simp only [al]
 refine sK fun _ k1 => rL (sl_box (L := [vS x.1, vS x.2]) tV (wn rfl) rfl rfl hv (fun w => by kernel_rfl) (fun b2 w3 hv => ?_))
 refine uA rfl (uW k1 ?_)
 refine sK fun _ k4 => rL (uF (vP b2) rfl (s10fa116_0 _ _ _) ?_)
 refine uL _ rfl (run_load1 s9na9 (hv.load 0 0 rfl rfl)) ?_
 refine uG (vI (x.1.length : Int)) rfl (ex_lenStr Tryz.underlying9 rfl rfl) ?_
 by_cases hb5 : (x.1.length : Int) ≤ 4096
 ·refine uG (.bool true) rfl (ex_leq rfl rfl rfl (qT hb5)) (uM rfl ?_)
  refine uF (.pointer (some ⟨b2, 1, none⟩)) rfl (s10fa116_1 _ _ _) ?_
  refine uL _ rfl (run_load1 s9na9 (hv.load 0 1 rfl rfl)) ?_
  refine uG (vI (x.2.length : Int)) rfl (ex_lenStr Tryz.underlying9 rfl rfl) ?_
  by_cases hb6 : (x.2.length : Int) ≤ 4096
  ·refine uG (.bool true) rfl (ex_leq rfl rfl rfl (qT hb6)) (uK rfl ?_)
   refine uA rfl (uW k4 ?_)
   refine rR (bR rfl rfl ?_)
   exact ⟨congrArg (fun b => Ending.returned (Value.bool b)) (by symm; first | exact qT (by constructor <;> omega) | exact qF (by omega)), (hv.kp [] 0 1)⟩
  refine uG (.bool false) rfl (ex_leq rfl rfl rfl (qF hb6)) (uK rfl ?_)
  refine uA rfl (uW k4 ?_)
  refine rR (bR rfl rfl ?_)
  exact ⟨congrArg (fun b => Ending.returned (Value.bool b)) (by symm; first | exact qT (by constructor <;> omega) | exact qF (by omega)), (hv.kp [] 0 1)⟩
 refine uG (.bool false) rfl (ex_leq rfl rfl rfl (qF hb5)) (uM rfl ?_)
 iterate 4 refine uP rfl ?_
 refine uK rfl (uA rfl ?_)
 refine uW k4 (rR ?_)
 refine bR rfl rfl (⟨congrArg (fun b => Ending.returned (Value.bool b)) (by symm; first | exact qT (by constructor <;> omega) | exact qF (by omega)), (hv.kp [] 0 1)⟩)
theorem s10es75 (w : World) : (sizeOf (Tryz.prog.elem 75)).run Tryz.prog w = .ok 2 w := by kernel_rfl
theorem s10wd116 : Wide Tryz.prog 116 2 := wide_of (fun w => by kernel_rfl) (by kernel_rfl)
theorem s10al116 : AL Tryz.prog 116 [vS [], vS []] := fun w => by kernel_rfl
theorem s10sz116 : (Tryz.prog.info? 116).map (·.size) = some 2 := by kernel_rfl
theorem s10callable220 : Callable Tryz.prog 220 := cb Tryz.func220 (by kernel_rfl)
theorem hashRightC (B : Base) (H : List Res) (w : World) (ad : Option Addr) (c : Nat) (l : List (List UInt8 × List UInt8)) (hr : RdV B [] ad (pairCells l)) (hm : l.length ≤ 1000000) (hv : Inv B H w) :
  Calls Tryz.prog 206 #[.slice ad l.length c] w fun e w' => ∃ b, e = .returned (.bool b) ∧ (b = true ↔ HashOk l) ∧ Inv B H w' := by
 refine cW Tryz.func206 rfl Tryz.ntmps206 ?_
 simp only [al]
 refine sK fun _ k1 => rL (uA rfl ?_)
 refine uW k1 (sK fun _ k2 => ?_)
 refine sK fun _ k3 => rL (uM rfl ?_)
 refine uG (vI (l.length : Int)) rfl (ex_len0 Tryz.underlying75 rfl rfl) ?_
 by_cases hb4 : (l.length : Int) > 512
 ·refine uG (.bool true) rfl (ex_gtr rfl rfl rfl (qT hb4)) (uW k3 ?_)
  refine cT rfl (sK fun _ k5 => ?_)
  refine rL (uA rfl ?_)
  refine uW k5 (rR ?_)
  refine tR (bR rfl rfl ?_)
  exact ⟨false, rfl, ⟨fun h => (by cases h), fun h => by have := h.1; omega⟩, hv⟩
 refine uG (.bool false) rfl (ex_gtr rfl rfl rfl (qF hb4)) (uW k3 ?_)
 refine cF rfl (kS ?_)
 refine tK k2 (sK fun _ k6 => ?_)
 refine sK fun _ k7 => rL (uM rfl ?_)
 refine uG (vI (l.length : Int)) rfl (ex_len0 Tryz.underlying75 rfl rfl) (uM rfl ?_)
 refine uW k7 (bB ?_)
 gi_loopw [10] (fun x10 wr => ∃ (i : Nat), x10 = vI i ∧ i ≤ l.length ∧ (∀ k, k < i → HashAt l k) ∧ Inv B H wr) (fun x10 _ => l.length - (intOf x10).toNat)
 case atStart => exact ⟨0, rfl, Nat.zero_le _, fun k h => by omega, hv⟩
 case round =>
  obtain ⟨i, rfl, hi, hall, hv⟩ := hrel
  refine sK fun _ k9 => rL ?_
  by_cases hb10 : (i : Int) < (l.length : Int)
  ·refine uG (.bool true) rfl (ex_lss rfl rfl rfl (qT hb10)) (uW k9 ?_)
   refine sK fun _ k11 => cT rfl (kS ?_)
   refine tK k11 (sK fun _ k12 => ?_)
   refine bB (sK fun _ k13 => ?_)
   obtain ⟨x, hx⟩ : ∃ x, l[i]? = some x := ⟨_, List.getElem?_eq_getElem (show i < l.length by omega)⟩
   obtain ⟨bb, bo, had, hrdx⟩ := pair_reads hr hx
   subst had
   refine rL (uM rfl ?_)
   refine uG (.pointer (some ⟨bb, bo + i * 2, none⟩)) rfl (ex_index rfl rfl rfl (run_idx (k := i) Tryz.underlying75 s10es75 (by omega))) ?_
   refine uL (.agg #[vS x.1, vS x.2]) rfl (run_loadR (cs := [vS x.1, vS x.2]) s10wd116 (Reads.mid (pre := []) (mid := [vS x.1, vS x.2]) (post := []) hrdx _ _ _ (Base.Le.refl _) no_res hv)) ?_
   refine sl_alloc tV (wn rfl) rfl hv s10al116 (fun b14 w15 hv => ?_)
   refine uA rfl ?_
   refine xS 0 rfl hv s10sz116 rfl (by exact ⟨rfl, rfl, trivial⟩) (fun w16 hv => ?_)
   simp only [zO, sp] at hv
   refine uW k13 (sK fun _ k17 => ?_)
   refine rW mixed [1] [0,1,2,3,4,5,6,7,8,9,10,11,12,13,14,15,16,17] 34 rfl (by kernel_rfl) hv ?_
   simp only [qm, opAt]
   refine dL (.agg #[vS x.1, vS x.2]) rfl (fun hv => ex_load rfl rfl (lM 0 s10wd116 hv rfl rfl rfl rfl)) (dS rfl fun w18 hv => ?_)
   by_cases hq19 : x.1.length ≤ 4096 ∧ x.2.length ≤ 4096
   ·refine mC s10callable220 rfl ((calls_bool (hashFits B _ _ x hv) (qT hq19)).mono ?_) rfl
    rintro e w20 ⟨rfl, hv⟩
    refine ⟨_, rfl, dW hv ?_⟩
    refine dG (.bool false) rfl (ex_not rfl rfl rfl) ?_
    simp only [zP, po]
    refine dM (.bool false) rfl (dM (vI i) rfl ?_)
    by_cases hb21 : (i : Int) > 0
    ·obtain ⟨j, hj⟩ : ∃ j : Nat, i = j + 1 := ⟨i - 1, by omega⟩
     obtain ⟨y, hy⟩ : ∃ x, l[j]? = some x := ⟨_, List.getElem?_eq_getElem (show j < l.length by omega)⟩
     obtain ⟨b9, o9, had9, hrdy⟩ := pair_reads hr hy
     cases had9
     skip
     refine dG (.bool true) rfl (ex_gtr rfl rfl rfl (qT hb21)) ?_
     simp only [zP, po]
     refine dM (.bool true) rfl (dM (.slice (some ⟨bb, bo, none⟩) l.length c) rfl ?_)
     refine dM (vI i) rfl ?_
     simp only [zP, po]
     refine dG (vI j) rfl (ex_sub rfl rfl rfl (by rw [i64_in (by omega)]; omega)) (dG (.pointer (some ⟨bb, bo + j * 2, none⟩)) rfl (ex_index rfl rfl rfl (run_idx (k := j) Tryz.underlying75 s10es75 (by omega))) ?_)
     refine dG (.pointer (some ⟨bb, bo + j * 2, none⟩)) rfl (ex_field rfl rfl (s10fa116_0 _ _ _)) ?_
     simp only [zP, po]
     refine dL _ rfl (fun hv => ex_load rfl rfl (run_load1 s9na9 (hrdy _ _ _ (Base.Le.refl _) no_res hv 0 _ rfl))) (dG (vP b14) rfl (ex_field rfl rfl (s10fa116_0 _ _ _)) ?_)
     refine dL _ rfl (fun hv => ex_load rfl rfl (run_load1 s9na9 (hv.load 0 0 rfl rfl))) ?_
     simp only [zP, po]
     refine dG (.bool (!Op.bytesLess y.1 x.1)) rfl (ex_sgeq rfl rfl rfl rfl) (dK true (.bool (!Op.bytesLess y.1 x.1)) rfl ?_)
     refine dK false (.bool (!Op.bytesLess y.1 x.1)) rfl (dE fun w22 hv => ?_)
     simp only [zP, po]
     refine tK k17 (wpIn_cond_split (t := !Op.bytesLess y.1 x.1) rfl (fun hc23 => ?_) (fun hc23 => ?_))
     ·refine sK fun _ k24 => rL (uA rfl ?_)
      refine uW k24 (rR ?_)
      refine bZ (tR ?_)
      refine tR (bZ ?_)
      refine tR (bR rfl rfl ?_)
      exact ⟨false, rfl, ⟨fun h => (by cases h), fun h => by have := (h.2 i x hx).2 j y (by omega) hy; rw [this] at hc23; simp at hc23⟩, (hv.kp [] 0 1)⟩
     refine kS (bN ?_)
     refine tK k12 (rL ?_)
     refine uG (vI ((i + 1 : Nat) : Int)) rfl (ex_add rfl rfl rfl (by rw [i64_in (by omega)]; omega)) (uM rfl ?_)
     refine uZ (then_normal ?_)
     go_roundw
     case rel => exact ⟨i + 1, rfl, by omega, fun k hk => (by
        rcases Nat.lt_or_ge k i with h | h
        ·exact hall k h
        obtain rfl : k = i := by omega
        intro x' hx'
        rw [hx] at hx'; cases hx'
        refine ⟨by exact hq19, fun j' y' hj' hy' => ?_⟩
        obtain rfl : j' = j := by omega
        rw [hy] at hy'; cases hy'; simpa using hc23), (hv.kp [] 0 1)⟩
     case measure => show l.length - (((i + 1 : Nat) : Int)).toNat < l.length - ((i : Int)).toNat; omega
    refine dG (.bool false) rfl (ex_gtr rfl rfl rfl (qF hb21)) ?_
    simp only [zP, po]
    refine dM (.bool false) rfl (dP rfl ?_)
    refine dP rfl ?_
    simp only [zP, po]
    refine dP rfl (dP rfl ?_)
    refine dP rfl ?_
    simp only [zP, po]
    refine dP rfl (dP rfl ?_)
    refine dP rfl ?_
    simp only [zP, po]
    refine dP rfl (dK false (.bool false) rfl ?_)
    refine dK false (.bool false) rfl (dE fun w25 hv => ?_)
    simp only [zP, po]
    refine tK k17 (cF rfl ?_)
    refine kS (bN ?_)
    refine tK k12 (rL ?_)
    refine uG (vI ((i + 1 : Nat) : Int)) rfl (ex_add rfl rfl rfl (by rw [i64_in (by omega)]; omega)) (uM rfl ?_)
    refine uZ (then_normal ?_)
    go_roundw
    case rel => exact ⟨i + 1, rfl, by omega, fun k hk => (by
       rcases Nat.lt_or_ge k i with h | h
       ·exact hall k h
       obtain rfl : k = i := by omega
       intro x' hx'
       rw [hx] at hx'; cases hx'
       refine ⟨by exact hq19, fun j' y' hj' hy' => ?_⟩
       omega), (hv.kp [] 0 1)⟩
    case measure => show l.length - (((i + 1 : Nat) : Int)).toNat < l.length - ((i : Int)).toNat; omega
   refine mC s10callable220 rfl ((calls_bool (hashFits B _ _ x hv) (qF hq19)).mono ?_) rfl
   rintro e w26 ⟨rfl, hv⟩
   refine ⟨_, rfl, dW hv ?_⟩
   refine dG (.bool true) rfl (ex_not rfl rfl rfl) ?_
   simp only [zP, po]
   refine dM (.bool true) rfl (dP rfl ?_)
   refine dP rfl ?_
   simp only [zP, po]
   refine dP rfl (dP rfl ?_)
   refine dP rfl ?_
   simp only [zP, po]
   refine dP rfl (dP rfl ?_)
   refine dP rfl ?_
   simp only [zP, po]
   refine dP rfl (dP rfl ?_)
   refine dP rfl ?_
   simp only [zP, po]
   refine dP rfl (dP rfl ?_)
   refine dK true (.bool true) rfl (dE fun w27 hv => ?_)
   simp only [zP, po]
   refine tK k17 (cT rfl ?_)
   refine sK fun _ k28 => rL (uA rfl ?_)
   refine uW k28 (rR ?_)
   refine bZ (tR ?_)
   refine tR (bZ ?_)
   refine tR (bR rfl rfl ?_)
   exact ⟨false, rfl, ⟨fun h => (by cases h), fun h => by have := (h.2 i x hx).1; first | omega | exact absurd this hq19⟩, (hv.kp [] 0 1)⟩
  refine uG (.bool false) rfl (ex_lss rfl rfl rfl (qF hb10)) (uW k9 ?_)
  refine sK fun _ k29 => cF rfl (xE ?_)
  refine tX (tX ?_)
  refine bH (tK k6 ?_)
  refine sK fun _ k30 => rL (uA rfl ?_)
  refine uW k30 (rR ?_)
  refine bR rfl rfl ?_
  obtain rfl : i = l.length := by omega
  exact ⟨true, rfl, ⟨fun _ => ⟨by omega, fun k x hx => hall k (List.getElem?_eq_some_iff.1 hx).1 x hx⟩, fun _ => rfl⟩, hv⟩
def cmpI (a b : Int) : Int := if a < b then -1 else if a > b then 1 else 0
def cmpS (a b : List UInt8) : Int := if Op.bytesLess a b = true then -1 else if Op.bytesLess b a = true then 1 else 0
def orI (a b : Int) : Int := if a ≠ 0 then a else b
def cmpM (a b : Int × List UInt8) : Int := orI (cmpI a.1 b.1) (cmpS a.2 b.2)
theorem nanI (B : Base) (H : List Res) (w : World) (n : Int) (hv : Inv B H w) :
  Calls Tryz.prog 138 #[vI n] w fun e w' => e = .returned (.bool false) ∧ Inv B H w' := by
 refine cW Tryz.func138 rfl Tryz.ntmps138 ?_
 simp only [al]
 refine sK fun _ k1 => rL (uA rfl ?_)
 refine uW k1 (sK fun _ k2 => ?_)
 refine rL (uM rfl ?_)
 refine uM rfl ?_
 refine uG (.bool false) rfl (ex_neq rfl rfl rfl (qF (by simp))) (uA rfl ?_)
 refine uW k2 (rR ?_)
 refine bR rfl rfl (⟨rfl, hv⟩)
theorem nanS (B : Base) (H : List Res) (w : World) (s : List UInt8) (hv : Inv B H w) :
  Calls Tryz.prog 228 #[vS s] w fun e w' => e = .returned (.bool false) ∧ Inv B H w' := by
 refine cW Tryz.func228 rfl Tryz.ntmps228 ?_
 simp only [al]
 refine sK fun _ k1 => rL (uA rfl ?_)
 refine uW k1 (sK fun _ k2 => ?_)
 refine rL (uM rfl ?_)
 refine uM rfl ?_
 refine uG (.bool false) rfl (ex_sneq rfl rfl rfl (qF (by simp))) (uA rfl ?_)
 refine uW k2 (rR ?_)
 refine bR rfl rfl (⟨rfl, hv⟩)
theorem s11callable138 : Callable Tryz.prog 138 := cb Tryz.func138 (by kernel_rfl)
theorem cmpInt (B : Base) (H : List Res) (w : World) (a b : Int) (hv : Inv B H w) :
  Calls Tryz.prog 231 #[vI a, vI b] w fun e w' => e = .returned (vI (cmpI a b)) ∧ Inv B H w' := by
 refine cW Tryz.func231 rfl Tryz.ntmps231 ?_
 simp only [al]
 refine sK fun _ k1 => rL (uA rfl ?_)
 refine uW k1 (sK fun _ k2 => ?_)
 refine rL (uM rfl ?_)
 refine xC s11callable138 rfl ((nanI B _ _ _ hv).mono ?_) rfl
 rintro e w3 ⟨rfl, hv⟩
 refine ⟨_, rfl, uA rfl ?_⟩
 refine uW k2 (sK fun _ k4 => ?_)
 refine rL (uM rfl ?_)
 refine xC s11callable138 rfl ((nanI B _ _ _ hv).mono ?_) rfl
 rintro e w5 ⟨rfl, hv⟩
 refine ⟨_, rfl, uA rfl ?_⟩
 refine uW k4 (sK fun _ k6 => ?_)
 refine sK fun _ k7 => rL (uM rfl ?_)
 refine uW k7 (cF rfl ?_)
 refine kS (tK k6 ?_)
 refine sK fun _ k8 => sK fun _ k9 => rL (uM rfl ?_)
 refine uW k9 (cF rfl ?_)
 refine kS (tK k8 ?_)
 refine sK fun _ k10 => sK fun _ k11 => rL (uM rfl ?_)
 refine uM rfl ?_
 by_cases hb12 : a < b
 ·refine uG (.bool true) rfl (ex_lss rfl rfl rfl (qT hb12)) (uW k11 ?_)
  refine cT rfl (sK fun _ k13 => ?_)
  refine rL (uA rfl ?_)
  refine uW k13 (rR ?_)
  refine tR (bR rfl rfl ?_)
  exact ⟨congrArg (fun b => Ending.returned (vI b)) (by unfold cmpI; simp [*]), hv⟩
 refine uG (.bool false) rfl (ex_lss rfl rfl rfl (qF hb12)) (uW k11 ?_)
 refine cF rfl (kS ?_)
 refine tK k10 (sK fun _ k14 => ?_)
 refine sK fun _ k15 => rL (uM rfl ?_)
 refine uM rfl ?_
 by_cases hb16 : a > b
 ·refine uG (.bool true) rfl (ex_gtr rfl rfl rfl (qT hb16)) (uW k15 ?_)
  refine cT rfl (sK fun _ k17 => ?_)
  refine rL (uA rfl ?_)
  refine uW k17 (rR ?_)
  refine tR (bR rfl rfl ?_)
  exact ⟨congrArg (fun b => Ending.returned (vI b)) (by unfold cmpI; simp [*]), hv⟩
 refine uG (.bool false) rfl (ex_gtr rfl rfl rfl (qF hb16)) (uW k15 ?_)
 refine cF rfl (kS ?_)
 refine tK k14 (sK fun _ k18 => ?_)
 refine rL (uA rfl ?_)
 refine uW k18 (rR ?_)
 refine bR rfl rfl (⟨congrArg (fun b => Ending.returned (vI b)) (by unfold cmpI; simp [*]), hv⟩)
theorem s11callable228 : Callable Tryz.prog 228 := cb Tryz.func228 (by kernel_rfl)
theorem cmpStr (B : Base) (H : List Res) (w : World) (a b : (List UInt8)) (hv : Inv B H w) :
  Calls Tryz.prog 232 #[vS a, vS b] w fun e w' => e = .returned (vI (cmpS a b)) ∧ Inv B H w' := by
 refine cW Tryz.func232 rfl Tryz.ntmps232 ?_
 simp only [al]
 refine sK fun _ k1 => rL (uA rfl ?_)
 refine uW k1 (sK fun _ k2 => ?_)
 refine rL (uM rfl ?_)
 refine xC s11callable228 rfl ((nanS B _ _ _ hv).mono ?_) rfl
 rintro e w3 ⟨rfl, hv⟩
 refine ⟨_, rfl, uA rfl ?_⟩
 refine uW k2 (sK fun _ k4 => ?_)
 refine rL (uM rfl ?_)
 refine xC s11callable228 rfl ((nanS B _ _ _ hv).mono ?_) rfl
 rintro e w5 ⟨rfl, hv⟩
 refine ⟨_, rfl, uA rfl ?_⟩
 refine uW k4 (sK fun _ k6 => ?_)
 refine sK fun _ k7 => rL (uM rfl ?_)
 refine uW k7 (cF rfl ?_)
 refine kS (tK k6 ?_)
 refine sK fun _ k8 => sK fun _ k9 => rL (uM rfl ?_)
 refine uW k9 (cF rfl ?_)
 refine kS (tK k8 ?_)
 refine sK fun _ k10 => sK fun _ k11 => rL (uM rfl ?_)
 refine uM rfl ?_
 refine uG (.bool (Op.bytesLess a b)) rfl (ex_slss rfl rfl rfl rfl) (uW k11 ?_)
 refine wpIn_cond_split (t := Op.bytesLess a b) rfl (fun hc12 => ?_) (fun hc12 => ?_)
 ·refine sK fun _ k13 => rL (uA rfl ?_)
  refine uW k13 (rR ?_)
  refine tR (bR rfl rfl ?_)
  exact ⟨congrArg (fun b => Ending.returned (vI b)) (by unfold cmpS; simp [*]), hv⟩
 refine kS (tK k10 ?_)
 refine sK fun _ k14 => sK fun _ k15 => rL (uM rfl ?_)
 refine uM rfl ?_
 refine uG (.bool (Op.bytesLess b a)) rfl (ex_sgtr rfl rfl rfl rfl) (uW k15 ?_)
 refine wpIn_cond_split (t := Op.bytesLess b a) rfl (fun hc16 => ?_) (fun hc16 => ?_)
 ·refine sK fun _ k17 => rL (uA rfl ?_)
  refine uW k17 (rR ?_)
  refine tR (bR rfl rfl ?_)
  exact ⟨congrArg (fun b => Ending.returned (vI b)) (by unfold cmpS; simp [*]), hv⟩
 refine kS (tK k14 ?_)
 refine sK fun _ k18 => rL (uA rfl ?_)
 refine uW k18 (rR ?_)
 refine bR rfl rfl (⟨congrArg (fun b => Ending.returned (vI b)) (by unfold cmpS; simp [*]), hv⟩)
theorem s11es149 (w : World) : (sizeOf (Tryz.prog.elem 149)).run Tryz.prog w = .ok 1 w := by kernel_rfl
theorem cmpOr (B : Base) (H : List Res) (w : World) (ad : Option Addr) (a b : Int) (R : List Res) (hRH : ∀ r ∈ R, r ∈ H) (hr : RdW B R ad [vI a, vI b]) (hv : Inv B H w) :
  Calls Tryz.prog 230 #[.slice ad 2 2] w fun e w' => e = .returned (vI (orI a b)) ∧ Inv B H w' := by
 refine cW Tryz.func230 rfl Tryz.ntmps230 ?_
 simp only [al]
 refine sK fun _ k1 => rL (uA rfl ?_)
 refine uW k1 (sK fun _ k2 => ?_)
 refine rL (uA rfl ?_)
 refine uW k2 (sK fun _ k3 => ?_)
 refine sK fun _ k4 => rL (uG (.slice ad 2 2) rfl (ex_move rfl rfl) ?_)
 refine uG (vI 2) rfl (ex_len0 Tryz.underlying149 rfl rfl) (uM rfl ?_)
 refine uW k4 (bB ?_)
 gi_loopw [8] (fun x8 wr => ∃ (i : Nat), x8 = vI i ∧ i ≤ 2 ∧ (0 < i → a = 0) ∧ (1 < i → b = 0) ∧ Inv B H wr) (fun x8 _ => 2 - (intOf x8).toNat)
 case atStart => exact ⟨0, rfl, Nat.zero_le _, fun h => by omega, fun h => by omega, hv⟩
 case round =>
  obtain ⟨i, rfl, hi, ha0, hb0, hv⟩ := hrel
  refine sK fun _ k6 => rL ?_
  by_cases hb7 : (i : Int) < 2
  ·refine uG (.bool true) rfl (ex_lss rfl rfl rfl (qT hb7)) (uW k6 ?_)
   refine sK fun _ k8 => cT rfl (kS ?_)
   refine tK k8 (sK fun _ k9 => ?_)
   refine bB (sK fun _ k10 => ?_)
   obtain ⟨x, hx⟩ : ∃ x : Int, ([a, b] : List Int)[i]? = some x := ⟨_, List.getElem?_eq_getElem (by simp; omega)⟩
   have hxv : ([vI a, vI b] : List Value)[i]? = some (vI x) := by
    rcases (show i = 0 ∨ i = 1 by omega) with h | h <;> subst h <;> simp at hx ⊢ <;> exact hx
   obtain ⟨bb, bo, had, hrd⟩ := row1_reads hr hxv
   subst had
   refine rL (uG (.pointer (some ⟨bb, bo + i, none⟩)) rfl (ex_index rfl rfl rfl (run_idx1 (k := i) Tryz.underlying149 s11es149 (by omega))) ?_)
   refine uL _ rfl (run_load1 s2na3 (hrd _ _ _ (Base.Le.refl _) (fun r9 hr9 => (hRH r9 hr9)) hv 0 _ rfl)) (uA rfl ?_)
   refine uW k10 (sK fun _ k11 => ?_)
   refine rL (uM rfl ?_)
   refine uM rfl ?_
   by_cases hb12 : x ≠ 0
   ·refine uG (.bool true) rfl (ex_neq rfl rfl rfl (qT hb12)) (uW k11 ?_)
    refine cT rfl (sK fun _ k13 => ?_)
    refine rL (uM rfl ?_)
    refine uA rfl (uW k13 ?_)
    refine rR (bZ ?_)
    refine tR (tR ?_)
    refine bZ (tR ?_)
    refine bR rfl rfl (⟨congrArg (fun b => Ending.returned (vI b)) (by unfold orI; rcases (show i = 0 ∨ i = 1 by omega) with h | h <;> subst h <;> simp at hx <;> subst hx <;> (try rw [if_neg (by have := ha0 (by omega); omega)]) <;> (try rw [if_pos (by omega)])), hv⟩)
   refine uG (.bool false) rfl (ex_neq rfl rfl rfl (qF hb12)) (uW k11 ?_)
   refine cF rfl (kS ?_)
   refine bN (tK k9 ?_)
   refine rL (uG (vI ((i + 1 : Nat) : Int)) rfl (ex_add rfl rfl rfl (by rw [i64_in (by omega)]; omega)) ?_)
   refine uM rfl (uZ ?_)
   refine then_normal ?_
   go_roundw
   case rel => exact ⟨i + 1, rfl, by omega, fun _ => by rcases (show i = 0 ∨ i = 1 by omega) with h | h <;> subst h <;> simp at hx <;> omega, fun _ => by rcases (show i = 0 ∨ i = 1 by omega) with h | h <;> subst h <;> simp at hx <;> omega, hv⟩
   case measure => show 2 - (((i + 1 : Nat) : Int)).toNat < 2 - ((i : Int)).toNat; omega
  refine uG (.bool false) rfl (ex_lss rfl rfl rfl (qF hb7)) (uW k6 ?_)
  refine sK fun _ k14 => cF rfl (xE ?_)
  refine tX (tX ?_)
  refine bH (tK k3 ?_)
  refine sK fun _ k15 => rL (uM rfl ?_)
  refine uA rfl (uW k15 ?_)
  refine rR (bR rfl rfl ?_)
  exact ⟨congrArg (fun b => Ending.returned (vI b)) (by unfold orI; rw [if_neg (by have := ha0 (by omega); omega)]; have := hb0 (by omega); omega), hv⟩
theorem s11fa118_0 : FA Tryz.prog 118 0 0 := fun w b o => by kernel_rfl
theorem s11callable231 : Callable Tryz.prog 231 := cb Tryz.func231 (by kernel_rfl)
theorem s11callable232 : Callable Tryz.prog 232 := cb Tryz.func232 (by kernel_rfl)
theorem s11callable230 : Callable Tryz.prog 230 := cb Tryz.func230 (by kernel_rfl)
theorem zsetCompare (B : Base) (H : List Res) (w : World) (x y : Int × List UInt8) (hv : Inv B H w) :
  Calls Tryz.prog 224 #[.agg #[vI x.1, vS x.2], .agg #[vI y.1, vS y.2]] w fun e w' => e = .returned (vI (cmpM x y)) ∧ Inv B H w' := by
 refine cW Tryz.func224 rfl Tryz.ntmps224 ?_
 simp only [al]
 refine sK fun _ k1 => rL (sl_box (L := [vI x.1, vS x.2]) tV (wn rfl) rfl rfl hv (fun w => by kernel_rfl) (fun b2 w3 hv => ?_))
 refine sl_box (L := [vI y.1, vS y.2]) tV (wn rfl) rfl rfl hv (fun w => by kernel_rfl) (fun b4 w5 hv => ?_)
 refine uA rfl (uW k1 ?_)
 refine sK fun _ k6 => rW mixed [4, 9, 10, 11] [0,1,2,3,5,6,7,8,4,9,10,11,12] 17 rfl (by kernel_rfl) hv ?_
 simp only [qm, opAt]
 refine dG (vP b2) rfl (ex_field rfl rfl (s11fa118_0 _ _ _)) (dL _ rfl (fun hv => ex_load rfl rfl (run_load1 s2na3 (hv.load 1 0 rfl rfl))) ?_)
 refine dG (vP b4) rfl (ex_field rfl rfl (s11fa118_0 _ _ _)) ?_
 simp only [zP, po]
 refine dL _ rfl (fun hv => ex_load rfl rfl (run_load1 s2na3 (hv.load 0 0 rfl rfl))) (dG (.pointer (some ⟨b2, 1, none⟩)) rfl (ex_field rfl rfl (s9fa118_1 _ _ _)) ?_)
 refine dF _ rfl (fun hv => ex_load rfl rfl (run_load1 s9na9 (hv.load 1 1 rfl rfl))) fun f7 hf7 => ?_
 simp only [zP, po]
 refine dG (.pointer (some ⟨b4, 1, none⟩)) rfl (ex_field rfl rfl (s9fa118_1 _ _ _)) (dF _ rfl (fun hv => ex_load rfl rfl (run_load1 s9na9 (hv.load 0 1 rfl rfl))) fun f8 hf8 => ?_)
 refine dS rfl fun w9 hv => mC s11callable231 rfl ((cmpInt B _ _ _ _ hv).mono ?_) rfl
 rintro e w10 ⟨rfl, hv⟩
 refine ⟨_, rfl, dV hv (fC (fun ww hv => hf8 ww (ex_load rfl rfl (run_load1 s9na9 (hv.load 0 1 rfl rfl)))) (fC (fun ww hv => hf7 ww (ex_load rfl rfl (run_load1 s9na9 (hv.load 1 1 rfl rfl)))) fN)) ?_⟩
 simp only [zP, po]
 refine dS rfl fun w11 hv => mC s11callable232 rfl ((cmpStr B _ _ _ _ hv).mono ?_) rfl
 rintro e w12 ⟨rfl, hv⟩
 refine ⟨_, rfl, dV hv (fK rfl (fK rfl fN)) ?_⟩
 refine dS rfl fun w13 hv => mem_row2 (v1 := vI (cmpI x.1 y.1)) (v2 := vI (cmpS x.2 y.2)) (e := 3) rfl rfl rfl rfl hv (fun w => by kernel_rfl) (fun b14 w15 hv => ?_)
 refine dV hv (fK rfl (fK rfl fN)) (dS rfl fun w16 hv => ?_)
 refine mC s11callable230 rfl ((cmpOr B _ _ _ (cmpI x.1 y.1) (cmpS x.2 y.2) [_] (fun r hr => by rw [List.mem_singleton.1 hr]; exact List.mem_of_getElem? (i := 0) rfl) rdW_cell hv).mono ?_) rfl
 rintro e w17 ⟨rfl, hv⟩
 refine ⟨_, rfl, dV hv (fK rfl (fK rfl fN)) ?_⟩
 simp only [zP, po]
 refine dA (vI (cmpM x y)) rfl (dE fun w18 hv => ?_)
 simp only [zP, po]
 refine tK k6 (rR ?_)
 refine bR rfl rfl (⟨rfl, (hv.kp [] 0 3)⟩)
def memName (m : Int × List UInt8) : List UInt8 := m.2
def ZsetAt (l : List (Int × List UInt8)) (i : Nat) : Prop := ∀ x, l[i]? = some x → ∀ (j : Nat) y, i = j + 1 → l[j]? = some y → cmpM y x < 0
def ZsetOk (l : List (Int × List UInt8)) : Prop := l.length ≤ 512 ∧ l.any (fun m => decide (m.2.length > 4096)) = false ∧ (∀ i, ZsetAt l i) ∧ (l.map memName).Nodup
theorem s11callable223 : Callable Tryz.prog 223 := cb Tryz.func223 (by kernel_rfl)
theorem s11callable222 : Callable Tryz.prog 222 := cb Tryz.func222 (by kernel_rfl)
theorem s11al118 : AL Tryz.prog 118 [vI 0, vS []] := fun w => by kernel_rfl
theorem s11sz118 : (Tryz.prog.info? 118).map (·.size) = some 2 := by kernel_rfl
theorem s11callable224 : Callable Tryz.prog 224 := cb Tryz.func224 (by kernel_rfl)
theorem zsetRightC (B : Base) (H : List Res) (w : World) (ad : Option Addr) (c : Nat) (l : List (Int × List UInt8)) (hr : RdV B [] ad (memCells l)) (hm : l.length ≤ 1000000) (hv : Inv B H w) :
  Calls Tryz.prog 209 #[.slice ad l.length c] w fun e w' => ∃ b, e = .returned (.bool b) ∧ (b = true ↔ ZsetOk l) ∧ Inv B H w' := by
 refine cW Tryz.func209 rfl Tryz.ntmps209 ?_
 simp only [al]
 refine sK fun _ k1 => rL (uA rfl ?_)
 refine uW k1 (sK fun _ k2 => ?_)
 refine sK fun _ k3 => rL (uM rfl ?_)
 refine uG (vI (l.length : Int)) rfl (ex_len0 Tryz.underlying76 rfl rfl) ?_
 by_cases hb4 : (l.length : Int) > 512
 ·refine uG (.bool true) rfl (ex_gtr rfl rfl rfl (qT hb4)) (uM rfl ?_)
  refine uP rfl ?_
  refine uP rfl (uK rfl ?_)
  refine uW k3 (cT rfl ?_)
  refine sK fun _ k5 => rL (uA rfl ?_)
  refine uW k5 (rR ?_)
  refine tR (bR rfl rfl ?_)
  exact ⟨false, rfl, ⟨fun h => (by cases h), fun h => by have := h.1; omega⟩, hv⟩
 refine uG (.bool false) rfl (ex_gtr rfl rfl rfl (qF hb4)) (uM rfl ?_)
 refine uM rfl ?_
 refine xC s11callable222 rfl ((containsFuncMem B _ _ 223 #[] ad c l (fun m : Int × List UInt8 => decide (m.2.length > 4096)) hr hm s11callable223 (fun x _ w hv => zsetLong B _ w x.1 x.2 hv) hv).mono ?_) rfl
 rintro e w6 ⟨rfl, hv⟩
 refine ⟨_, rfl, uK rfl ?_⟩
 refine uW k3 (wpIn_cond_split (t := l.any (fun m : Int × List UInt8 => decide (m.2.length > 4096))) rfl (fun hc7 => ?_) (fun hc7 => ?_))
 ·refine sK fun _ k8 => rL (uA rfl ?_)
  refine uW k8 (rR ?_)
  refine tR (bR rfl rfl ?_)
  exact ⟨false, rfl, ⟨fun h => (by cases h), fun h => by have := h.2.1; rw [hc7] at this; cases this⟩, hv⟩
 refine kS (tK k2 ?_)
 refine sK fun _ k9 => rL (uM rfl ?_)
 refine uG (vI (l.length : Int)) rfl (ex_len0 Tryz.underlying76 rfl rfl) ?_
 refine sl_makeMap (m := (l.length : Int)) tV (wn rfl) rfl rfl Tryz.underlying293 hv (fun mp10 w11 hv => ?_)
 refine uA rfl (uW k9 ?_)
 refine sK fun _ k12 => sK fun _ k13 => rL (uM rfl ?_)
 refine uG (vI (l.length : Int)) rfl (ex_len0 Tryz.underlying76 rfl rfl) (uM rfl ?_)
 refine uW k13 (bB ?_)
 gi_loopw [18] (fun x18 wr => ∃ (i : Nat), x18 = vI i ∧ i ≤ l.length ∧ (∀ k, k < i → ZsetAt l k) ∧ Inv B (Res.keys mp10 (keysOf ((l.take i).map memName)) (i : Int) :: H) wr) (fun x18 _ => l.length - (intOf x18).toNat)
 case atStart => exact ⟨0, rfl, Nat.zero_le _, fun k h => by omega, hv⟩
 case round =>
  obtain ⟨i, rfl, hi, hall, hv⟩ := hrel
  refine sK fun _ k15 => rL ?_
  by_cases hb16 : (i : Int) < (l.length : Int)
  ·refine uG (.bool true) rfl (ex_lss rfl rfl rfl (qT hb16)) (uW k15 ?_)
   refine sK fun _ k17 => cT rfl (kS ?_)
   refine tK k17 (sK fun _ k18 => ?_)
   refine bB (sK fun _ k19 => ?_)
   obtain ⟨x, hx⟩ : ∃ x, l[i]? = some x := ⟨_, List.getElem?_eq_getElem (show i < l.length by omega)⟩
   obtain ⟨bb, bo, had, hrdx⟩ := mem_reads hr hx
   subst had
   refine rL (uM rfl ?_)
   refine uG (.pointer (some ⟨bb, bo + i * 2, none⟩)) rfl (ex_index rfl rfl rfl (run_idx (k := i) Tryz.underlying76 s9es76 (by omega))) ?_
   refine uL (.agg #[vI x.1, vS x.2]) rfl (run_loadR (cs := [vI x.1, vS x.2]) s9wd118 (Reads.mid (pre := []) (mid := [vI x.1, vS x.2]) (post := []) hrdx _ _ _ (Base.Le.refl _) no_res hv)) ?_
   refine sl_alloc tV (wn rfl) rfl hv s11al118 (fun b20 w21 hv => ?_)
   refine uA rfl ?_
   refine xS 0 rfl hv s11sz118 rfl (by exact ⟨rfl, rfl, trivial⟩) (fun w22 hv => ?_)
   simp only [zO, sp] at hv
   refine uW k19 (sK fun _ k23 => ?_)
   refine sK fun _ k24 => rW mixed [9] [0,1,2,3,4,5,6,7,8,9,10,11] 45 rfl (by kernel_rfl) hv ?_
   simp only [qm, opAt]
   refine dM (vI i) rfl ?_
   by_cases hb25 : (i : Int) > 0
   ·obtain ⟨j, hj⟩ : ∃ j : Nat, i = j + 1 := ⟨i - 1, by omega⟩
    obtain ⟨y, hy⟩ : ∃ x, l[j]? = some x := ⟨_, List.getElem?_eq_getElem (show j < l.length by omega)⟩
    obtain ⟨b9, o9, had9, hrdy⟩ := mem_reads hr hy
    cases had9
    skip
    refine dG (.bool true) rfl (ex_gtr rfl rfl rfl (qT hb25)) (dM (.bool true) rfl ?_)
    simp only [zP, po]
    refine dM (.slice (some ⟨bb, bo, none⟩) l.length c) rfl (dM (vI i) rfl ?_)
    refine dG (vI j) rfl (ex_sub rfl rfl rfl (by rw [i64_in (by omega)]; omega)) ?_
    simp only [zP, po]
    refine dG (.pointer (some ⟨bb, bo + j * 2, none⟩)) rfl (ex_index rfl rfl rfl (run_idx (k := j) Tryz.underlying76 s9es76 (by omega))) (dL (.agg #[vI y.1, vS y.2]) rfl (fun hv => ex_load rfl rfl (run_loadR (cs := [vI y.1, vS y.2]) s9wd118 (Reads.mid (pre := []) (mid := [vI y.1, vS y.2]) (post := []) hrdy _ _ _ (Base.Le.refl _) no_res hv))) ?_)
    refine dL (.agg #[vI x.1, vS x.2]) rfl (fun hv => ex_load rfl rfl (lM 0 s9wd118 hv rfl rfl rfl rfl)) ?_
    simp only [zP, po]
    refine dS rfl fun w26 hv => mC s11callable224 rfl ((zsetCompare B _ _ y x hv).mono ?_) rfl
    rintro e w27 ⟨rfl, hv⟩
    refine ⟨_, rfl, dW hv ?_⟩
    by_cases hb28 : (cmpM y x) ≥ 0
    ·refine dG (.bool true) rfl (ex_geq rfl rfl rfl (qT hb28)) (dK true (.bool true) rfl ?_)
     refine dE fun w29 hv => ?_
     simp only [zP, po]
     refine tK k24 (cT rfl ?_)
     refine sK fun _ k30 => rL (uA rfl ?_)
     refine uW k30 (rR ?_)
     refine tR (bZ ?_)
     refine tR (tR ?_)
     refine bZ (tR ?_)
     refine bR rfl rfl (⟨false, rfl, ⟨fun h => (by cases h), fun h => by have := h.2.2.1 i x hx j y (by omega) hy; omega⟩, (hv.kp [] 0 2)⟩)
    refine dG (.bool false) rfl (ex_geq rfl rfl rfl (qF hb28)) (dK true (.bool false) rfl ?_)
    refine dE fun w31 hv => ?_
    simp only [zP, po]
    refine tK k24 (cF rfl ?_)
    refine kS (tK k23 ?_)
    refine rL (uM rfl ?_)
    refine uF (.pointer (some ⟨b20, 1, none⟩)) rfl (s9fa118_1 _ _ _) ?_
    refine uL _ rfl (run_load1 s9na9 (hv.load 0 1 rfl rfl)) (uM rfl ?_)
    replace hv := hv.front 1 rfl
    simp only [eS, eZ] at hv
    refine sl_updStr (k := x.2) (m' := ((i + 1 : Nat) : Int)) tV (wn rfl) rfl rfl rfl rfl Tryz.underlying293 Tryz.underlying9 hv (by omega) (by omega) (fun w32 hv => ?_)
    refine uZ (bN ?_)
    refine tK k18 (rL ?_)
    refine uG (vI ((i + 1 : Nat) : Int)) rfl (ex_add rfl rfl rfl (by rw [i64_in (by omega)]; omega)) (uM rfl ?_)
    refine uZ (then_normal ?_)
    go_roundw
    case rel => exact ⟨i + 1, rfl, by omega, fun k hk => (by
       rcases Nat.lt_or_ge k i with h | h
       ·exact hall k h
       obtain rfl : k = i := by omega
       intro x' hx'
       rw [hx] at hx'; cases hx'
       intro j' y' hj' hy'
       obtain rfl : j' = j := by omega
       rw [hy] at hy'; cases hy'; omega), by rw [take_next hx, List.map_append, List.map_cons, List.map_nil, keysOf_snoc]; exact (hv.kp [] 1 1)⟩
    case measure => show l.length - (((i + 1 : Nat) : Int)).toNat < l.length - ((i : Int)).toNat; omega
   refine dG (.bool false) rfl (ex_gtr rfl rfl rfl (qF hb25)) (dM (.bool false) rfl ?_)
   simp only [zP, po]
   refine dP rfl (dP rfl ?_)
   refine dP rfl ?_
   simp only [zP, po]
   refine dP rfl (dP rfl ?_)
   refine dP rfl ?_
   simp only [zP, po]
   refine dP rfl (dP rfl ?_)
   refine dK false (.bool false) rfl (dE fun w33 hv => ?_)
   simp only [zP, po]
   refine tK k24 (cF rfl ?_)
   refine kS (tK k23 ?_)
   refine rL (uM rfl ?_)
   refine uF (.pointer (some ⟨b20, 1, none⟩)) rfl (s9fa118_1 _ _ _) ?_
   refine uL _ rfl (run_load1 s9na9 (hv.load 0 1 rfl rfl)) (uM rfl ?_)
   replace hv := hv.front 1 rfl
   simp only [eS, eZ] at hv
   refine sl_updStr (k := x.2) (m' := ((i + 1 : Nat) : Int)) tV (wn rfl) rfl rfl rfl rfl Tryz.underlying293 Tryz.underlying9 hv (by omega) (by omega) (fun w34 hv => ?_)
   refine uZ (bN ?_)
   refine tK k18 (rL ?_)
   refine uG (vI ((i + 1 : Nat) : Int)) rfl (ex_add rfl rfl rfl (by rw [i64_in (by omega)]; omega)) (uM rfl ?_)
   refine uZ (then_normal ?_)
   go_roundw
   case rel => exact ⟨i + 1, rfl, by omega, fun k hk => (by
      rcases Nat.lt_or_ge k i with h | h
      ·exact hall k h
      obtain rfl : k = i := by omega
      intro x' hx'
      rw [hx] at hx'; cases hx'
      intro j' y' hj' hy'
      omega), by rw [take_next hx, List.map_append, List.map_cons, List.map_nil, keysOf_snoc]; exact (hv.kp [] 1 1)⟩
   case measure => show l.length - (((i + 1 : Nat) : Int)).toNat < l.length - ((i : Int)).toNat; omega
  refine uG (.bool false) rfl (ex_lss rfl rfl rfl (qF hb16)) (uW k15 ?_)
  refine sK fun _ k35 => cF rfl (xE ?_)
  refine tX (tX ?_)
  refine bH (tK k12 ?_)
  refine sK fun _ k36 => rL (uM rfl ?_)
  refine uG (vI ((keysOf ((l.take i).map memName)).length : Int)) rfl (ex_lenMap 0 Tryz.underlying293 rfl rfl hv rfl) (uM rfl ?_)
  refine uG (vI (l.length : Int)) rfl (ex_len0 Tryz.underlying76 rfl rfl) ?_
  refine uG (.bool (decide (((keysOf ((l.take i).map memName)).length : Int) = (l.length : Int)))) rfl (ex_eql rfl rfl rfl rfl) (uA rfl ?_)
  refine uW k36 (rR ?_)
  refine bR rfl rfl ?_
  obtain rfl : i = l.length := by omega
  have h9 := keysOf_len (l.map memName)
  rw [List.length_map] at h9
  refine ⟨_, rfl, ?_, (hv.kp [] 0 1)⟩
  rw [List.take_length, decide_eq_true_iff]
  constructor
  ·intro h
   exact ⟨by omega, by simpa using hc7, fun k x hx => hall k (List.getElem?_eq_some_iff.1 hx).1 x hx, h9.2.1 (by omega)⟩
  intro h
  have := h9.2.2 h.2.2.2
  omega
end Go.Proofs.YtmhdpjifhfoabaaGreatDoor
