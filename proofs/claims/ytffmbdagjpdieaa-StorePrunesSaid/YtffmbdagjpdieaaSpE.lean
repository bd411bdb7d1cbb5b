/- A map of one's own whose keys are texts and whose elements are numbers: which keys it has. -/
import Derived.Test.YtffmbdagjpdieaaSpD
import Derived.Test.YtffmbdagjpdieaaSpB
import Derived.Test.YtffmbdagjpdieaaRows
set_option maxRecDepth 100000
namespace Go.Pm
open Go.RowKit
def Res.keys (b : Nat) (ks : List (List UInt8)) (m : Int) : Res where
 fp := [b]
 holds w := ∃ (es : Array MapEntry) (clock : Nat), w.heap[b]? = some (.map es clock) ∧ es.toList.map (·.key) = ks.map strV ∧ ∀ e ∈ es.toList, ∃ c : Int, e.val = .int .i64 c ∧ 0 ≤ c ∧ c ≤ m
 stab w w' h := by
  rintro ⟨es, clock, h1, h2, h3⟩
  exact ⟨es, clock, (h b (by simp)).trans h1, h2, h3⟩
theorem strV_beq (a b : List UInt8) : ((⟨a.toArray⟩ : ByteArray) == ⟨b.toArray⟩) = decide (a = b) := by
 show (a.toArray == b.toArray) = _
 by_cases h : a = b
 ·subst h; simp
 rw [decide_eq_false h]
 exact beq_eq_false_iff_ne.2 fun e => h (by simpa using e)
theorem findNow_str (k : List UInt8) : ∀ (es : List MapEntry) (ks : List (List UInt8)) (n : Nat), es.map (·.key) = ks.map strV →
  (k ∉ ks ∧ Instr.findNow .string (strV k) es n = some none) ∨ (k ∈ ks ∧ ∃ i e, es[i]? = some e ∧ e.key = strV k ∧ Instr.findNow .string (strV k) es n = some (some (n + i, e.val)))
 | [], [], n, _ => .inl ⟨by simp, rfl⟩
 | e :: es, k' :: ks, n, h => by
  simp only [List.map_cons, List.cons.injEq] at h
  obtain ⟨h1, h2⟩ := h
  have hs : Instr.sameNow .string (strV k) e.key = some (decide (k = k')) := by
   rw [h1]
   show some ((⟨k.toArray⟩ : ByteArray) == ⟨k'.toArray⟩) = _
   rw [strV_beq]
  by_cases hk : k = k'
  ·subst hk
   refine .inr ⟨List.mem_cons_self, 0, e, rfl, h1, ?_⟩
   simp [Instr.findNow, hs]
  rcases findNow_str k es ks (n + 1) h2 with ⟨h3, h4⟩ | ⟨h3, i, e', h4, h5, h6⟩
  ·exact .inl ⟨by simp [hk, h3], by simp [Instr.findNow, hs, hk, h4]⟩
  exact .inr ⟨List.mem_cons_of_mem _ h3, i + 1, e', by simpa using h4, h5, by
   simp only [Instr.findNow, hs, hk, decide_false, h6]
   rw [show n + 1 + i = n + (i + 1) by omega]⟩
 | [], _ :: _, _, h => by simp at h
 | _ :: _, [], _, h => by simp at h
def addKey (ks : List (List UInt8)) (k : List UInt8) : List (List UInt8) := if k ∈ ks then ks else ks ++ [k]
section
variable {P : Program} {t kt et : TypeId} {w : World} {b : Nat} {ks : List (List UInt8)} {m : Int} {k : List UInt8}
theorem check_succ (hk : P.underlying kt = some .string) (n : Nat) (e : Bool) (s : ByteArray) (w : World) : (Instr.checkKey e (n + 1) kt (.string s)).run P w = .ok () w := by
 simp [Instr.checkKey, run_underlying hk]
theorem run_checkStr (hk : P.underlying kt = some .string) (e : Bool) (s : ByteArray) (w : World) : (Instr.checkKey e 10000 kt (.string s)).run P w = .ok () w := by
 exact check_succ hk 9999 e s w
theorem run_findStr (hk : P.underlying kt = some .string) (es : List MapEntry) (r : Option (Nat × Value)) (h : Instr.findNow .string (strV k) es 0 = some r) (w : World) : (Instr.findKey kt (strV k) es).run P w = .ok r w := by
 simp [Instr.findKey, run_underlying hk, h]
theorem run_lookStr (ht : P.underlying t = some (.map kt et)) (hk : P.underlying kt = some .string) (hz : ∀ w, (zeroValue et).run P w = .ok (.int .i64 0) w) (h : (Res.keys b ks m).holds w) (hm : 0 ≤ m) : ∃ c : Int, (Instr.lookup t (.map (some b)) (strV k) false).run P w = .ok (.int .i64 c) w ∧ 0 ≤ c ∧ c ≤ m := by
 obtain ⟨es, clock, h1, h2, h3⟩ := h
 rcases findNow_str k es.toList ks 0 h2 with ⟨-, h5⟩ | ⟨-, i, e, h4, -, h5⟩
 ·refine ⟨0, ?_, Int.le_refl _, hm⟩
  simp [Instr.lookup, run_underlying ht, getObj, Sem.run, h1, run_checkStr hk, run_findStr hk _ _ h5, hz]
 obtain ⟨c, h6, h7, h8⟩ := h3 e (List.mem_of_getElem? h4)
 refine ⟨c, ?_, h7, h8⟩
 rw [h6] at h5
 simp [Instr.lookup, run_underlying ht, getObj, Sem.run, h1, run_checkStr hk, run_findStr hk _ _ h5]
theorem run_updStr (ht : P.underlying t = some (.map kt et)) (hk : P.underlying kt = some .string) (h : (Res.keys b ks m).holds w) {c m' : Int} (hc : 0 ≤ c ∧ c ≤ m') (hm : m ≤ m') : ∃ w', (Instr.mapUpdate t (.map (some b)) (strV k) (.int .i64 c)).run P w = .ok () w' ∧ Only [b] w w' ∧ (Res.keys b (addKey ks k) m').holds w' := by
 obtain ⟨es, clock, h1, h2, h3⟩ := h
 have hset : ∀ o : Obj, (setObj b o).run P w = .ok () (w.putObj b o) := fun o => by
  simp [setObj, Sem.run, h1, World.putObj]
 have hnew : ∀ o : Obj, (w.putObj b o).heap[b]? = some o := fun o => by
  have hb := (Array.getElem?_eq_some_iff.1 h1).1
  simp [World.putObj, hb]
 rcases findNow_str k es.toList ks 0 h2 with ⟨h4, h5⟩ | ⟨h4, i, e, h6, h7, h5⟩
 ·refine ⟨_, ?_, Only.putObjL w b (.map (es.push { key := strV k, val := .int .i64 c, born := clock }) (clock + 1)), es.push { key := strV k, val := .int .i64 c, born := clock }, clock + 1, hnew _, ?_, ?_⟩
  ·simp [Instr.mapUpdate, run_underlying ht, getObj, Sem.run, h1, run_checkStr hk, run_findStr hk _ _ h5, hset]
  ·simp [addKey, h4, h2]
  intro e he
  simp only [Array.toList_push, List.mem_append, List.mem_singleton] at he
  rcases he with he | he
  ·obtain ⟨c', q1, q2, q3⟩ := h3 e he
   exact ⟨c', q1, q2, Int.le_trans q3 hm⟩
  exact ⟨c, by rw [he], hc.1, hc.2⟩
 have hi := (List.getElem?_eq_some_iff.1 h6).1
 have hsame : (Instr.keyThatStays e.key (strV k)).run P w = .ok (strV k) w := by
  have hb : Instr.sameBits 10000 (strV k) (strV k) = true := by
   show ((⟨k.toArray⟩ : ByteArray) == ⟨k.toArray⟩) = true
   rw [strV_beq]; simp
  rw [h7]
  simp only [Instr.keyThatStays, hb, if_true]
  rfl
 have hget : ((es[i]?).map (·.key)).getD (strV k) = e.key := by
  rw [← Array.getElem?_toList, h6]; rfl
 refine ⟨_, ?_, Only.putObjL w b (.map (es.modify i fun e => { e with key := strV k, val := .int .i64 c }) clock), es.modify i fun e => { e with key := strV k, val := .int .i64 c }, clock, hnew _, ?_, ?_⟩
 ·rw [Nat.zero_add] at h5
  simp only [Instr.mapUpdate, Sem.run_bind, run_underlying ht, Result.andThen_ok]
  simp [getObj, Sem.run, h1, run_checkStr hk, run_findStr hk _ _ h5, hget, hsame, hset]
 ·rw [addKey, if_pos h4, ← h2]
  apply List.ext_getElem?
  intro j
  simp only [Array.toList_modify, List.getElem?_map, List.getElem?_modify]
  by_cases hj : i = j
  ·subst hj
   rw [h6]; simp [h7]
  simp [hj]
 intro e' he'
 obtain ⟨j, hj⟩ := List.mem_iff_getElem?.1 he'
 simp only [Array.toList_modify, List.getElem?_modify] at hj
 by_cases hij : i = j
 ·subst hij
  rw [h6] at hj
  simp at hj
  exact ⟨c, by rw [← hj], hc.1, hc.2⟩
 simp [hij] at hj
 obtain ⟨c', q1, q2, q3⟩ := h3 e' (List.mem_of_getElem? (by rw [← Array.getElem?_toList] at hj; exact hj))
 exact ⟨c', q1, q2, Int.le_trans q3 hm⟩
end
section
variable {F : Fence} {n : Nat} {P : Program} {ops : Array Oper} {Q : Exit → Act → World → Prop} {a : Act} {w : World} {rest : List Oper} {o : Oper} {B : Base} {H : List Res} {t kt et : TypeId} {x y z : Operand} {b : Nat} {ks : List (List UInt8)} {m : Int} {k : List UInt8}
theorem sl_makeMap (hF : ∀ f, F.fn f) (hg : Region.wanted o (yielded ops a.tmps) = true) (ho : o.op = .makeMap t (some x)) (hx : a.eval x = .int .i64 m) (ht : P.underlying t = some (.map kt et)) (hv : Inv B H w)
  (h : ∀ b w', Inv B (Res.keys b [] 0 :: H) w' → wpListIn F n P ops Q rest (a.put o.dst (.map (some b))) w') : wpListIn F n P ops Q (o :: rest) a w := by
 have hr : (Instr.makeMap t (some (.int .i64 m))).run P w = .ok (.map (some w.heap.size)) (w.alloc (.map #[] 0)) := by
  simp [Instr.makeMap, run_underlying ht, asInt, asIntOf, newObj, Sem.run]
 have hex : Ex P a o w (.map (some w.heap.size)) (w.alloc (.map #[] 0)) := by
  unfold Ex; simp [execOp, ho, hx, hr]
 have hnew : (w.alloc (.map #[] 0)).heap[w.heap.size]? = some (.map #[] 0) := heap_alloc_new w _
 refine wpi_exG hF hg (by unfold isDefer; rw [ho]) hex (h _ _ (hv.new ((Below.refl _ _).alloc (Nat.le_refl _) _) (Res.keys w.heap.size [] 0) ⟨#[], 0, hnew, rfl, fun e he => by simp at he⟩ (fun b hb => ?_) (by simp [Res.keys])))
 have : b = w.heap.size := by simpa [Res.keys] using hb
 subst this
 exact ⟨Nat.le_refl _, (Array.getElem?_eq_some_iff.1 hnew).1⟩
theorem sl_lookStr (i : Nat) (hF : ∀ f, F.fn f) (hg : Region.wanted o (yielded ops a.tmps) = true) (ho : o.op = .lookup t x y false) (hx : a.eval x = .map (some b)) (hy : a.eval y = strV k) (ht : P.underlying t = some (.map kt et)) (hk : P.underlying kt = some .string) (hz : ∀ w, (zeroValue et).run P w = .ok (.int .i64 0) w) (hv : Inv B H w) (hi : H[i]? = some (Res.keys b ks m)) (hm : 0 ≤ m)
  (h : ∀ c : Int, 0 ≤ c → c ≤ m → wpListIn F n P ops Q rest (a.put o.dst (.int .i64 c)) w) : wpListIn F n P ops Q (o :: rest) a w := by
 obtain ⟨c, h1, h2, h3⟩ := run_lookStr (k := k) ht hk hz (hv.get i hi) hm
 exact wpi_exG hF hg (by unfold isDefer; rw [ho]) (by unfold Ex; simp [execOp, ho, hx, hy, h1]) (h c h2 h3)
theorem sl_updStr {c m' : Int} (hF : ∀ f, F.fn f) (hg : Region.wanted o (yielded ops a.tmps) = true) (ho : o.op = .mapUpdate t x y z) (hx : a.eval x = .map (some b)) (hy : a.eval y = strV k) (hz : a.eval z = .int .i64 c) (ht : P.underlying t = some (.map kt et)) (hk : P.underlying kt = some .string) (hv : Inv B (Res.keys b ks m :: H) w) (hc : 0 ≤ c ∧ c ≤ m') (hm : m ≤ m')
  (h : ∀ w', Inv B (Res.keys b (addKey ks k) m' :: H) w' → wpListIn F n P ops Q rest (a.put o.dst undef) w') : wpListIn F n P ops Q (o :: rest) a w := by
 obtain ⟨w', h1, h2, h3⟩ := run_updStr (k := k) ht hk hv.head hc hm
 refine wpi_exUG hF hg (by unfold isDefer; rw [ho]) (by unfold ExU; simp [execOp, ho, hx, hy, hz, h1]) (h w' (hv.upd (Res.keys b (addKey ks k) m') h2 h3 (fun b' hb => .inl hb) (fun b' hb => ?_) (by simp [Res.keys])))
 exact Nat.lt_of_lt_of_le (hv.headLt b' hb) h2.size
theorem ex_lenMap (i : Nat) (ht : P.underlying t = some (.map kt et)) (ho : o.op = .call { callee := .builtin .len, args := #[x], argTypes := #[t] }) (hx : a.eval x = .map (some b)) (hv : Inv B H w) (hi : H[i]? = some (Res.keys b ks m)) : Ex P a o w (.int .i64 (ks.length : Int)) w := by
 obtain ⟨es, clock, h1, h2, -⟩ := (hv.get i hi : (Res.keys b ks m).holds w)
 have hl : es.size = ks.length := by have := congrArg List.length h2; simpa using this
 unfold Ex
 simp [execOp, ho, hx, resolve, invoke, builtin, Builtin.len_, run_underlying ht, getObj, Sem.run, h1, goInt, hl]
end
def keysOf (l : List (List UInt8)) : List (List UInt8) := l.foldl addKey []
theorem keysOf_snoc (l : List (List UInt8)) (k : List UInt8) : keysOf (l ++ [k]) = addKey (keysOf l) k := by simp [keysOf]
theorem keysOf_mem (l : List (List UInt8)) : ∀ k, k ∈ keysOf l ↔ k ∈ l := by
 refine snocInd (p := fun l => ∀ k, k ∈ keysOf l ↔ k ∈ l) (fun k => Iff.rfl) (fun l c ih k => ?_) l
 rw [keysOf_snoc, addKey]
 split
 ·rename_i h
  rw [ih] at h
  rw [ih, List.mem_append, List.mem_singleton]
  constructor
  ·exact .inl
  rintro (h2 | rfl)
  ·exact h2
  exact h
 rw [List.mem_append, List.mem_append, ih]
theorem keysOf_len (l : List (List UInt8)) : (keysOf l).length ≤ l.length ∧ ((keysOf l).length = l.length ↔ l.Nodup) := by
 refine snocInd (p := fun l => (keysOf l).length ≤ l.length ∧ ((keysOf l).length = l.length ↔ l.Nodup)) ⟨Nat.le_refl _, by simp [keysOf]⟩ (fun l c ih => ?_) l
 have hn : (l ++ [c]).Nodup ↔ l.Nodup ∧ c ∉ l := by
  rw [List.nodup_append]
  constructor
  ·rintro ⟨h1, -, h2⟩; exact ⟨h1, fun h => h2 c h c (by simp) rfl⟩
  rintro ⟨h1, h2⟩; exact ⟨h1, by simp, fun a ha b hb => by simp at hb; subst hb; intro e; subst e; exact h2 ha⟩
 rw [keysOf_snoc, addKey, List.length_append, hn]
 split
 ·rename_i h
  rw [keysOf_mem] at h
  refine ⟨by simp; omega, ?_⟩
  constructor
  ·intro h2; simp at h2; have := ih.1; omega
  rintro ⟨-, h2⟩; exact absurd h h2
 rename_i h
 rw [keysOf_mem] at h
 rw [List.length_append]
 refine ⟨by simp; exact ih.1, ?_⟩
 simp only [List.length_cons, List.length_nil, Nat.zero_add, Nat.add_right_cancel_iff, ih.2, h, not_false_iff, and_true]
end Go.Pm
/- Writes: a key and a version; rows of them in memory that stays. -/
namespace Go.Pm
open Go.RowKit
structure Wr where
 key : List UInt8
 ver : Ver
abbrev wrCells (v : Wr) (p t z : Value) : List Value := strV v.key :: verCells v.ver p t z
theorem wrCells_one {B : Base} {v : Wr} {p t z : Value} (h : ValAt B v.ver.val p t z) : ∀ u ∈ wrCells v p t z, u.oneCell' = true := by
 intro u hu
 rcases List.mem_cons.1 hu with hu | hu
 ·rw [hu]; rfl
 exact verCells_one h u hu
def WrsAt (B : Base) : List Wr → List Value → Prop
 | [], xs => xs = []
 | v :: l, xs => ∃ p t z r, xs = wrCells v p t z ++ r ∧ ValAt B v.ver.val p t z ∧ WrsAt B l r
theorem WrsAt.more {B C : Base} (hB : B.Le C) : ∀ {l : List Wr} {xs : List Value}, WrsAt B l xs → WrsAt C l xs
 | [], _, h => h
 | _ :: _, _, ⟨p, t, z, r, h1, h2, h3⟩ => ⟨p, t, z, r, h1, h2.more hB, WrsAt.more hB h3⟩
theorem WrsAt.append {B : Base} {k : List Wr} {ys : List Value} (hk : WrsAt B k ys) : ∀ {l : List Wr} {xs : List Value}, WrsAt B l xs → WrsAt B (l ++ k) (xs ++ ys)
 | [], xs, h => by
  cases (show xs = [] from h)
  exact hk
 | v :: l, xs, ⟨p, t, z, r, h1, h2, h3⟩ => by
  subst h1
  exact ⟨p, t, z, r ++ ys, by rw [List.append_assoc], h2, WrsAt.append hk h3⟩
theorem WrsAt.single {B : Base} {v : Wr} {p t z : Value} (h : ValAt B v.ver.val p t z) : WrsAt B [v] (wrCells v p t z) := ⟨p, t, z, [], by simp, h, rfl⟩
theorem WrsAt.len {B : Base} : ∀ {l : List Wr} {xs : List Value}, WrsAt B l xs → xs.length = l.length * 9
 | [], xs, h => by cases (show xs = [] from h); rfl
 | v :: l, xs, ⟨p, t, z, r, h1, h2, h3⟩ => by
  subst h1
  rw [List.length_append, WrsAt.len h3]
  show 9 + l.length * 9 = (l.length + 1) * 9
  omega
theorem WrsAt.get {B : Base} : ∀ {l : List Wr} {xs : List Value}, WrsAt B l xs → ∀ i (hi : i < l.length), ∃ p t z, ValAt B l[i].ver.val p t z ∧ ∀ j, j < 9 → (wrCells l[i] p t z)[j]? = (xs.drop (i * 9))[j]?
 | [], xs, h, i, hi => by simp at hi
 | v :: l, xs, ⟨p, t, z, r, h1, h2, h3⟩, i, hi => by
  subst h1
  cases i with
  | zero => exact ⟨p, t, z, h2, fun j hj => by rw [Nat.zero_mul, List.drop_zero, List.getElem?_append_left hj]; rfl⟩
  | succ i =>
   obtain ⟨p', t', z', e1, e2⟩ := WrsAt.get h3 i (by simpa using hi)
   refine ⟨p', t', z', e1, fun j hj => (e2 j hj).trans ?_⟩
   rw [show (i + 1) * 9 = i * 9 + 9 by rw [Nat.succ_mul], Nat.add_comm, ← List.drop_drop]
   rfl
theorem WrsAt.reads {B : Base} {l : List Wr} {xs : List Value} {ad : Option Addr} {i : Nat} {x : Wr} (h : WrsAt B l xs) (hr : RdV B [] ad xs) (hx : l[i]? = some x) : ∃ b off p t z, ad = some ⟨b, off, none⟩ ∧ ValAt B x.ver.val p t z ∧ Reads B [] b (off + i * 9) (wrCells x p t z) := by
 obtain ⟨hi, rfl⟩ := List.getElem?_eq_some_iff.1 hx
 obtain ⟨p, t, z, h1, h2⟩ := h.get i hi
 have hl := h.len
 have hle : i * 9 + 9 ≤ xs.length := by rw [hl]; have := Nat.mul_le_mul_right 9 (show i + 1 ≤ l.length by omega); rw [Nat.succ_mul] at this; exact this
 obtain ⟨b, off, h3, h4⟩ := rdW_reads (cs := wrCells l[i] p t z) (k := i * 9) (m := 9) (hr.rdW []) hle (by decide) rfl (fun j hj => by
  rw [h2 j hj, List.getElem?_drop])
 exact ⟨b, off, p, t, z, h3, h1, h4⟩
theorem text_reads {B : Base} {l : List (List UInt8)} {ad : Option Addr} {i : Nat} {x : List UInt8} (hr : RdV B [] ad (textCells l)) (hx : l[i]? = some x) : ∃ b off, ad = some ⟨b, off, none⟩ ∧ Reads B [] b (off + i) [strV x] := by
 have hi := (List.getElem?_eq_some_iff.1 hx).1
 refine rdW_reads (k := i) (m := 1) (hr.rdW []) (by rw [textCells_len]; omega) (by decide) rfl (fun j hj => ?_)
 match j, hj with
 | 0, _ => rw [Nat.add_zero, textCells, List.getElem?_map, hx]; rfl
theorem two_get {α : Type} (f : α → List Value) (h2 : ∀ a, (f a).length = 2) {l : List α} {i : Nat} {x : α} (h : l[i]? = some x) : ∀ j, j < 2 → (l.flatMap f)[i * 2 + j]? = (f x)[j]? := by
 induction l generalizing i with
 | nil => simp at h
 | cons a l ih =>
  intro j hj
  cases i with
  | zero =>
   simp only [List.getElem?_cons_zero, Option.some.injEq] at h
   subst h
   rw [List.flatMap_cons, Nat.zero_mul, Nat.zero_add, List.getElem?_append_left (by rw [h2]; exact hj)]
  | succ i =>
   rw [List.flatMap_cons, List.getElem?_append_right (by rw [h2]; omega), h2, show (i + 1) * 2 + j - 2 = i * 2 + j by rw [Nat.succ_mul]; omega]
   exact ih (by simpa using h) j hj
theorem mem_reads {B : Base} {l : List (Int × List UInt8)} {ad : Option Addr} {i : Nat} {x : Int × List UInt8} (hr : RdV B [] ad (memCells l)) (hx : l[i]? = some x) : ∃ b off, ad = some ⟨b, off, none⟩ ∧ Reads B [] b (off + i * 2) [.int .i64 x.1, strV x.2] := by
 have hi := (List.getElem?_eq_some_iff.1 hx).1
 refine rdW_reads (k := i * 2) (m := 2) (hr.rdW []) (by rw [memCells_len]; omega) (by decide) rfl (fun j hj => ?_)
 exact (two_get (fun m : Int × List UInt8 => [.int .i64 m.1, strV m.2]) (fun _ => rfl) hx j hj).symm
theorem pair_reads {B : Base} {l : List (List UInt8 × List UInt8)} {ad : Option Addr} {i : Nat} {x : List UInt8 × List UInt8} (hr : RdV B [] ad (pairCells l)) (hx : l[i]? = some x) : ∃ b off, ad = some ⟨b, off, none⟩ ∧ Reads B [] b (off + i * 2) [strV x.1, strV x.2] := by
 have hi := (List.getElem?_eq_some_iff.1 hx).1
 refine rdW_reads (k := i * 2) (m := 2) (hr.rdW []) (by rw [pairCells_len]; omega) (by decide) rfl (fun j hj => ?_)
 exact (two_get (fun m : List UInt8 × List UInt8 => [strV m.1, strV m.2]) (fun _ => rfl) hx j hj).symm
theorem any_of {α : Type} {l : List α} {p : α → Bool} {i : Nat} {x : α} (h : l[i]? = some x) (hp : p x = true) : l.any p = true := List.any_eq_true.2 ⟨x, List.mem_of_getElem? h, hp⟩
theorem any_none {α : Type} {l : List α} {p : α → Bool} (h : ∀ (i : Nat) x, l[i]? = some x → p x = false) : l.any p = false := by
 rw [List.any_eq_false]
 intro x hx
 obtain ⟨i, hi⟩ := List.mem_iff_getElem?.1 hx
 rw [h i x hi]; simp
end Go.Pm
/- store.twice. -/
namespace Go.Proofs.Ytffmbdagjpdieaa
open Go.RowKit Go.Pm
theorem s8es27 (w : World) : (sizeOf (Try.prog.elem 27)).run Try.prog w = .ok 9 w := by kernel_rfl
theorem s8wd40 : Wide Try.prog 40 9 := wide_of (fun w => by kernel_rfl) (by kernel_rfl)
theorem s8al40 (w : World) : (Instr.alloc 40 true (.tuple #[])).run Try.prog w = .ok (.pointer (some ⟨w.heap.size, 0, none⟩)) (w.alloc (.cells ([.string ⟨([] : List UInt8).toArray⟩, .int .i64 0, .bool false, .int .i64 0, .int .i64 0, .string ⟨([] : List UInt8).toArray⟩, .slice none 0 0, .slice none 0 0, .slice none 0 0] : List Value).toArray 40)) := by kernel_rfl
theorem s8sz40 : (Try.prog.info? 40).map (·.size) = some 9 := by kernel_rfl
theorem s8fa40_0 (w : World) (b o : Nat) : (Instr.fieldAt 40 (.pointer (some ⟨b, o, none⟩)) 0).run Try.prog w = .ok (.pointer (some ⟨b, o + 0, none⟩)) w := by kernel_rfl
set_option maxHeartbeats 2000000 in
theorem storeTwice0 (B : Base) (H : List Res) (w : World) (ad : Option Addr) (c : Nat) (xs : List Value) (l : List Wr) (hr : RdV B [] ad xs) (hxs : WrsAt B l xs) (hm : l.length ≤ 1000000) (hv : Inv B H w) :
  Calls Try.prog 37 #[.slice ad l.length c] w fun e w' => ∃ b, e = .returned (.bool b) ∧ (b = true ↔ ¬ (l.map (·.key)).Nodup) ∧ Inv B H w' := by
 refine (callsIn_wide (n := 5)).1 ?_
 refine callsIn_of_wp Try.func37 rfl trivial ?_
 simp only [Try.ntmps37, List.size_toArray, List.length_cons, List.length_nil, Nat.reduceAdd, Nat.reduceSub, Array.replicate_succ, Array.replicate_zero, List.push_toArray, List.append_toArray, List.nil_append, List.cons_append]
 refine sK fun K1 hK1 => rL ?_
 refine xA (.bool false) rfl rfl rfl ?_
 refine wL ?_
 simp only [zP, zI, zS, zO]
 refine tN (hK1 _ _ ?_)
 clear hK1 K1
 refine sK fun K2 hK2 => rL ?_
 refine xM (.slice ad l.length c) rfl rfl rfl ?_
 refine xG (.int .i64 (l.length : Int)) rfl rfl (ex_len0 Try.underlying27 rfl rfl) ?_
 refine sl_makeMap (m := (l.length : Int)) tV (wn rfl) rfl rfl Try.underlying100 hv (fun mp3 w4 hv => ?_)
 simp only [zP, zI, zS, zO]
 refine xA (.map (some mp3)) rfl rfl rfl ?_
 refine wL ?_
 simp only [zP, zI, zS, zO]
 refine tN (hK2 _ _ ?_)
 clear hK2 K2
 refine sK fun K5 hK5 => ?_
 refine sK fun K6 hK6 => rL ?_
 refine xM (.slice ad l.length c) rfl rfl rfl ?_
 refine xG (.int .i64 (l.length : Int)) rfl rfl (ex_len0 Try.underlying27 rfl rfl) ?_
 refine xM (.int .i64 0) rfl rfl rfl ?_
 refine wL ?_
 simp only [zP, zI, zS, zO]
 refine tN (hK6 _ _ ?_)
 clear hK6 K6
 refine wpIn_block ?_
 gi_loopw [11] (fun x11 wr => ∃ (i : Nat), x11 = .int .i64 (i : Int) ∧ i ≤ l.length ∧ Inv B (Res.keys mp3 (keysOf ((l.take i).map (·.key))) (i : Int) :: H) wr) (fun x11 _ => l.length - (intOf x11).toNat)
 case atStart => exact ⟨0, rfl, Nat.zero_le _, hv⟩
 case round =>
  obtain ⟨i, rfl, hi, hv⟩ := hrel
  refine sK fun K8 hK8 => rL ?_
  by_cases hb9 : (i : Int) < (l.length : Int)
  ·refine xG (.bool true) rfl rfl (ex_lss (k := .i64) (m := (i : Int)) (n := (l.length : Int)) rfl rfl rfl (decide_eq_true hb9)) ?_
   refine wL ?_
   simp only [zP, zI, zS, zO]
   refine tN (hK8 _ _ ?_)
   clear hK8 K8
   refine sK fun K10 hK10 => ?_
   refine wpIn_cond_true rfl ?_
   refine wpIn_skip ?_
   refine tN (hK10 _ _ ?_)
   clear hK10 K10
   refine sK fun K11 hK11 => ?_
   refine wpIn_block ?_
   refine sK fun K12 hK12 => ?_
   obtain ⟨x, hx⟩ : ∃ x, l[i]? = some x := ⟨_, List.getElem?_eq_getElem (show i < l.length by omega)⟩
   obtain ⟨bb, bo, xp, xt, xz, had, hvalx, hrdx⟩ := WrsAt.reads hxs hr hx
   subst had
   refine rL ?_
   refine xG (.pointer (some ⟨bb, bo + i * 9, none⟩)) rfl rfl (ex_index rfl rfl rfl (run_idx (k := i) Try.underlying27 s8es27 (by omega))) ?_
   refine xL (.agg #[.string ⟨x.key.toArray⟩, .int .i64 x.ver.stamp, .bool x.ver.gone, .int .i64 x.ver.expire, .int .i64 x.ver.val.kind, .string ⟨x.ver.val.text.toArray⟩, xp, xt, xz]) rfl rfl rfl (run_loadR (cs := [.string ⟨x.key.toArray⟩, .int .i64 x.ver.stamp, .bool x.ver.gone, .int .i64 x.ver.expire, .int .i64 x.ver.val.kind, .string ⟨x.ver.val.text.toArray⟩, xp, xt, xz]) s8wd40 (Reads.mid (pre := []) (mid := [.string ⟨x.key.toArray⟩, .int .i64 x.ver.stamp, .bool x.ver.gone, .int .i64 x.ver.expire, .int .i64 x.ver.val.kind, .string ⟨x.ver.val.text.toArray⟩, xp, xt, xz]) (post := []) hrdx _ _ _ (Base.Le.refl _) no_res hv)) ?_
   refine sl_alloc tV (wn rfl) rfl hv s8al40 (fun b13 w14 hv => ?_)
   simp only [zP, zI, zS, zO]
   refine sl_storeNAt 0 (new := [.string ⟨x.key.toArray⟩, .int .i64 x.ver.stamp, .bool x.ver.gone, .int .i64 x.ver.expire, .int .i64 x.ver.val.kind, .string ⟨x.ver.val.text.toArray⟩, xp, xt, xz]) (pre := []) (mid := [.string ⟨([] : List UInt8).toArray⟩, .int .i64 0, .bool false, .int .i64 0, .int .i64 0, .string ⟨([] : List UInt8).toArray⟩, .slice none 0 0, .slice none 0 0, .slice none 0 0]) (post := []) (L' := [.string ⟨x.key.toArray⟩, .int .i64 x.ver.stamp, .bool x.ver.gone, .int .i64 x.ver.expire, .int .i64 x.ver.val.kind, .string ⟨x.ver.val.text.toArray⟩, xp, xt, xz]) tV (wn rfl) rfl rfl rfl hv rfl s8sz40 rfl rfl rfl (one_cons rfl (one_cons rfl (one_cons rfl (one_cons rfl (one_cons rfl (one_cons rfl (one_cons hvalx.p.one (one_cons hvalx.t.one (one_cons hvalx.z.one one_nil))))))))) rfl (fun w15 hv => ?_)
   simp only [List.set_cons_zero] at hv
   refine wL ?_
   simp only [zN]
   refine tN (hK12 _ _ ?_)
   clear hK12 K12
   refine rL ?_
   refine xM (.map (some mp3)) rfl rfl rfl ?_
   refine xF (.pointer (some ⟨b13, 0, none⟩)) rfl rfl rfl (s8fa40_0 _ _ _) ?_
   refine xL (.string ⟨x.key.toArray⟩) rfl rfl rfl (run_load1 s3na9 (hv.load 0 0 rfl rfl)) ?_
   simp only [zP, zI, zS, zO]
   refine sl_lookStr 1 (k := x.key) tV (wn rfl) rfl rfl rfl Try.underlying100 Try.underlying9 (fun w => by kernel_rfl) hv rfl (by omega) (fun c16 hc16a hc16b => ?_)
   refine xG (.int .i64 (c16 + 1)) rfl rfl (ex_add (m := c16) (n := 1) rfl rfl rfl (i64_in (by omega))) ?_
   replace hv := hv.front 1 rfl
   simp only [List.eraseIdx_cons_succ, List.eraseIdx_cons_zero] at hv
   refine sl_updStr (k := x.key) (m' := ((i + 1 : Nat) : Int)) tV (wn rfl) rfl rfl rfl rfl Try.underlying100 Try.underlying9 hv (by omega) (by omega) (fun w17 hv => ?_)
   refine wL ?_
   simp only [zP, zN, zI, zS, zO]
   refine blk_normal ?_
   refine tN (hK11 _ _ ?_)
   clear hK11 K11
   refine rL ?_
   refine xG (.int .i64 ((i + 1 : Nat) : Int)) rfl rfl (ex_add (m := (i : Int)) (n := 1) rfl rfl rfl (by rw [i64_in (by omega)]; omega)) ?_
   refine xM (.int .i64 ((i + 1 : Nat) : Int)) rfl rfl rfl ?_
   refine wL ?_
   simp only [zP, zI, zS, zO]
   refine then_normal ?_
   go_roundw
   case rel => exact ⟨i + 1, rfl, by omega, by rw [take_next hx, List.map_append, List.map_cons, List.map_nil, keysOf_snoc]; exact (hv.sub (List.Sublist.cons_cons _ (List.Sublist.cons _ (List.Sublist.refl _))))⟩
   case measure => show l.length - (((i + 1 : Nat) : Int)).toNat < l.length - ((i : Int)).toNat; omega
  refine xG (.bool false) rfl rfl (ex_lss (k := .i64) (m := (i : Int)) (n := (l.length : Int)) rfl rfl rfl (decide_eq_false hb9)) ?_
  refine wL ?_
  simp only [zP, zI, zS, zO]
  refine tN (hK8 _ _ ?_)
  clear hK8 K8
  refine sK fun K18 hK18 => ?_
  refine wpIn_cond_false rfl ?_
  refine wpIn_exit ?_
  refine then_exit ?_
  clear hK18 K18
  refine then_exit ?_
  refine blk_hit ?_
  refine tN (hK5 _ _ ?_)
  clear hK5 K5
  refine sK fun K19 hK19 => rL ?_
  refine xM (.map (some mp3)) rfl rfl rfl ?_
  refine xG (.int .i64 ((keysOf ((l.take i).map (·.key))).length : Int)) rfl rfl (ex_lenMap 0 Try.underlying100 rfl rfl hv rfl) ?_
  refine xM (.slice ad l.length c) rfl rfl rfl ?_
  simp only [zP, zI, zS, zO]
  refine xG (.int .i64 (l.length : Int)) rfl rfl (ex_len0 Try.underlying27 rfl rfl) ?_
  refine xG (.bool (decide (((keysOf ((l.take i).map (·.key))).length : Int) < (l.length : Int)))) rfl rfl (ex_lss (k := .i64) (m := ((keysOf ((l.take i).map (·.key))).length : Int)) (n := (l.length : Int)) rfl rfl rfl rfl) ?_
  refine xA (.bool (decide (((keysOf ((l.take i).map (·.key))).length : Int) < (l.length : Int)))) rfl rfl rfl ?_
  refine wL ?_
  simp only [zP, zI, zS, zO]
  refine tN (hK19 _ _ ?_)
  clear hK19 K19
  refine wpIn_ret ?_
  refine bR rfl rfl ?_
  obtain rfl : i = l.length := by omega
  have h9 := keysOf_len (l.map (·.key))
  rw [List.length_map] at h9
  refine ⟨_, rfl, ?_, (hv.sub (List.Sublist.cons _ (List.Sublist.refl _)))⟩
  rw [List.take_length, decide_eq_true_iff, ← h9.2]
  have h8 := h9.1
  omega
end Go.Proofs.Ytffmbdagjpdieaa
/- slices.ContainsFunc; which values are right: texts, lists, sets, hashes. -/
namespace Go.Proofs.Ytffmbdagjpdieaa
open Go.RowKit Go.Pm
theorem s9es33 (w : World) : (sizeOf (Try.prog.elem 33)).run Try.prog w = .ok 1 w := by kernel_rfl
set_option maxHeartbeats 2000000 in
theorem indexFuncText (B : Base) (H : List Res) (w : World) (f : FuncId) (cb : Array Value) (ad : Option Addr) (c : Nat) (l : List (List UInt8)) (pr : (List UInt8) → Bool) (hr : RdV B [] ad (textCells l)) (hm : l.length ≤ 1000000) (hcal : Callable Try.prog f) (hf : ∀ x ∈ l, ∀ w, Inv B H w → Calls Try.prog f (#[.string ⟨x.toArray⟩] ++ cb) w fun e w' => e = .returned (.bool (pr x)) ∧ Inv B H w') (hv : Inv B H w) :
  Calls Try.prog 48 #[.slice ad l.length c, .func (.func f) #[] cb] w fun e w' => ∃ r : Int, e = .returned (.int .i64 r) ∧ (0 ≤ r ↔ l.any pr = true) ∧ Inv B H w' := by
 refine (callsIn_wide (n := 5)).1 ?_
 refine callsIn_of_wp Try.func48 rfl trivial ?_
 simp only [Try.ntmps48, List.size_toArray, List.length_cons, List.length_nil, Nat.reduceAdd, Nat.reduceSub, Array.replicate_succ, Array.replicate_zero, List.push_toArray, List.append_toArray, List.nil_append, List.cons_append]
 refine sK fun K1 hK1 => rL ?_
 refine xA (.int .i64 0) rfl rfl rfl ?_
 refine wL ?_
 simp only [zP, zI, zS, zO]
 refine tN (hK1 _ _ ?_)
 clear hK1 K1
 refine sK fun K2 hK2 => ?_
 refine sK fun K3 hK3 => rL ?_
 refine xM (.slice ad l.length c) rfl rfl rfl ?_
 refine xG (.int .i64 (l.length : Int)) rfl rfl (ex_len0 Try.underlying33 rfl rfl) ?_
 refine xM (.int .i64 0) rfl rfl rfl ?_
 refine wL ?_
 simp only [zP, zI, zS, zO]
 refine tN (hK3 _ _ ?_)
 clear hK3 K3
 refine wpIn_block ?_
 gi_loopw [8] (fun x8 wr => ∃ (i : Nat), x8 = .int .i64 (i : Int) ∧ i ≤ l.length ∧ (∀ j x, j < i → l[j]? = some x → pr x = false) ∧ Inv B H wr) (fun x8 _ => l.length - (intOf x8).toNat)
 case atStart => exact ⟨0, rfl, Nat.zero_le _, fun j x h => by omega, hv⟩
 case round =>
  obtain ⟨i, rfl, hi, hno, hv⟩ := hrel
  refine sK fun K5 hK5 => rL ?_
  by_cases hb6 : (i : Int) < (l.length : Int)
  ·refine xG (.bool true) rfl rfl (ex_lss (k := .i64) (m := (i : Int)) (n := (l.length : Int)) rfl rfl rfl (decide_eq_true hb6)) ?_
   refine wL ?_
   simp only [zP, zI, zS, zO]
   refine tN (hK5 _ _ ?_)
   clear hK5 K5
   refine sK fun K7 hK7 => ?_
   refine wpIn_cond_true rfl ?_
   refine wpIn_skip ?_
   refine tN (hK7 _ _ ?_)
   clear hK7 K7
   refine sK fun K8 hK8 => ?_
   refine wpIn_block ?_
   refine sK fun K9 hK9 => rL ?_
   refine xM (.int .i64 (i : Int)) rfl rfl rfl ?_
   refine xA (.int .i64 (i : Int)) rfl rfl rfl ?_
   refine wL ?_
   simp only [zP, zI, zS, zO]
   refine tN (hK9 _ _ ?_)
   clear hK9 K9
   refine sK fun K10 hK10 => ?_
   obtain ⟨x, hx⟩ : ∃ x, l[i]? = some x := ⟨_, List.getElem?_eq_getElem (show i < l.length by omega)⟩
   obtain ⟨bb, bo, had, hrdx⟩ := text_reads hr hx
   subst had
   refine rL ?_
   refine xM (.func (.func f) #[] cb) rfl rfl rfl ?_
   refine xM (.slice (some ⟨bb, bo, none⟩) l.length c) rfl rfl rfl ?_
   refine xM (.int .i64 (i : Int)) rfl rfl rfl ?_
   simp only [zP, zI, zS, zO]
   refine xG (.pointer (some ⟨bb, bo + i, none⟩)) rfl rfl (ex_index rfl rfl rfl (run_idx1 (k := i) Try.underlying33 s9es33 (by omega))) ?_
   refine xL (.string ⟨x.toArray⟩) rfl rfl rfl (run_load1 s3na9 (hrdx _ _ _ (Base.Le.refl _) no_res hv 0 _ rfl)) ?_
   refine wpi_callV hcal tV wideC rfl (wn rfl) rfl rfl (args := #[.string ⟨x.toArray⟩]) (by simp only [yA, yB, yC]; rfl) ((hf x (List.mem_of_getElem? hx) _ hv).mono ?_)
   rintro e w11 ⟨rfl, hv⟩
   refine ⟨_, rfl, ?_⟩
   refine wL ?_
   simp only [zP, zI, zS, zO]
   refine tN (hK10 _ _ ?_)
   clear hK10 K10
   refine wpIn_cond_split (t := pr x) rfl (fun hc12 => ?_) (fun hc12 => ?_)
   ·refine sK fun K13 hK13 => rL ?_
    refine xM (.int .i64 (i : Int)) rfl rfl rfl ?_
    refine xA (.int .i64 (i : Int)) rfl rfl rfl ?_
    refine wL ?_
    simp only [zP, zI, zS, zO]
    refine tN (hK13 _ _ ?_)
    clear hK13 K13
    refine wpIn_ret ?_
    refine blk_ret ?_
    refine then_ret ?_
    clear hK8 K8
    refine then_ret ?_
    refine blk_ret ?_
    refine then_ret ?_
    clear hK2 K2
    refine bR rfl rfl ?_
    exact ⟨_, rfl, ⟨fun _ => any_of hx (by simpa using hc12), fun _ => by omega⟩, hv⟩
   refine wpIn_skip ?_
   refine blk_normal ?_
   refine tN (hK8 _ _ ?_)
   clear hK8 K8
   refine rL ?_
   refine xG (.int .i64 ((i + 1 : Nat) : Int)) rfl rfl (ex_add (m := (i : Int)) (n := 1) rfl rfl rfl (by rw [i64_in (by omega)]; omega)) ?_
   refine xM (.int .i64 ((i + 1 : Nat) : Int)) rfl rfl rfl ?_
   refine wL ?_
   simp only [zP, zI, zS, zO]
   refine then_normal ?_
   go_roundw
   case rel => exact ⟨i + 1, rfl, by omega, fun j x' hj hx' => (by
      rcases Nat.lt_or_ge j i with h | h
      ·exact hno j x' h hx'
      obtain rfl : j = i := by omega
      rw [hx] at hx'; cases hx'
      simpa using hc12), hv⟩
   case measure => show l.length - (((i + 1 : Nat) : Int)).toNat < l.length - ((i : Int)).toNat; omega
  refine xG (.bool false) rfl rfl (ex_lss (k := .i64) (m := (i : Int)) (n := (l.length : Int)) rfl rfl rfl (decide_eq_false hb6)) ?_
  refine wL ?_
  simp only [zP, zI, zS, zO]
  refine tN (hK5 _ _ ?_)
  clear hK5 K5
  refine sK fun K14 hK14 => ?_
  refine wpIn_cond_false rfl ?_
  refine wpIn_exit ?_
  refine then_exit ?_
  clear hK14 K14
  refine then_exit ?_
  refine blk_hit ?_
  refine tN (hK2 _ _ ?_)
  clear hK2 K2
  refine sK fun K15 hK15 => rL ?_
  refine xA (.int .i64 (-1)) rfl rfl rfl ?_
  refine wL ?_
  simp only [zP, zI, zS, zO]
  refine tN (hK15 _ _ ?_)
  clear hK15 K15
  refine wpIn_ret ?_
  refine bR rfl rfl ?_
  obtain rfl : i = l.length := by omega
  exact ⟨_, rfl, ⟨fun h => by omega, fun h => by rw [any_none (fun i x hx => hno i x (List.getElem?_eq_some_iff.1 hx).1 hx)] at h; cases h⟩, hv⟩
theorem s9callable48 : Callable Try.prog 48 := ⟨_, Try.func48, by kernel_rfl, by kernel_rfl⟩
set_option maxHeartbeats 2000000 in
theorem containsFuncText (B : Base) (H : List Res) (w : World) (f : FuncId) (cb : Array Value) (ad : Option Addr) (c : Nat) (l : List (List UInt8)) (pr : (List UInt8) → Bool) (hr : RdV B [] ad (textCells l)) (hm : l.length ≤ 1000000) (hcal : Callable Try.prog f) (hf : ∀ x ∈ l, ∀ w, Inv B H w → Calls Try.prog f (#[.string ⟨x.toArray⟩] ++ cb) w fun e w' => e = .returned (.bool (pr x)) ∧ Inv B H w') (hv : Inv B H w) :
  Calls Try.prog 86 #[.slice ad l.length c, .func (.func f) #[] cb] w fun e w' => e = .returned (.bool (l.any pr)) ∧ Inv B H w' := by
 refine (callsIn_wide (n := 5)).1 ?_
 refine callsIn_of_wp Try.func86 rfl trivial ?_
 simp only [Try.ntmps86, List.size_toArray, List.length_cons, List.length_nil, Nat.reduceAdd, Nat.reduceSub, Array.replicate_succ, Array.replicate_zero, List.push_toArray, List.append_toArray, List.nil_append, List.cons_append]
 refine sK fun K1 hK1 => rL ?_
 refine xA (.bool false) rfl rfl rfl ?_
 refine wL ?_
 simp only [zP, zI, zS, zO]
 refine tN (hK1 _ _ ?_)
 clear hK1 K1
 refine sK fun K2 hK2 => rL ?_
 refine xM (.slice ad l.length c) rfl rfl rfl ?_
 refine xM (.func (.func f) #[] cb) rfl rfl rfl ?_
 refine xC s9callable48 rfl rfl (l := [.slice ad l.length c, .func (.func f) #[] cb]) rfl ((indexFuncText B H _ f cb ad c l pr hr hm hcal hf hv).mono ?_)
 rintro e w3 ⟨r, rfl, hra, hv⟩
 refine ⟨_, rfl, ?_⟩
 simp only [zP, zI, zS, zO]
 refine xG (.bool (decide (r ≥ 0))) rfl rfl (ex_geq (k := .i64) (m := r) (n := 0) rfl rfl rfl rfl) ?_
 refine xA (.bool (decide (r ≥ 0))) rfl rfl rfl ?_
 refine wL ?_
 simp only [zP, zI, zS, zO]
 refine tN (hK2 _ _ ?_)
 clear hK2 K2
 refine wpIn_ret ?_
 refine bR rfl rfl ?_
 exact ⟨congrArg (fun b => Ending.returned (Value.bool b)) (by rw [Bool.eq_iff_iff, decide_eq_true_iff]; exact hra), hv⟩
theorem s9es34 (w : World) : (sizeOf (Try.prog.elem 34)).run Try.prog w = .ok 2 w := by kernel_rfl
theorem s9wd85 : Wide Try.prog 85 2 := wide_of (fun w => by kernel_rfl) (by kernel_rfl)
set_option maxHeartbeats 2000000 in
theorem indexFuncMem (B : Base) (H : List Res) (w : World) (f : FuncId) (cb : Array Value) (ad : Option Addr) (c : Nat) (l : List (Int × List UInt8)) (pr : (Int × List UInt8) → Bool) (hr : RdV B [] ad (memCells l)) (hm : l.length ≤ 1000000) (hcal : Callable Try.prog f) (hf : ∀ x ∈ l, ∀ w, Inv B H w → Calls Try.prog f (#[.agg #[.int .i64 x.1, .string ⟨x.2.toArray⟩]] ++ cb) w fun e w' => e = .returned (.bool (pr x)) ∧ Inv B H w') (hv : Inv B H w) :
  Calls Try.prog 92 #[.slice ad l.length c, .func (.func f) #[] cb] w fun e w' => ∃ r : Int, e = .returned (.int .i64 r) ∧ (0 ≤ r ↔ l.any pr = true) ∧ Inv B H w' := by
 refine (callsIn_wide (n := 5)).1 ?_
 refine callsIn_of_wp Try.func92 rfl trivial ?_
 simp only [Try.ntmps92, List.size_toArray, List.length_cons, List.length_nil, Nat.reduceAdd, Nat.reduceSub, Array.replicate_succ, Array.replicate_zero, List.push_toArray, List.append_toArray, List.nil_append, List.cons_append]
 refine sK fun K1 hK1 => rL ?_
 refine xA (.int .i64 0) rfl rfl rfl ?_
 refine wL ?_
 simp only [zP, zI, zS, zO]
 refine tN (hK1 _ _ ?_)
 clear hK1 K1
 refine sK fun K2 hK2 => ?_
 refine sK fun K3 hK3 => rL ?_
 refine xM (.slice ad l.length c) rfl rfl rfl ?_
 refine xG (.int .i64 (l.length : Int)) rfl rfl (ex_len0 Try.underlying34 rfl rfl) ?_
 refine xM (.int .i64 0) rfl rfl rfl ?_
 refine wL ?_
 simp only [zP, zI, zS, zO]
 refine tN (hK3 _ _ ?_)
 clear hK3 K3
 refine wpIn_block ?_
 gi_loopw [8] (fun x8 wr => ∃ (i : Nat), x8 = .int .i64 (i : Int) ∧ i ≤ l.length ∧ (∀ j x, j < i → l[j]? = some x → pr x = false) ∧ Inv B H wr) (fun x8 _ => l.length - (intOf x8).toNat)
 case atStart => exact ⟨0, rfl, Nat.zero_le _, fun j x h => by omega, hv⟩
 case round =>
  obtain ⟨i, rfl, hi, hno, hv⟩ := hrel
  refine sK fun K5 hK5 => rL ?_
  by_cases hb6 : (i : Int) < (l.length : Int)
  ·refine xG (.bool true) rfl rfl (ex_lss (k := .i64) (m := (i : Int)) (n := (l.length : Int)) rfl rfl rfl (decide_eq_true hb6)) ?_
   refine wL ?_
   simp only [zP, zI, zS, zO]
   refine tN (hK5 _ _ ?_)
   clear hK5 K5
   refine sK fun K7 hK7 => ?_
   refine wpIn_cond_true rfl ?_
   refine wpIn_skip ?_
   refine tN (hK7 _ _ ?_)
   clear hK7 K7
   refine sK fun K8 hK8 => ?_
   refine wpIn_block ?_
   refine sK fun K9 hK9 => rL ?_
   refine xM (.int .i64 (i : Int)) rfl rfl rfl ?_
   refine xA (.int .i64 (i : Int)) rfl rfl rfl ?_
   refine wL ?_
   simp only [zP, zI, zS, zO]
   refine tN (hK9 _ _ ?_)
   clear hK9 K9
   refine sK fun K10 hK10 => ?_
   obtain ⟨x, hx⟩ : ∃ x, l[i]? = some x := ⟨_, List.getElem?_eq_getElem (show i < l.length by omega)⟩
   obtain ⟨bb, bo, had, hrdx⟩ := mem_reads hr hx
   subst had
   refine rL ?_
   refine xM (.func (.func f) #[] cb) rfl rfl rfl ?_
   refine xM (.slice (some ⟨bb, bo, none⟩) l.length c) rfl rfl rfl ?_
   refine xM (.int .i64 (i : Int)) rfl rfl rfl ?_
   simp only [zP, zI, zS, zO]
   refine xG (.pointer (some ⟨bb, bo + i * 2, none⟩)) rfl rfl (ex_index rfl rfl rfl (run_idx (k := i) Try.underlying34 s9es34 (by omega))) ?_
   refine xL (.agg #[.int .i64 x.1, .string ⟨x.2.toArray⟩]) rfl rfl rfl (run_loadR (cs := [.int .i64 x.1, .string ⟨x.2.toArray⟩]) s9wd85 (Reads.mid (pre := []) (mid := [.int .i64 x.1, .string ⟨x.2.toArray⟩]) (post := []) hrdx _ _ _ (Base.Le.refl _) no_res hv)) ?_
   refine wpi_callV hcal tV wideC rfl (wn rfl) rfl rfl (args := #[.agg #[.int .i64 x.1, .string ⟨x.2.toArray⟩]]) (by simp only [yA, yB, yC]; rfl) ((hf x (List.mem_of_getElem? hx) _ hv).mono ?_)
   rintro e w11 ⟨rfl, hv⟩
   refine ⟨_, rfl, ?_⟩
   refine wL ?_
   simp only [zP, zI, zS, zO]
   refine tN (hK10 _ _ ?_)
   clear hK10 K10
   refine wpIn_cond_split (t := pr x) rfl (fun hc12 => ?_) (fun hc12 => ?_)
   ·refine sK fun K13 hK13 => rL ?_
    refine xM (.int .i64 (i : Int)) rfl rfl rfl ?_
    refine xA (.int .i64 (i : Int)) rfl rfl rfl ?_
    refine wL ?_
    simp only [zP, zI, zS, zO]
    refine tN (hK13 _ _ ?_)
    clear hK13 K13
    refine wpIn_ret ?_
    refine blk_ret ?_
    refine then_ret ?_
    clear hK8 K8
    refine then_ret ?_
    refine blk_ret ?_
    refine then_ret ?_
    clear hK2 K2
    refine bR rfl rfl ?_
    exact ⟨_, rfl, ⟨fun _ => any_of hx (by simpa using hc12), fun _ => by omega⟩, hv⟩
   refine wpIn_skip ?_
   refine blk_normal ?_
   refine tN (hK8 _ _ ?_)
   clear hK8 K8
   refine rL ?_
   refine xG (.int .i64 ((i + 1 : Nat) : Int)) rfl rfl (ex_add (m := (i : Int)) (n := 1) rfl rfl rfl (by rw [i64_in (by omega)]; omega)) ?_
   refine xM (.int .i64 ((i + 1 : Nat) : Int)) rfl rfl rfl ?_
   refine wL ?_
   simp only [zP, zI, zS, zO]
   refine then_normal ?_
   go_roundw
   case rel => exact ⟨i + 1, rfl, by omega, fun j x' hj hx' => (by
      rcases Nat.lt_or_ge j i with h | h
      ·exact hno j x' h hx'
      obtain rfl : j = i := by omega
      rw [hx] at hx'; cases hx'
      simpa using hc12), hv⟩
   case measure => show l.length - (((i + 1 : Nat) : Int)).toNat < l.length - ((i : Int)).toNat; omega
  refine xG (.bool false) rfl rfl (ex_lss (k := .i64) (m := (i : Int)) (n := (l.length : Int)) rfl rfl rfl (decide_eq_false hb6)) ?_
  refine wL ?_
  simp only [zP, zI, zS, zO]
  refine tN (hK5 _ _ ?_)
  clear hK5 K5
  refine sK fun K14 hK14 => ?_
  refine wpIn_cond_false rfl ?_
  refine wpIn_exit ?_
  refine then_exit ?_
  clear hK14 K14
  refine then_exit ?_
  refine blk_hit ?_
  refine tN (hK2 _ _ ?_)
  clear hK2 K2
  refine sK fun K15 hK15 => rL ?_
  refine xA (.int .i64 (-1)) rfl rfl rfl ?_
  refine wL ?_
  simp only [zP, zI, zS, zO]
  refine tN (hK15 _ _ ?_)
  clear hK15 K15
  refine wpIn_ret ?_
  refine bR rfl rfl ?_
  obtain rfl : i = l.length := by omega
  exact ⟨_, rfl, ⟨fun h => by omega, fun h => by rw [any_none (fun i x hx => hno i x (List.getElem?_eq_some_iff.1 hx).1 hx)] at h; cases h⟩, hv⟩
theorem s9callable92 : Callable Try.prog 92 := ⟨_, Try.func92, by kernel_rfl, by kernel_rfl⟩
set_option maxHeartbeats 2000000 in
theorem containsFuncMem (B : Base) (H : List Res) (w : World) (f : FuncId) (cb : Array Value) (ad : Option Addr) (c : Nat) (l : List (Int × List UInt8)) (pr : (Int × List UInt8) → Bool) (hr : RdV B [] ad (memCells l)) (hm : l.length ≤ 1000000) (hcal : Callable Try.prog f) (hf : ∀ x ∈ l, ∀ w, Inv B H w → Calls Try.prog f (#[.agg #[.int .i64 x.1, .string ⟨x.2.toArray⟩]] ++ cb) w fun e w' => e = .returned (.bool (pr x)) ∧ Inv B H w') (hv : Inv B H w) :
  Calls Try.prog 89 #[.slice ad l.length c, .func (.func f) #[] cb] w fun e w' => e = .returned (.bool (l.any pr)) ∧ Inv B H w' := by
 refine (callsIn_wide (n := 5)).1 ?_
 refine callsIn_of_wp Try.func89 rfl trivial ?_
 simp only [Try.ntmps89, List.size_toArray, List.length_cons, List.length_nil, Nat.reduceAdd, Nat.reduceSub, Array.replicate_succ, Array.replicate_zero, List.push_toArray, List.append_toArray, List.nil_append, List.cons_append]
 refine sK fun K1 hK1 => rL ?_
 refine xA (.bool false) rfl rfl rfl ?_
 refine wL ?_
 simp only [zP, zI, zS, zO]
 refine tN (hK1 _ _ ?_)
 clear hK1 K1
 refine sK fun K2 hK2 => rL ?_
 refine xM (.slice ad l.length c) rfl rfl rfl ?_
 refine xM (.func (.func f) #[] cb) rfl rfl rfl ?_
 refine xC s9callable92 rfl rfl (l := [.slice ad l.length c, .func (.func f) #[] cb]) rfl ((indexFuncMem B H _ f cb ad c l pr hr hm hcal hf hv).mono ?_)
 rintro e w3 ⟨r, rfl, hra, hv⟩
 refine ⟨_, rfl, ?_⟩
 simp only [zP, zI, zS, zO]
 refine xG (.bool (decide (r ≥ 0))) rfl rfl (ex_geq (k := .i64) (m := r) (n := 0) rfl rfl rfl rfl) ?_
 refine xA (.bool (decide (r ≥ 0))) rfl rfl rfl ?_
 refine wL ?_
 simp only [zP, zI, zS, zO]
 refine tN (hK2 _ _ ?_)
 clear hK2 K2
 refine wpIn_ret ?_
 refine bR rfl rfl ?_
 exact ⟨congrArg (fun b => Ending.returned (Value.bool b)) (by rw [Bool.eq_iff_iff, decide_eq_true_iff]; exact hra), hv⟩
set_option maxHeartbeats 2000000 in
theorem indexFuncWr (B : Base) (H : List Res) (w : World) (f : FuncId) (cb : Array Value) (ad : Option Addr) (c : Nat) (l : List Wr) (pr : Wr → Bool) (xs : List Value) (hr : RdV B [] ad xs) (hxs : WrsAt B l xs) (hm : l.length ≤ 1000000) (hcal : Callable Try.prog f) (hf : ∀ x ∈ l, ∀ p t z, ValAt B x.ver.val p t z → ∀ w, Inv B H w → Calls Try.prog f (#[.agg (wrCells x p t z).toArray] ++ cb) w fun e w' => e = .returned (.bool (pr x)) ∧ Inv B H w') (hv : Inv B H w) :
  Calls Try.prog 63 #[.slice ad l.length c, .func (.func f) #[] cb] w fun e w' => ∃ r : Int, e = .returned (.int .i64 r) ∧ (0 ≤ r ↔ l.any pr = true) ∧ Inv B H w' := by
 refine (callsIn_wide (n := 5)).1 ?_
 refine callsIn_of_wp Try.func63 rfl trivial ?_
 simp only [Try.ntmps63, List.size_toArray, List.length_cons, List.length_nil, Nat.reduceAdd, Nat.reduceSub, Array.replicate_succ, Array.replicate_zero, List.push_toArray, List.append_toArray, List.nil_append, List.cons_append]
 refine sK fun K1 hK1 => rL ?_
 refine xA (.int .i64 0) rfl rfl rfl ?_
 refine wL ?_
 simp only [zP, zI, zS, zO]
 refine tN (hK1 _ _ ?_)
 clear hK1 K1
 refine sK fun K2 hK2 => ?_
 refine sK fun K3 hK3 => rL ?_
 refine xM (.slice ad l.length c) rfl rfl rfl ?_
 refine xG (.int .i64 (l.length : Int)) rfl rfl (ex_len0 Try.underlying27 rfl rfl) ?_
 refine xM (.int .i64 0) rfl rfl rfl ?_
 refine wL ?_
 simp only [zP, zI, zS, zO]
 refine tN (hK3 _ _ ?_)
 clear hK3 K3
 refine wpIn_block ?_
 gi_loopw [8] (fun x8 wr => ∃ (i : Nat), x8 = .int .i64 (i : Int) ∧ i ≤ l.length ∧ (∀ j x, j < i → l[j]? = some x → pr x = false) ∧ Inv B H wr) (fun x8 _ => l.length - (intOf x8).toNat)
 case atStart => exact ⟨0, rfl, Nat.zero_le _, fun j x h => by omega, hv⟩
 case round =>
  obtain ⟨i, rfl, hi, hno, hv⟩ := hrel
  refine sK fun K5 hK5 => rL ?_
  by_cases hb6 : (i : Int) < (l.length : Int)
  ·refine xG (.bool true) rfl rfl (ex_lss (k := .i64) (m := (i : Int)) (n := (l.length : Int)) rfl rfl rfl (decide_eq_true hb6)) ?_
   refine wL ?_
   simp only [zP, zI, zS, zO]
   refine tN (hK5 _ _ ?_)
   clear hK5 K5
   refine sK fun K7 hK7 => ?_
   refine wpIn_cond_true rfl ?_
   refine wpIn_skip ?_
   refine tN (hK7 _ _ ?_)
   clear hK7 K7
   refine sK fun K8 hK8 => ?_
   refine wpIn_block ?_
   refine sK fun K9 hK9 => rL ?_
   refine xM (.int .i64 (i : Int)) rfl rfl rfl ?_
   refine xA (.int .i64 (i : Int)) rfl rfl rfl ?_
   refine wL ?_
   simp only [zP, zI, zS, zO]
   refine tN (hK9 _ _ ?_)
   clear hK9 K9
   refine sK fun K10 hK10 => ?_
   obtain ⟨x, hx⟩ : ∃ x, l[i]? = some x := ⟨_, List.getElem?_eq_getElem (show i < l.length by omega)⟩
   obtain ⟨bb, bo, xp, xt, xz, had, hvalx, hrdx⟩ := WrsAt.reads hxs hr hx
   subst had
   refine rL ?_
   refine xM (.func (.func f) #[] cb) rfl rfl rfl ?_
   refine xM (.slice (some ⟨bb, bo, none⟩) l.length c) rfl rfl rfl ?_
   refine xM (.int .i64 (i : Int)) rfl rfl rfl ?_
   simp only [zP, zI, zS, zO]
   refine xG (.pointer (some ⟨bb, bo + i * 9, none⟩)) rfl rfl (ex_index rfl rfl rfl (run_idx (k := i) Try.underlying27 s8es27 (by omega))) ?_
   refine xL (.agg #[.string ⟨x.key.toArray⟩, .int .i64 x.ver.stamp, .bool x.ver.gone, .int .i64 x.ver.expire, .int .i64 x.ver.val.kind, .string ⟨x.ver.val.text.toArray⟩, xp, xt, xz]) rfl rfl rfl (run_loadR (cs := [.string ⟨x.key.toArray⟩, .int .i64 x.ver.stamp, .bool x.ver.gone, .int .i64 x.ver.expire, .int .i64 x.ver.val.kind, .string ⟨x.ver.val.text.toArray⟩, xp, xt, xz]) s8wd40 (Reads.mid (pre := []) (mid := [.string ⟨x.key.toArray⟩, .int .i64 x.ver.stamp, .bool x.ver.gone, .int .i64 x.ver.expire, .int .i64 x.ver.val.kind, .string ⟨x.ver.val.text.toArray⟩, xp, xt, xz]) (post := []) hrdx _ _ _ (Base.Le.refl _) no_res hv)) ?_
   refine wpi_callV hcal tV wideC rfl (wn rfl) rfl rfl (args := #[.agg #[.string ⟨x.key.toArray⟩, .int .i64 x.ver.stamp, .bool x.ver.gone, .int .i64 x.ver.expire, .int .i64 x.ver.val.kind, .string ⟨x.ver.val.text.toArray⟩, xp, xt, xz]]) (by simp only [yA, yB, yC]; rfl) ((hf x (List.mem_of_getElem? hx) xp xt xz hvalx _ hv).mono ?_)
   rintro e w11 ⟨rfl, hv⟩
   refine ⟨_, rfl, ?_⟩
   refine wL ?_
   simp only [zP, zI, zS, zO]
   refine tN (hK10 _ _ ?_)
   clear hK10 K10
   refine wpIn_cond_split (t := pr x) rfl (fun hc12 => ?_) (fun hc12 => ?_)
   ·refine sK fun K13 hK13 => rL ?_
    refine xM (.int .i64 (i : Int)) rfl rfl rfl ?_
    refine xA (.int .i64 (i : Int)) rfl rfl rfl ?_
    refine wL ?_
    simp only [zP, zI, zS, zO]
    refine tN (hK13 _ _ ?_)
    clear hK13 K13
    refine wpIn_ret ?_
    refine blk_ret ?_
    refine then_ret ?_
    clear hK8 K8
    refine then_ret ?_
    refine blk_ret ?_
    refine then_ret ?_
    clear hK2 K2
    refine bR rfl rfl ?_
    exact ⟨_, rfl, ⟨fun _ => any_of hx (by simpa using hc12), fun _ => by omega⟩, hv⟩
   refine wpIn_skip ?_
   refine blk_normal ?_
   refine tN (hK8 _ _ ?_)
   clear hK8 K8
   refine rL ?_
   refine xG (.int .i64 ((i + 1 : Nat) : Int)) rfl rfl (ex_add (m := (i : Int)) (n := 1) rfl rfl rfl (by rw [i64_in (by omega)]; omega)) ?_
   refine xM (.int .i64 ((i + 1 : Nat) : Int)) rfl rfl rfl ?_
   refine wL ?_
   simp only [zP, zI, zS, zO]
   refine then_normal ?_
   go_roundw
   case rel => exact ⟨i + 1, rfl, by omega, fun j x' hj hx' => (by
      rcases Nat.lt_or_ge j i with h | h
      ·exact hno j x' h hx'
      obtain rfl : j = i := by omega
      rw [hx] at hx'; cases hx'
      simpa using hc12), hv⟩
   case measure => show l.length - (((i + 1 : Nat) : Int)).toNat < l.length - ((i : Int)).toNat; omega
  refine xG (.bool false) rfl rfl (ex_lss (k := .i64) (m := (i : Int)) (n := (l.length : Int)) rfl rfl rfl (decide_eq_false hb6)) ?_
  refine wL ?_
  simp only [zP, zI, zS, zO]
  refine tN (hK5 _ _ ?_)
  clear hK5 K5
  refine sK fun K14 hK14 => ?_
  refine wpIn_cond_false rfl ?_
  refine wpIn_exit ?_
  refine then_exit ?_
  clear hK14 K14
  refine then_exit ?_
  refine blk_hit ?_
  refine tN (hK2 _ _ ?_)
  clear hK2 K2
  refine sK fun K15 hK15 => rL ?_
  refine xA (.int .i64 (-1)) rfl rfl rfl ?_
  refine wL ?_
  simp only [zP, zI, zS, zO]
  refine tN (hK15 _ _ ?_)
  clear hK15 K15
  refine wpIn_ret ?_
  refine bR rfl rfl ?_
  obtain rfl : i = l.length := by omega
  exact ⟨_, rfl, ⟨fun h => by omega, fun h => by rw [any_none (fun i x hx => hno i x (List.getElem?_eq_some_iff.1 hx).1 hx)] at h; cases h⟩, hv⟩
theorem s9callable63 : Callable Try.prog 63 := ⟨_, Try.func63, by kernel_rfl, by kernel_rfl⟩
set_option maxHeartbeats 2000000 in
theorem containsFuncWr (B : Base) (H : List Res) (w : World) (f : FuncId) (cb : Array Value) (ad : Option Addr) (c : Nat) (l : List Wr) (pr : Wr → Bool) (xs : List Value) (hr : RdV B [] ad xs) (hxs : WrsAt B l xs) (hm : l.length ≤ 1000000) (hcal : Callable Try.prog f) (hf : ∀ x ∈ l, ∀ p t z, ValAt B x.ver.val p t z → ∀ w, Inv B H w → Calls Try.prog f (#[.agg (wrCells x p t z).toArray] ++ cb) w fun e w' => e = .returned (.bool (pr x)) ∧ Inv B H w') (hv : Inv B H w) :
  Calls Try.prog 50 #[.slice ad l.length c, .func (.func f) #[] cb] w fun e w' => e = .returned (.bool (l.any pr)) ∧ Inv B H w' := by
 refine (callsIn_wide (n := 5)).1 ?_
 refine callsIn_of_wp Try.func50 rfl trivial ?_
 simp only [Try.ntmps50, List.size_toArray, List.length_cons, List.length_nil, Nat.reduceAdd, Nat.reduceSub, Array.replicate_succ, Array.replicate_zero, List.push_toArray, List.append_toArray, List.nil_append, List.cons_append]
 refine sK fun K1 hK1 => rL ?_
 refine xA (.bool false) rfl rfl rfl ?_
 refine wL ?_
 simp only [zP, zI, zS, zO]
 refine tN (hK1 _ _ ?_)
 clear hK1 K1
 refine sK fun K2 hK2 => rL ?_
 refine xM (.slice ad l.length c) rfl rfl rfl ?_
 refine xM (.func (.func f) #[] cb) rfl rfl rfl ?_
 refine xC s9callable63 rfl rfl (l := [.slice ad l.length c, .func (.func f) #[] cb]) rfl ((indexFuncWr B H _ f cb ad c l pr xs hr hxs hm hcal hf hv).mono ?_)
 rintro e w3 ⟨r, rfl, hra, hv⟩
 refine ⟨_, rfl, ?_⟩
 simp only [zP, zI, zS, zO]
 refine xG (.bool (decide (r ≥ 0))) rfl rfl (ex_geq (k := .i64) (m := r) (n := 0) rfl rfl rfl rfl) ?_
 refine xA (.bool (decide (r ≥ 0))) rfl rfl rfl ?_
 refine wL ?_
 simp only [zP, zI, zS, zO]
 refine tN (hK2 _ _ ?_)
 clear hK2 K2
 refine wpIn_ret ?_
 refine bR rfl rfl ?_
 exact ⟨congrArg (fun b => Ending.returned (Value.bool b)) (by rw [Bool.eq_iff_iff, decide_eq_true_iff]; exact hra), hv⟩
set_option maxHeartbeats 2000000 in
theorem listLong (B : Base) (H : List Res) (w : World) (s : List UInt8) (hv : Inv B H w) :
  Calls Try.prog 87 #[.string ⟨s.toArray⟩] w fun e w' => e = .returned (.bool (decide (s.length > 4096))) ∧ Inv B H w' := by
 refine (callsIn_wide (n := 5)).1 ?_
 refine callsIn_of_wp Try.func87 rfl trivial ?_
 simp only [Try.ntmps87, List.size_toArray, List.length_cons, List.length_nil, Nat.reduceAdd, Nat.reduceSub, Array.replicate_succ, Array.replicate_zero, List.push_toArray, List.append_toArray, List.nil_append, List.cons_append]
 refine sK fun K1 hK1 => rL ?_
 refine xA (.bool false) rfl rfl rfl ?_
 refine wL ?_
 simp only [zP, zI, zS, zO]
 refine tN (hK1 _ _ ?_)
 clear hK1 K1
 refine sK fun K2 hK2 => rL ?_
 refine xM (.string ⟨s.toArray⟩) rfl rfl rfl ?_
 refine xG (.int .i64 (s.length : Int)) rfl rfl (ex_lenStr Try.underlying9 rfl rfl) ?_
 refine xG (.bool (decide ((s.length : Int) > 4096))) rfl rfl (ex_gtr (k := .i64) (m := (s.length : Int)) (n := 4096) rfl rfl rfl rfl) ?_
 simp only [zP, zI, zS, zO]
 refine xA (.bool (decide ((s.length : Int) > 4096))) rfl rfl rfl ?_
 refine wL ?_
 simp only [zP, zI, zS, zO]
 refine tN (hK2 _ _ ?_)
 clear hK2 K2
 refine wpIn_ret ?_
 refine bR rfl rfl ?_
 exact ⟨congrArg (fun b => Ending.returned (Value.bool b)) (decide_eq_decide.2 (by omega)), hv⟩
set_option maxHeartbeats 2000000 in
theorem setLong (B : Base) (H : List Res) (w : World) (s : List UInt8) (hv : Inv B H w) :
  Calls Try.prog 88 #[.string ⟨s.toArray⟩] w fun e w' => e = .returned (.bool (decide (s.length > 4096))) ∧ Inv B H w' := by
 refine (callsIn_wide (n := 5)).1 ?_
 refine callsIn_of_wp Try.func88 rfl trivial ?_
 simp only [Try.ntmps88, List.size_toArray, List.length_cons, List.length_nil, Nat.reduceAdd, Nat.reduceSub, Array.replicate_succ, Array.replicate_zero, List.push_toArray, List.append_toArray, List.nil_append, List.cons_append]
 refine sK fun K1 hK1 => rL ?_
 refine xA (.bool false) rfl rfl rfl ?_
 refine wL ?_
 simp only [zP, zI, zS, zO]
 refine tN (hK1 _ _ ?_)
 clear hK1 K1
 refine sK fun K2 hK2 => rL ?_
 refine xM (.string ⟨s.toArray⟩) rfl rfl rfl ?_
 refine xG (.int .i64 (s.length : Int)) rfl rfl (ex_lenStr Try.underlying9 rfl rfl) ?_
 refine xG (.bool (decide ((s.length : Int) > 4096))) rfl rfl (ex_gtr (k := .i64) (m := (s.length : Int)) (n := 4096) rfl rfl rfl rfl) ?_
 simp only [zP, zI, zS, zO]
 refine xA (.bool (decide ((s.length : Int) > 4096))) rfl rfl rfl ?_
 refine wL ?_
 simp only [zP, zI, zS, zO]
 refine tN (hK2 _ _ ?_)
 clear hK2 K2
 refine wpIn_ret ?_
 refine bR rfl rfl ?_
 exact ⟨congrArg (fun b => Ending.returned (Value.bool b)) (decide_eq_decide.2 (by omega)), hv⟩
theorem s9fa85_1 (w : World) (b o : Nat) : (Instr.fieldAt 85 (.pointer (some ⟨b, o, none⟩)) 1).run Try.prog w = .ok (.pointer (some ⟨b, o + 1, none⟩)) w := by kernel_rfl
set_option maxHeartbeats 2000000 in
theorem zsetLong (B : Base) (H : List Res) (w : World) (n : Int) (s : List UInt8) (hv : Inv B H w) :
  Calls Try.prog 90 #[.agg #[.int .i64 n, .string ⟨s.toArray⟩]] w fun e w' => e = .returned (.bool (decide (s.length > 4096))) ∧ Inv B H w' := by
 refine (callsIn_wide (n := 5)).1 ?_
 refine callsIn_of_wp Try.func90 rfl trivial ?_
 simp only [Try.ntmps90, List.size_toArray, List.length_cons, List.length_nil, Nat.reduceAdd, Nat.reduceSub, Array.replicate_succ, Array.replicate_zero, List.push_toArray, List.append_toArray, List.nil_append, List.cons_append]
 refine sK fun K1 hK1 => rL ?_
 refine sl_box (L := [.int .i64 n, .string ⟨s.toArray⟩]) tV (wn rfl) rfl (p := .agg #[.int .i64 n, .string ⟨s.toArray⟩]) rfl hv (fun w => by kernel_rfl) (fun b2 w3 hv => ?_)
 refine xA (.bool false) rfl rfl rfl ?_
 refine wL ?_
 simp only [zP, zI, zS, zO]
 refine tN (hK1 _ _ ?_)
 clear hK1 K1
 refine sK fun K4 hK4 => rL ?_
 refine xF (.pointer (some ⟨b2, 1, none⟩)) rfl rfl rfl (s9fa85_1 _ _ _) ?_
 refine xL (.string ⟨s.toArray⟩) rfl rfl rfl (run_load1 s3na9 (hv.load 0 1 rfl rfl)) ?_
 refine xG (.int .i64 (s.length : Int)) rfl rfl (ex_lenStr Try.underlying9 rfl rfl) ?_
 simp only [zP, zI, zS, zO]
 refine xG (.bool (decide ((s.length : Int) > 4096))) rfl rfl (ex_gtr (k := .i64) (m := (s.length : Int)) (n := 4096) rfl rfl rfl rfl) ?_
 refine xA (.bool (decide ((s.length : Int) > 4096))) rfl rfl rfl ?_
 refine wL ?_
 simp only [zP, zI, zS, zO]
 refine tN (hK4 _ _ ?_)
 clear hK4 K4
 refine wpIn_ret ?_
 refine bR rfl rfl ?_
 exact ⟨congrArg (fun b => Ending.returned (Value.bool b)) (decide_eq_decide.2 (by omega)), (hv.sub (List.Sublist.cons _ (List.Sublist.refl _)))⟩
def listRight (l : List (List UInt8)) : Bool := decide (l.length ≤ 512) && !l.any (fun s : List UInt8 => decide (s.length > 4096))
theorem s9callable87 : Callable Try.prog 87 := ⟨_, Try.func87, by kernel_rfl, by kernel_rfl⟩
theorem s9callable86 : Callable Try.prog 86 := ⟨_, Try.func86, by kernel_rfl, by kernel_rfl⟩
set_option maxHeartbeats 2000000 in
theorem listRightC (B : Base) (H : List Res) (w : World) (ad : Option Addr) (c : Nat) (l : List (List UInt8)) (hr : RdV B [] ad (textCells l)) (hm : l.length ≤ 1000000) (hv : Inv B H w) :
  Calls Try.prog 80 #[.slice ad l.length c] w fun e w' => e = .returned (.bool (listRight l)) ∧ Inv B H w' := by
 refine (callsIn_wide (n := 5)).1 ?_
 refine callsIn_of_wp Try.func80 rfl trivial ?_
 simp only [Try.ntmps80, List.size_toArray, List.length_cons, List.length_nil, Nat.reduceAdd, Nat.reduceSub, Array.replicate_succ, Array.replicate_zero, List.push_toArray, List.append_toArray, List.nil_append, List.cons_append]
 refine sK fun K1 hK1 => rL ?_
 refine xA (.bool false) rfl rfl rfl ?_
 refine wL ?_
 simp only [zP, zI, zS, zO]
 refine tN (hK1 _ _ ?_)
 clear hK1 K1
 refine sK fun K2 hK2 => rL ?_
 refine xM (.slice ad l.length c) rfl rfl rfl ?_
 refine xG (.int .i64 (l.length : Int)) rfl rfl (ex_len0 Try.underlying33 rfl rfl) ?_
 by_cases hb3 : (l.length : Int) ≤ 512
 ·refine xG (.bool true) rfl rfl (ex_leq (k := .i64) (m := (l.length : Int)) (n := 512) rfl rfl rfl (decide_eq_true hb3)) ?_
  simp only [zP, zI, zS, zO]
  refine xM (.bool true) rfl rfl rfl ?_
  refine xH 3 6 true (.slice ad l.length c) rfl rfl rfl rfl (ex_move rfl rfl) ?_
  refine wpi_callG s9callable86 tV wideC rfl (wanted_of (j := 3) (d := 6) (b := true) rfl rfl rfl) rfl (args := #[.slice ad l.length c, .func (.func 87) #[] #[]]) (by simp only [yA, yB, yC]; rfl) ((containsFuncText B _ _ 87 #[] ad c l (fun s : List UInt8 => decide (s.length > 4096)) hr hm s9callable87 (fun x _ w hv => listLong B _ w x hv) hv).mono ?_)
  rintro e w4 ⟨rfl, hv⟩
  refine ⟨_, rfl, ?_⟩
  simp only [zP, zI, zS, zO]
  refine xH 3 6 true (.bool (!(l.any (fun s : List UInt8 => decide (s.length > 4096))))) rfl rfl rfl rfl (ex_not (b := (l.any (fun s : List UInt8 => decide (s.length > 4096)))) rfl rfl rfl) ?_
  refine xK true (.bool (!(l.any (fun s : List UInt8 => decide (s.length > 4096))))) rfl rfl rfl rfl ?_
  refine xA (.bool (!(l.any (fun s : List UInt8 => decide (s.length > 4096))))) rfl rfl rfl ?_
  refine wL ?_
  simp only [zP, zI, zS, zO]
  refine tN (hK2 _ _ ?_)
  clear hK2 K2
  refine wpIn_ret ?_
  refine bR rfl rfl ?_
  exact ⟨congrArg (fun b => Ending.returned (Value.bool b)) (by unfold listRight; first | rw [decide_eq_true (by omega : l.length ≤ 512)]; rfl | (rw [decide_eq_false (by omega : ¬ l.length ≤ 512)]; rfl)), hv⟩
 refine xG (.bool false) rfl rfl (ex_leq (k := .i64) (m := (l.length : Int)) (n := 512) rfl rfl rfl (decide_eq_false hb3)) ?_
 simp only [zP, zI, zS, zO]
 refine xM (.bool false) rfl rfl rfl ?_
 refine xT 3 6 true false rfl rfl rfl rfl rfl rfl rfl (by decide) ?_
 simp only [zP, zI, zS, zO]
 refine xK false (.bool false) rfl rfl rfl rfl ?_
 refine xA (.bool false) rfl rfl rfl ?_
 refine wL ?_
 simp only [zP, zI, zS, zO]
 refine tN (hK2 _ _ ?_)
 clear hK2 K2
 refine wpIn_ret ?_
 refine bR rfl rfl ?_
 exact ⟨congrArg (fun b => Ending.returned (Value.bool b)) (by unfold listRight; first | rw [decide_eq_true (by omega : l.length ≤ 512)]; rfl | (rw [decide_eq_false (by omega : ¬ l.length ≤ 512)]; rfl)), hv⟩
end Go.Proofs.Ytffmbdagjpdieaa
/- Which sets and hashes are right. -/
namespace Go.Proofs.Ytffmbdagjpdieaa
open Go.RowKit Go.Pm
theorem calls_bool {P : Program} {f : FuncId} {args : Array Value} {w : World} {R : World → Prop} {b b' : Bool} (h : Calls P f args w fun e w' => e = .returned (.bool b) ∧ R w') (hb : b = b') : Calls P f args w fun e w' => e = .returned (.bool b') ∧ R w' := hb ▸ h
def SetAt (l : List (List UInt8)) (i : Nat) : Prop := ∀ x, l[i]? = some x → x.length ≤ 4096 ∧ ∀ (j : Nat) y, i = j + 1 → l[j]? = some y → Op.bytesLess y x = true
def SetOk (l : List (List UInt8)) : Prop := l.length ≤ 512 ∧ ∀ i, SetAt l i
def HashAt (l : List (List UInt8 × List UInt8)) (i : Nat) : Prop := ∀ x, l[i]? = some x → (x.1.length ≤ 4096 ∧ x.2.length ≤ 4096) ∧ ∀ (j : Nat) y, i = j + 1 → l[j]? = some y → Op.bytesLess y.1 x.1 = true
def HashOk (l : List (List UInt8 × List UInt8)) : Prop := l.length ≤ 512 ∧ ∀ i, HashAt l i
theorem s10callable88 : Callable Try.prog 88 := ⟨_, Try.func88, by kernel_rfl, by kernel_rfl⟩
set_option maxHeartbeats 2000000 in
theorem setRightC (B : Base) (H : List Res) (w : World) (ad : Option Addr) (c : Nat) (l : List (List UInt8)) (hr : RdV B [] ad (textCells l)) (hm : l.length ≤ 1000000) (hv : Inv B H w) :
  Calls Try.prog 81 #[.slice ad l.length c] w fun e w' => ∃ b, e = .returned (.bool b) ∧ (b = true ↔ SetOk l) ∧ Inv B H w' := by
 refine (callsIn_wide (n := 5)).1 ?_
 refine callsIn_of_wp Try.func81 rfl trivial ?_
 simp only [Try.ntmps81, List.size_toArray, List.length_cons, List.length_nil, Nat.reduceAdd, Nat.reduceSub, Array.replicate_succ, Array.replicate_zero, List.push_toArray, List.append_toArray, List.nil_append, List.cons_append]
 refine sK fun K1 hK1 => rL ?_
 refine xA (.bool false) rfl rfl rfl ?_
 refine wL ?_
 simp only [zP, zI, zS, zO]
 refine tN (hK1 _ _ ?_)
 clear hK1 K1
 refine sK fun K2 hK2 => ?_
 refine sK fun K3 hK3 => rL ?_
 refine xM (.slice ad l.length c) rfl rfl rfl ?_
 refine xG (.int .i64 (l.length : Int)) rfl rfl (ex_len0 Try.underlying33 rfl rfl) ?_
 by_cases hb4 : (l.length : Int) > 512
 ·refine xG (.bool true) rfl rfl (ex_gtr (k := .i64) (m := (l.length : Int)) (n := 512) rfl rfl rfl (decide_eq_true hb4)) ?_
  refine wL ?_
  simp only [zP, zI, zS, zO]
  refine tN (hK3 _ _ ?_)
  clear hK3 K3
  refine wpIn_cond_true rfl ?_
  refine sK fun K5 hK5 => rL ?_
  refine xA (.bool false) rfl rfl rfl ?_
  refine wL ?_
  simp only [zP, zI, zS, zO]
  refine tN (hK5 _ _ ?_)
  clear hK5 K5
  refine wpIn_ret ?_
  refine then_ret ?_
  clear hK2 K2
  refine bR rfl rfl ?_
  exact ⟨false, rfl, ⟨fun h => (by cases h), fun h => by have := h.1; omega⟩, hv⟩
 refine xG (.bool false) rfl rfl (ex_gtr (k := .i64) (m := (l.length : Int)) (n := 512) rfl rfl rfl (decide_eq_false hb4)) ?_
 refine wL ?_
 simp only [zP, zI, zS, zO]
 refine tN (hK3 _ _ ?_)
 clear hK3 K3
 refine wpIn_cond_false rfl ?_
 refine wpIn_skip ?_
 refine tN (hK2 _ _ ?_)
 clear hK2 K2
 refine sK fun K6 hK6 => ?_
 refine sK fun K7 hK7 => rL ?_
 refine xM (.slice ad l.length c) rfl rfl rfl ?_
 refine xG (.int .i64 (l.length : Int)) rfl rfl (ex_len0 Try.underlying33 rfl rfl) ?_
 refine xM (.int .i64 0) rfl rfl rfl ?_
 refine wL ?_
 simp only [zP, zI, zS, zO]
 refine tN (hK7 _ _ ?_)
 clear hK7 K7
 refine wpIn_block ?_
 gi_loopw [10] (fun x10 wr => ∃ (i : Nat), x10 = .int .i64 (i : Int) ∧ i ≤ l.length ∧ (∀ k, k < i → SetAt l k) ∧ Inv B H wr) (fun x10 _ => l.length - (intOf x10).toNat)
 case atStart => exact ⟨0, rfl, Nat.zero_le _, fun k h => by omega, hv⟩
 case round =>
  obtain ⟨i, rfl, hi, hall, hv⟩ := hrel
  refine sK fun K9 hK9 => rL ?_
  by_cases hb10 : (i : Int) < (l.length : Int)
  ·refine xG (.bool true) rfl rfl (ex_lss (k := .i64) (m := (i : Int)) (n := (l.length : Int)) rfl rfl rfl (decide_eq_true hb10)) ?_
   refine wL ?_
   simp only [zP, zI, zS, zO]
   refine tN (hK9 _ _ ?_)
   clear hK9 K9
   refine sK fun K11 hK11 => ?_
   refine wpIn_cond_true rfl ?_
   refine wpIn_skip ?_
   refine tN (hK11 _ _ ?_)
   clear hK11 K11
   refine sK fun K12 hK12 => ?_
   refine wpIn_block ?_
   refine sK fun K13 hK13 => ?_
   obtain ⟨x, hx⟩ : ∃ x, l[i]? = some x := ⟨_, List.getElem?_eq_getElem (show i < l.length by omega)⟩
   obtain ⟨bb, bo, had, hrdx⟩ := text_reads hr hx
   subst had
   refine rL ?_
   refine xM (.int .i64 (i : Int)) rfl rfl rfl ?_
   refine xG (.pointer (some ⟨bb, bo + i, none⟩)) rfl rfl (ex_index rfl rfl rfl (run_idx1 (k := i) Try.underlying33 s9es33 (by omega))) ?_
   refine xL (.string ⟨x.toArray⟩) rfl rfl rfl (run_load1 s3na9 (hrdx _ _ _ (Base.Le.refl _) no_res hv 0 _ rfl)) ?_
   simp only [zP, zI, zS, zO]
   refine xA (.int .i64 (i : Int)) rfl rfl rfl ?_
   refine xA (.string ⟨x.toArray⟩) rfl rfl rfl ?_
   refine wL ?_
   simp only [zP, zI, zS, zO]
   refine tN (hK13 _ _ ?_)
   clear hK13 K13
   refine sK fun K14 hK14 => rL ?_
   refine xM (.string ⟨x.toArray⟩) rfl rfl rfl ?_
   by_cases hq15 : x.length > 4096
   ·refine xC s10callable88 rfl rfl (l := [.string ⟨x.toArray⟩]) rfl ((calls_bool (setLong B _ _ x hv) (decide_eq_true hq15)).mono ?_)
    rintro e w16 ⟨rfl, hv⟩
    refine ⟨_, rfl, ?_⟩
    refine xM (.bool true) rfl rfl rfl ?_
    simp only [zP, zI, zS, zO]
    refine xT 2 17 false true rfl rfl rfl rfl rfl rfl rfl (by decide) ?_
    simp only [zP, zI, zS, zO]
    refine xU 5 20 rfl rfl rfl ?_
    refine xU 5 20 rfl rfl rfl ?_
    refine xU 5 20 rfl rfl rfl ?_
    simp only [zP, zI, zS, zO]
    refine xU 5 20 rfl rfl rfl ?_
    refine xU 5 20 rfl rfl rfl ?_
    refine xU 5 20 rfl rfl rfl ?_
    simp only [zP, zI, zS, zO]
    refine xU 5 20 rfl rfl rfl ?_
    refine xN 2 17 false true rfl rfl rfl (by decide) ?_
    refine xK true (.bool true) rfl rfl rfl rfl ?_
    refine wL ?_
    simp only [zP, zI, zS, zO]
    refine tN (hK14 _ _ ?_)
    clear hK14 K14
    refine wpIn_cond_true rfl ?_
    refine sK fun K17 hK17 => rL ?_
    refine xA (.bool false) rfl rfl rfl ?_
    refine wL ?_
    simp only [zP, zI, zS, zO]
    refine tN (hK17 _ _ ?_)
    clear hK17 K17
    refine wpIn_ret ?_
    refine blk_ret ?_
    refine then_ret ?_
    clear hK12 K12
    refine then_ret ?_
    refine blk_ret ?_
    refine then_ret ?_
    clear hK6 K6
    refine bR rfl rfl ?_
    exact ⟨false, rfl, ⟨fun h => (by cases h), fun h => by have := (h.2 i x hx).1; first | omega | exact absurd this hq15⟩, hv⟩
   refine xC s10callable88 rfl rfl (l := [.string ⟨x.toArray⟩]) rfl ((calls_bool (setLong B _ _ x hv) (decide_eq_false hq15)).mono ?_)
   rintro e w18 ⟨rfl, hv⟩
   refine ⟨_, rfl, ?_⟩
   refine xM (.bool false) rfl rfl rfl ?_
   simp only [zP, zI, zS, zO]
   refine xH 2 17 false (.int .i64 (i : Int)) rfl rfl rfl rfl (ex_move rfl rfl) ?_
   by_cases hb19 : (i : Int) > 0
   ·refine xH 2 17 false (.bool true) rfl rfl rfl rfl (ex_gtr (k := .i64) (m := (i : Int)) (n := 0) rfl rfl rfl (decide_eq_true hb19)) ?_
    obtain ⟨j, hj⟩ : ∃ j : Nat, i = j + 1 := ⟨i - 1, by omega⟩
    obtain ⟨y, hy⟩ : ∃ x, l[j]? = some x := ⟨_, List.getElem?_eq_getElem (show j < l.length by omega)⟩
    obtain ⟨b9, o9, had9, hrdy⟩ := text_reads hr hy
    cases had9
    refine xH 2 17 false (.bool true) rfl rfl rfl rfl (ex_move rfl rfl) ?_
    simp only [zP, zI, zS, zO]
    refine xH 5 20 true (.slice (some ⟨bb, bo, none⟩) l.length c) rfl rfl rfl rfl (ex_move rfl rfl) ?_
    refine xH 5 20 true (.int .i64 (i : Int)) rfl rfl rfl rfl (ex_move rfl rfl) ?_
    refine xH 5 20 true (.int .i64 (j : Int)) rfl rfl rfl rfl (ex_sub (m := (i : Int)) (n := 1) rfl rfl rfl (by rw [i64_in (by omega)]; omega)) ?_
    simp only [zP, zI, zS, zO]
    refine xH 5 20 true (.pointer (some ⟨bb, bo + j, none⟩)) rfl rfl rfl rfl (ex_index rfl rfl rfl (run_idx1 (k := j) Try.underlying33 s9es33 (by omega))) ?_
    refine xH 5 20 true (.string ⟨y.toArray⟩) rfl rfl rfl rfl (ex_load rfl rfl (run_load1 s3na9 (hrdy _ _ _ (Base.Le.refl _) no_res hv 0 _ rfl))) ?_
    refine xH 5 20 true (.string ⟨x.toArray⟩) rfl rfl rfl rfl (ex_move rfl rfl) ?_
    simp only [zP, zI, zS, zO]
    refine xH 5 20 true (.bool (!Op.bytesLess y x)) rfl rfl rfl rfl (ex_sgeq (s := y) (s' := x) rfl rfl rfl rfl) ?_
    refine xH 2 17 false (.bool (!Op.bytesLess y x)) rfl rfl rfl rfl (ex_pick (b := true) rfl rfl rfl) ?_
    refine xK false (.bool (!Op.bytesLess y x)) rfl rfl rfl rfl ?_
    refine wL ?_
    simp only [zP, zI, zS, zO]
    refine tN (hK14 _ _ ?_)
    clear hK14 K14
    refine wpIn_cond_split (t := !Op.bytesLess y x) rfl (fun hc20 => ?_) (fun hc20 => ?_)
    ·refine sK fun K21 hK21 => rL ?_
     refine xA (.bool false) rfl rfl rfl ?_
     refine wL ?_
     simp only [zP, zI, zS, zO]
     refine tN (hK21 _ _ ?_)
     clear hK21 K21
     refine wpIn_ret ?_
     refine blk_ret ?_
     refine then_ret ?_
     clear hK12 K12
     refine then_ret ?_
     refine blk_ret ?_
     refine then_ret ?_
     clear hK6 K6
     refine bR rfl rfl ?_
     exact ⟨false, rfl, ⟨fun h => (by cases h), fun h => by have := (h.2 i x hx).2 j y (by omega) hy; rw [this] at hc20; simp at hc20⟩, hv⟩
    refine wpIn_skip ?_
    refine blk_normal ?_
    refine tN (hK12 _ _ ?_)
    clear hK12 K12
    refine rL ?_
    refine xG (.int .i64 ((i + 1 : Nat) : Int)) rfl rfl (ex_add (m := (i : Int)) (n := 1) rfl rfl rfl (by rw [i64_in (by omega)]; omega)) ?_
    refine xM (.int .i64 ((i + 1 : Nat) : Int)) rfl rfl rfl ?_
    refine wL ?_
    simp only [zP, zI, zS, zO]
    refine then_normal ?_
    go_roundw
    case rel => exact ⟨i + 1, rfl, by omega, fun k hk => (by
       rcases Nat.lt_or_ge k i with h | h
       ·exact hall k h
       obtain rfl : k = i := by omega
       intro x' hx'
       rw [hx] at hx'; cases hx'
       refine ⟨by omega, fun j' y' hj' hy' => ?_⟩
       obtain rfl : j' = j := by omega
       rw [hy] at hy'; cases hy'; simpa using hc20), hv⟩
    case measure => show l.length - (((i + 1 : Nat) : Int)).toNat < l.length - ((i : Int)).toNat; omega
   refine xH 2 17 false (.bool false) rfl rfl rfl rfl (ex_gtr (k := .i64) (m := (i : Int)) (n := 0) rfl rfl rfl (decide_eq_false hb19)) ?_
   refine xH 2 17 false (.bool false) rfl rfl rfl rfl (ex_move rfl rfl) ?_
   simp only [zP, zI, zS, zO]
   refine xT 5 20 true false rfl rfl rfl rfl rfl rfl rfl (by decide) ?_
   simp only [zP, zI, zS, zO]
   refine xT 5 20 true false rfl rfl rfl rfl rfl rfl rfl (by decide) ?_
   simp only [zP, zI, zS, zO]
   refine xN 5 20 true false rfl rfl rfl (by decide) ?_
   refine xH 2 17 false (.bool false) rfl rfl rfl rfl (ex_pick (b := false) rfl rfl rfl) ?_
   refine xK false (.bool false) rfl rfl rfl rfl ?_
   refine wL ?_
   simp only [zP, zI, zS, zO]
   refine tN (hK14 _ _ ?_)
   clear hK14 K14
   refine wpIn_cond_false rfl ?_
   refine wpIn_skip ?_
   refine blk_normal ?_
   refine tN (hK12 _ _ ?_)
   clear hK12 K12
   refine rL ?_
   refine xG (.int .i64 ((i + 1 : Nat) : Int)) rfl rfl (ex_add (m := (i : Int)) (n := 1) rfl rfl rfl (by rw [i64_in (by omega)]; omega)) ?_
   refine xM (.int .i64 ((i + 1 : Nat) : Int)) rfl rfl rfl ?_
   refine wL ?_
   simp only [zP, zI, zS, zO]
   refine then_normal ?_
   go_roundw
   case rel => exact ⟨i + 1, rfl, by omega, fun k hk => (by
      rcases Nat.lt_or_ge k i with h | h
      ·exact hall k h
      obtain rfl : k = i := by omega
      intro x' hx'
      rw [hx] at hx'; cases hx'
      refine ⟨by omega, fun j' y' hj' hy' => ?_⟩
      omega), hv⟩
   case measure => show l.length - (((i + 1 : Nat) : Int)).toNat < l.length - ((i : Int)).toNat; omega
  refine xG (.bool false) rfl rfl (ex_lss (k := .i64) (m := (i : Int)) (n := (l.length : Int)) rfl rfl rfl (decide_eq_false hb10)) ?_
  refine wL ?_
  simp only [zP, zI, zS, zO]
  refine tN (hK9 _ _ ?_)
  clear hK9 K9
  refine sK fun K22 hK22 => ?_
  refine wpIn_cond_false rfl ?_
  refine wpIn_exit ?_
  refine then_exit ?_
  clear hK22 K22
  refine then_exit ?_
  refine blk_hit ?_
  refine tN (hK6 _ _ ?_)
  clear hK6 K6
  refine sK fun K23 hK23 => rL ?_
  refine xA (.bool true) rfl rfl rfl ?_
  refine wL ?_
  simp only [zP, zI, zS, zO]
  refine tN (hK23 _ _ ?_)
  clear hK23 K23
  refine wpIn_ret ?_
  refine bR rfl rfl ?_
  obtain rfl : i = l.length := by omega
  exact ⟨true, rfl, ⟨fun _ => ⟨by omega, fun k x hx => hall k (List.getElem?_eq_some_iff.1 hx).1 x hx⟩, fun _ => rfl⟩, hv⟩
theorem s10fa83_0 (w : World) (b o : Nat) : (Instr.fieldAt 83 (.pointer (some ⟨b, o, none⟩)) 0).run Try.prog w = .ok (.pointer (some ⟨b, o + 0, none⟩)) w := by kernel_rfl
theorem s10fa83_1 (w : World) (b o : Nat) : (Instr.fieldAt 83 (.pointer (some ⟨b, o, none⟩)) 1).run Try.prog w = .ok (.pointer (some ⟨b, o + 1, none⟩)) w := by kernel_rfl
set_option maxHeartbeats 2000000 in
theorem hashFits (B : Base) (H : List Res) (w : World) (x : List UInt8 × List UInt8) (hv : Inv B H w) :
  Calls Try.prog 85 #[.agg #[.string ⟨x.1.toArray⟩, .string ⟨x.2.toArray⟩]] w fun e w' => e = .returned (.bool (decide (x.1.length ≤ 4096 ∧ x.2.length ≤ 4096))) ∧ Inv B H w' := by
 refine (callsIn_wide (n := 5)).1 ?_
 refine callsIn_of_wp Try.func85 rfl trivial ?_
 simp only [Try.ntmps85, List.size_toArray, List.length_cons, List.length_nil, Nat.reduceAdd, Nat.reduceSub, Array.replicate_succ, Array.replicate_zero, List.push_toArray, List.append_toArray, List.nil_append, List.cons_append]
 refine sK fun K1 hK1 => rL ?_
 refine sl_box (L := [.string ⟨x.1.toArray⟩, .string ⟨x.2.toArray⟩]) tV (wn rfl) rfl (p := .agg #[.string ⟨x.1.toArray⟩, .string ⟨x.2.toArray⟩]) rfl hv (fun w => by kernel_rfl) (fun b2 w3 hv => ?_)
 refine xA (.bool false) rfl rfl rfl ?_
 refine wL ?_
 simp only [zP, zI, zS, zO]
 refine tN (hK1 _ _ ?_)
 clear hK1 K1
 refine sK fun K4 hK4 => rL ?_
 refine xF (.pointer (some ⟨b2, 0, none⟩)) rfl rfl rfl (s10fa83_0 _ _ _) ?_
 refine xL (.string ⟨x.1.toArray⟩) rfl rfl rfl (run_load1 s3na9 (hv.load 0 0 rfl rfl)) ?_
 refine xG (.int .i64 (x.1.length : Int)) rfl rfl (ex_lenStr Try.underlying9 rfl rfl) ?_
 simp only [zP, zI, zS, zO]
 by_cases hb5 : (x.1.length : Int) ≤ 4096
 ·refine xG (.bool true) rfl rfl (ex_leq (k := .i64) (m := (x.1.length : Int)) (n := 4096) rfl rfl rfl (decide_eq_true hb5)) ?_
  refine xM (.bool true) rfl rfl rfl ?_
  refine xH 4 7 true (.pointer (some ⟨b2, 1, none⟩)) rfl rfl rfl rfl (ex_field rfl rfl (s10fa83_1 _ _ _)) ?_
  simp only [zP, zI, zS, zO]
  refine xH 4 7 true (.string ⟨x.2.toArray⟩) rfl rfl rfl rfl (ex_load rfl rfl (run_load1 s3na9 (hv.load 0 1 rfl rfl))) ?_
  refine xH 4 7 true (.int .i64 (x.2.length : Int)) rfl rfl rfl rfl (ex_lenStr Try.underlying9 rfl rfl) ?_
  by_cases hb6 : (x.2.length : Int) ≤ 4096
  ·refine xH 4 7 true (.bool true) rfl rfl rfl rfl (ex_leq (k := .i64) (m := (x.2.length : Int)) (n := 4096) rfl rfl rfl (decide_eq_true hb6)) ?_
   simp only [zP, zI, zS, zO]
   refine xK true (.bool true) rfl rfl rfl rfl ?_
   refine xA (.bool true) rfl rfl rfl ?_
   refine wL ?_
   simp only [zP, zI, zS, zO]
   refine tN (hK4 _ _ ?_)
   clear hK4 K4
   refine wpIn_ret ?_
   refine bR rfl rfl ?_
   exact ⟨congrArg (fun b => Ending.returned (Value.bool b)) (by symm; first | exact decide_eq_true (by constructor <;> omega) | exact decide_eq_false (by omega)), (hv.sub (List.Sublist.cons _ (List.Sublist.refl _)))⟩
  refine xH 4 7 true (.bool false) rfl rfl rfl rfl (ex_leq (k := .i64) (m := (x.2.length : Int)) (n := 4096) rfl rfl rfl (decide_eq_false hb6)) ?_
  simp only [zP, zI, zS, zO]
  refine xK true (.bool false) rfl rfl rfl rfl ?_
  refine xA (.bool false) rfl rfl rfl ?_
  refine wL ?_
  simp only [zP, zI, zS, zO]
  refine tN (hK4 _ _ ?_)
  clear hK4 K4
  refine wpIn_ret ?_
  refine bR rfl rfl ?_
  exact ⟨congrArg (fun b => Ending.returned (Value.bool b)) (by symm; first | exact decide_eq_true (by constructor <;> omega) | exact decide_eq_false (by omega)), (hv.sub (List.Sublist.cons _ (List.Sublist.refl _)))⟩
 refine xG (.bool false) rfl rfl (ex_leq (k := .i64) (m := (x.1.length : Int)) (n := 4096) rfl rfl rfl (decide_eq_false hb5)) ?_
 refine xM (.bool false) rfl rfl rfl ?_
 refine xT 4 7 true false rfl rfl rfl rfl rfl rfl rfl (by decide) ?_
 simp only [zP, zI, zS, zO]
 refine xN 4 7 true false rfl rfl rfl (by decide) ?_
 simp only [zP, zI, zS, zO]
 refine xK false (.bool false) rfl rfl rfl rfl ?_
 refine xA (.bool false) rfl rfl rfl ?_
 refine wL ?_
 simp only [zP, zI, zS, zO]
 refine tN (hK4 _ _ ?_)
 clear hK4 K4
 refine wpIn_ret ?_
 refine bR rfl rfl ?_
 exact ⟨congrArg (fun b => Ending.returned (Value.bool b)) (by symm; first | exact decide_eq_true (by constructor <;> omega) | exact decide_eq_false (by omega)), (hv.sub (List.Sublist.cons _ (List.Sublist.refl _)))⟩
theorem s10es32 (w : World) : (sizeOf (Try.prog.elem 32)).run Try.prog w = .ok 2 w := by kernel_rfl
theorem s10wd83 : Wide Try.prog 83 2 := wide_of (fun w => by kernel_rfl) (by kernel_rfl)
theorem s10al83 (w : World) : (Instr.alloc 83 true (.tuple #[])).run Try.prog w = .ok (.pointer (some ⟨w.heap.size, 0, none⟩)) (w.alloc (.cells ([.string ⟨([] : List UInt8).toArray⟩, .string ⟨([] : List UInt8).toArray⟩] : List Value).toArray 83)) := by kernel_rfl
theorem s10sz83 : (Try.prog.info? 83).map (·.size) = some 2 := by kernel_rfl
theorem s10callable85 : Callable Try.prog 85 := ⟨_, Try.func85, by kernel_rfl, by kernel_rfl⟩
set_option maxHeartbeats 2000000 in
theorem hashRightC (B : Base) (H : List Res) (w : World) (ad : Option Addr) (c : Nat) (l : List (List UInt8 × List UInt8)) (hr : RdV B [] ad (pairCells l)) (hm : l.length ≤ 1000000) (hv : Inv B H w) :
  Calls Try.prog 79 #[.slice ad l.length c] w fun e w' => ∃ b, e = .returned (.bool b) ∧ (b = true ↔ HashOk l) ∧ Inv B H w' := by
 refine (callsIn_wide (n := 5)).1 ?_
 refine callsIn_of_wp Try.func79 rfl trivial ?_
 simp only [Try.ntmps79, List.size_toArray, List.length_cons, List.length_nil, Nat.reduceAdd, Nat.reduceSub, Array.replicate_succ, Array.replicate_zero, List.push_toArray, List.append_toArray, List.nil_append, List.cons_append]
 refine sK fun K1 hK1 => rL ?_
 refine xA (.bool false) rfl rfl rfl ?_
 refine wL ?_
 simp only [zP, zI, zS, zO]
 refine tN (hK1 _ _ ?_)
 clear hK1 K1
 refine sK fun K2 hK2 => ?_
 refine sK fun K3 hK3 => rL ?_
 refine xM (.slice ad l.length c) rfl rfl rfl ?_
 refine xG (.int .i64 (l.length : Int)) rfl rfl (ex_len0 Try.underlying32 rfl rfl) ?_
 by_cases hb4 : (l.length : Int) > 512
 ·refine xG (.bool true) rfl rfl (ex_gtr (k := .i64) (m := (l.length : Int)) (n := 512) rfl rfl rfl (decide_eq_true hb4)) ?_
  refine wL ?_
  simp only [zP, zI, zS, zO]
  refine tN (hK3 _ _ ?_)
  clear hK3 K3
  refine wpIn_cond_true rfl ?_
  refine sK fun K5 hK5 => rL ?_
  refine xA (.bool false) rfl rfl rfl ?_
  refine wL ?_
  simp only [zP, zI, zS, zO]
  refine tN (hK5 _ _ ?_)
  clear hK5 K5
  refine wpIn_ret ?_
  refine then_ret ?_
  clear hK2 K2
  refine bR rfl rfl ?_
  exact ⟨false, rfl, ⟨fun h => (by cases h), fun h => by have := h.1; omega⟩, hv⟩
 refine xG (.bool false) rfl rfl (ex_gtr (k := .i64) (m := (l.length : Int)) (n := 512) rfl rfl rfl (decide_eq_false hb4)) ?_
 refine wL ?_
 simp only [zP, zI, zS, zO]
 refine tN (hK3 _ _ ?_)
 clear hK3 K3
 refine wpIn_cond_false rfl ?_
 refine wpIn_skip ?_
 refine tN (hK2 _ _ ?_)
 clear hK2 K2
 refine sK fun K6 hK6 => ?_
 refine sK fun K7 hK7 => rL ?_
 refine xM (.slice ad l.length c) rfl rfl rfl ?_
 refine xG (.int .i64 (l.length : Int)) rfl rfl (ex_len0 Try.underlying32 rfl rfl) ?_
 refine xM (.int .i64 0) rfl rfl rfl ?_
 refine wL ?_
 simp only [zP, zI, zS, zO]
 refine tN (hK7 _ _ ?_)
 clear hK7 K7
 refine wpIn_block ?_
 gi_loopw [10] (fun x10 wr => ∃ (i : Nat), x10 = .int .i64 (i : Int) ∧ i ≤ l.length ∧ (∀ k, k < i → HashAt l k) ∧ Inv B H wr) (fun x10 _ => l.length - (intOf x10).toNat)
 case atStart => exact ⟨0, rfl, Nat.zero_le _, fun k h => by omega, hv⟩
 case round =>
  obtain ⟨i, rfl, hi, hall, hv⟩ := hrel
  refine sK fun K9 hK9 => rL ?_
  by_cases hb10 : (i : Int) < (l.length : Int)
  ·refine xG (.bool true) rfl rfl (ex_lss (k := .i64) (m := (i : Int)) (n := (l.length : Int)) rfl rfl rfl (decide_eq_true hb10)) ?_
   refine wL ?_
   simp only [zP, zI, zS, zO]
   refine tN (hK9 _ _ ?_)
   clear hK9 K9
   refine sK fun K11 hK11 => ?_
   refine wpIn_cond_true rfl ?_
   refine wpIn_skip ?_
   refine tN (hK11 _ _ ?_)
   clear hK11 K11
   refine sK fun K12 hK12 => ?_
   refine wpIn_block ?_
   refine sK fun K13 hK13 => ?_
   obtain ⟨x, hx⟩ : ∃ x, l[i]? = some x := ⟨_, List.getElem?_eq_getElem (show i < l.length by omega)⟩
   obtain ⟨bb, bo, had, hrdx⟩ := pair_reads hr hx
   subst had
   refine rL ?_
   refine xM (.int .i64 (i : Int)) rfl rfl rfl ?_
   refine xG (.pointer (some ⟨bb, bo + i * 2, none⟩)) rfl rfl (ex_index rfl rfl rfl (run_idx (k := i) Try.underlying32 s10es32 (by omega))) ?_
   refine xL (.agg #[.string ⟨x.1.toArray⟩, .string ⟨x.2.toArray⟩]) rfl rfl rfl (run_loadR (cs := [.string ⟨x.1.toArray⟩, .string ⟨x.2.toArray⟩]) s10wd83 (Reads.mid (pre := []) (mid := [.string ⟨x.1.toArray⟩, .string ⟨x.2.toArray⟩]) (post := []) hrdx _ _ _ (Base.Le.refl _) no_res hv)) ?_
   simp only [zP, zI, zS, zO]
   refine sl_alloc tV (wn rfl) rfl hv s10al83 (fun b14 w15 hv => ?_)
   refine xA (.int .i64 (i : Int)) rfl rfl rfl ?_
   refine sl_storeNAt 0 (new := [.string ⟨x.1.toArray⟩, .string ⟨x.2.toArray⟩]) (pre := []) (mid := [.string ⟨([] : List UInt8).toArray⟩, .string ⟨([] : List UInt8).toArray⟩]) (post := []) (L' := [.string ⟨x.1.toArray⟩, .string ⟨x.2.toArray⟩]) tV (wn rfl) rfl rfl rfl hv rfl s10sz83 rfl rfl rfl (one_cons rfl (one_cons rfl one_nil)) rfl (fun w16 hv => ?_)
   simp only [List.set_cons_zero] at hv
   refine wL ?_
   simp only [zP, zN, zI, zS, zO]
   refine tN (hK13 _ _ ?_)
   clear hK13 K13
   refine sK fun K17 hK17 => ?_
   by_cases hb18 : x.1.length ≤ 4096 ∧ x.2.length ≤ 4096
   ·by_cases hb20 : (i : Int) > 0
    ·obtain ⟨j, hj⟩ : ∃ j : Nat, i = j + 1 := ⟨i - 1, by omega⟩
     obtain ⟨y, hy⟩ : ∃ x, l[j]? = some x := ⟨_, List.getElem?_eq_getElem (show j < l.length by omega)⟩
     obtain ⟨b9, o9, had9, hrdy⟩ := pair_reads hr hy
     cases had9
     skip
     refine region_st mixed [.agg #[.string ⟨x.1.toArray⟩, .string ⟨x.2.toArray⟩], undef, .bool false, .bool false, .int .i64 (i : Int), .bool true, .bool true, .slice (some ⟨bb, bo, none⟩) l.length c, .int .i64 (i : Int), .int .i64 (j : Int), .pointer (some ⟨bb, bo + j * 2, none⟩), .pointer (some ⟨bb, bo + j * 2, none⟩), .string ⟨y.1.toArray⟩, .pointer (some ⟨b14, 0, none⟩), .string ⟨x.1.toArray⟩, .bool (!Op.bytesLess y.1 x.1), .bool (!Op.bytesLess y.1 x.1), .bool (!Op.bytesLess y.1 x.1)] [1] [⟨fun vals w => vals = [] ∧ Inv B (Res.cell b14 [.string ⟨x.1.toArray⟩, .string ⟨x.2.toArray⟩] 83 :: H) w, fun _ _ _ ⟨h, hi⟩ he => ⟨h, hi.ext he⟩⟩, ⟨fun vals w => vals = [.bool true] ∧ Inv B (Res.cell b14 [.string ⟨x.1.toArray⟩, .string ⟨x.2.toArray⟩] 83 :: H) w, fun _ _ _ ⟨h, hi⟩ he => ⟨h, hi.ext he⟩⟩] 34 rfl (by kernel_rfl) ⟨rfl, hv⟩ ⟨?_, ?_, ?_, ?_, ?_, ?_, ?_, ?_, ?_, ?_, ?_, ?_, ?_, ?_, ?_, ?_, ?_, ?_, trivial⟩ ?_
     ·intro aa ww vals hJ hR
      have h2 : vals.length ≤ 0 := hR.hi 1 (by simp) rfl
      have hl : vals.length = 0 := by omega
      obtain ⟨hvals, hv⟩ := hJ.at0 hl
      exact xD rfl (ex_load rfl (show aa.eval (.tmp 4) = _ from hR.keep 4 rfl) (run_load_mid (pre := []) (mid := [.string ⟨x.1.toArray⟩, .string ⟨x.2.toArray⟩]) (post := []) s10wd83 (show Blk _ b14 ([] ++ [.string ⟨x.1.toArray⟩, .string ⟨x.2.toArray⟩] ++ []) _ from hv.get 0 rfl) rfl)) rfl rfl
     ·intro aa ww vals hJ hR
      refine mem_step' rfl fun hvl => ?_
      have hl : vals.length = 0 := hvl
      obtain ⟨hvals, hv⟩ := hJ.at0 hl
      refine stepMem_calls s10callable85 (wn rfl) rfl (args := #[.agg #[.string ⟨x.1.toArray⟩, .string ⟨x.2.toArray⟩]]) (by simp only [yA, yB, yC]; rw [show aa.eval (.tmp 15) = .agg #[.string ⟨x.1.toArray⟩, .string ⟨x.2.toArray⟩] from hR.v 0 15 rfl rfl rfl rfl] <;> rfl) ((calls_bool (hashFits B _ _ x hv) (decide_eq_true hb18)).mono ?_)
      rintro e w21 ⟨rfl, hv⟩
      refine ⟨_, rfl, JS.next hl ⟨by rw [hvals]; rfl, hv⟩⟩
     ·intro aa ww vals hJ hR
      have h1 : 0 < vals.length := hR.lo 1 (by simp) rfl
      have hl : vals.length = 1 := by have := JS.le (n := 1) (by rfl) hJ; omega
      obtain ⟨hvals, hv⟩ := hJ.at0 hl
      exact xD rfl (ex_not (b := true) rfl (show aa.eval (.tmp 16) = _ from (hR.val 1 16 rfl rfl rfl).trans (by rw [hvals] <;> rfl)) rfl) rfl rfl
     ·intro aa ww vals hJ hR
      exact xD rfl (ex_move rfl (hR.w 2 17 rfl rfl rfl rfl)) rfl rfl
     ·intro aa ww vals hJ hR
      exact add_step' rfl (Ex.adds' (ex_move rfl (show aa.eval (.tmp 3) = _ from hR.keep 3 rfl)) (wanted_of (j := 3) (d := 18) (b := false) rfl rfl (hR.v 3 18 rfl rfl rfl rfl)) rfl)
     ·intro aa ww vals hJ hR
      exact add_step' rfl (Ex.adds' (ex_gtr (k := .i64) (m := (i : Int)) (n := 0) rfl (hR.w 4 19 rfl rfl rfl rfl) rfl (decide_eq_true hb20)) (wanted_of (j := 3) (d := 18) (b := false) rfl rfl (hR.v 3 18 rfl rfl rfl rfl)) rfl)
     ·intro aa ww vals hJ hR
      exact add_step' rfl (Ex.adds' (ex_move rfl (hR.w 5 20 rfl rfl rfl rfl)) (wanted_of (j := 3) (d := 18) (b := false) rfl rfl (hR.v 3 18 rfl rfl rfl rfl)) rfl)
     ·intro aa ww vals hJ hR
      exact add_step' rfl (Ex.adds' (ex_move rfl (show aa.eval (.tmp 0) = _ from hR.keep 0 rfl)) (wanted_of (j := 6) (d := 21) (b := true) rfl rfl (hR.v 6 21 rfl rfl rfl rfl)) rfl)
     ·intro aa ww vals hJ hR
      exact add_step' rfl (Ex.adds' (ex_move rfl (show aa.eval (.tmp 3) = _ from hR.keep 3 rfl)) (wanted_of (j := 6) (d := 21) (b := true) rfl rfl (hR.v 6 21 rfl rfl rfl rfl)) rfl)
     ·intro aa ww vals hJ hR
      exact add_step' rfl (Ex.adds' (ex_sub (m := (i : Int)) (n := 1) rfl (hR.w 8 23 rfl rfl rfl rfl) rfl (by rw [i64_in (by omega)]; omega)) (wanted_of (j := 6) (d := 21) (b := true) rfl rfl (hR.v 6 21 rfl rfl rfl rfl)) rfl)
     ·intro aa ww vals hJ hR
      exact add_step' rfl (Ex.adds' (ex_index rfl (hR.w 7 22 rfl rfl rfl rfl) (hR.w 9 24 rfl rfl rfl rfl) (run_idx (k := j) Try.underlying32 s10es32 (by omega))) (wanted_of (j := 6) (d := 21) (b := true) rfl rfl (hR.v 6 21 rfl rfl rfl rfl)) rfl)
     ·intro aa ww vals hJ hR
      exact add_step' rfl (Ex.adds' (ex_field rfl (hR.w 10 25 rfl rfl rfl rfl) (s10fa83_0 _ _ _)) (wanted_of (j := 6) (d := 21) (b := true) rfl rfl (hR.v 6 21 rfl rfl rfl rfl)) rfl)
     ·intro aa ww vals hJ hR
      have h1 : 0 < vals.length := hR.lo 1 (by simp) rfl
      have hl : vals.length = 1 := by have := JS.le (n := 1) (by rfl) hJ; omega
      obtain ⟨hvals, hv⟩ := hJ.at0 hl
      exact add_step' rfl (Ex.adds' (ex_load rfl (hR.w 11 26 rfl rfl rfl rfl) (run_load1 s3na9 (hrdy _ _ _ (Base.Le.refl _) no_res hv 0 _ rfl))) (wanted_of (j := 6) (d := 21) (b := true) rfl rfl (hR.v 6 21 rfl rfl rfl rfl)) rfl)
     ·intro aa ww vals hJ hR
      exact add_step' rfl (Ex.adds' (ex_field rfl (show aa.eval (.tmp 4) = _ from hR.keep 4 rfl) (s10fa83_0 _ _ _)) (wanted_of (j := 6) (d := 21) (b := true) rfl rfl (hR.v 6 21 rfl rfl rfl rfl)) rfl)
     ·intro aa ww vals hJ hR
      have h1 : 0 < vals.length := hR.lo 1 (by simp) rfl
      have hl : vals.length = 1 := by have := JS.le (n := 1) (by rfl) hJ; omega
      obtain ⟨hvals, hv⟩ := hJ.at0 hl
      exact add_step' rfl (Ex.adds' (ex_load rfl (hR.w 13 28 rfl rfl rfl rfl) (run_load1 s3na9 (hv.load 0 0 rfl rfl))) (wanted_of (j := 6) (d := 21) (b := true) rfl rfl (hR.v 6 21 rfl rfl rfl rfl)) rfl)
     ·intro aa ww vals hJ hR
      exact add_step' rfl (Ex.adds' (ex_sgeq (s := y.1) (s' := x.1) rfl (hR.w 12 27 rfl rfl rfl rfl) (hR.w 14 29 rfl rfl rfl rfl) rfl) (wanted_of (j := 6) (d := 21) (b := true) rfl rfl (hR.v 6 21 rfl rfl rfl rfl)) rfl)
     ·intro aa ww vals hJ hR
      exact add_step' rfl (Ex.adds' (ex_pick (b := true) rfl (hR.w 6 21 rfl rfl rfl rfl) (hR.w 15 30 rfl rfl rfl rfl)) (wanted_of (j := 3) (d := 18) (b := false) rfl rfl (hR.v 3 18 rfl rfl rfl rfl)) rfl)
     ·intro aa ww vals hJ hR
      exact xD rfl (ex_pick (b := false) rfl (hR.w 3 18 rfl rfl rfl rfl) (hR.w 16 31 rfl rfl rfl rfl)) rfl rfl
     rintro w22 vals ⟨rfl, hv⟩
     rw [show mixV [1] [.bool true] 0 [.agg #[.string ⟨x.1.toArray⟩, .string ⟨x.2.toArray⟩], undef, .bool false, .bool false, .int .i64 (i : Int), .bool true, .bool true, .slice (some ⟨bb, bo, none⟩) l.length c, .int .i64 (i : Int), .int .i64 (j : Int), .pointer (some ⟨bb, bo + j * 2, none⟩), .pointer (some ⟨bb, bo + j * 2, none⟩), .string ⟨y.1.toArray⟩, .pointer (some ⟨b14, 0, none⟩), .string ⟨x.1.toArray⟩, .bool (!Op.bytesLess y.1 x.1), .bool (!Op.bytesLess y.1 x.1), .bool (!Op.bytesLess y.1 x.1)] = [.agg #[.string ⟨x.1.toArray⟩, .string ⟨x.2.toArray⟩], .bool true, .bool false, .bool false, .int .i64 (i : Int), .bool true, .bool true, .slice (some ⟨bb, bo, none⟩) l.length c, .int .i64 (i : Int), .int .i64 (j : Int), .pointer (some ⟨bb, bo + j * 2, none⟩), .pointer (some ⟨bb, bo + j * 2, none⟩), .string ⟨y.1.toArray⟩, .pointer (some ⟨b14, 0, none⟩), .string ⟨x.1.toArray⟩, .bool (!Op.bytesLess y.1 x.1), .bool (!Op.bytesLess y.1 x.1), .bool (!Op.bytesLess y.1 x.1)] from rfl]
     simp only [putAll, zP, zI, zS, zO]
     refine tN (hK17 _ _ ?_)
     clear hK17 K17
     refine wpIn_cond_split (t := !Op.bytesLess y.1 x.1) rfl (fun hc23 => ?_) (fun hc23 => ?_)
     ·refine sK fun K24 hK24 => rL ?_
      refine xA (.bool false) rfl rfl rfl ?_
      refine wL ?_
      simp only [zP, zI, zS, zO]
      refine tN (hK24 _ _ ?_)
      clear hK24 K24
      refine wpIn_ret ?_
      refine blk_ret ?_
      refine then_ret ?_
      clear hK12 K12
      refine then_ret ?_
      refine blk_ret ?_
      refine then_ret ?_
      clear hK6 K6
      refine bR rfl rfl ?_
      exact ⟨false, rfl, ⟨fun h => (by cases h), fun h => by have := (h.2 i x hx).2 j y (by omega) hy; rw [this] at hc23; simp at hc23⟩, (hv.sub (List.Sublist.cons _ (List.Sublist.refl _)))⟩
     refine wpIn_skip ?_
     refine blk_normal ?_
     refine tN (hK12 _ _ ?_)
     clear hK12 K12
     refine rL ?_
     refine xG (.int .i64 ((i + 1 : Nat) : Int)) rfl rfl (ex_add (m := (i : Int)) (n := 1) rfl rfl rfl (by rw [i64_in (by omega)]; omega)) ?_
     refine xM (.int .i64 ((i + 1 : Nat) : Int)) rfl rfl rfl ?_
     refine wL ?_
     simp only [zP, zI, zS, zO]
     refine then_normal ?_
     go_roundw
     case rel => exact ⟨i + 1, rfl, by omega, fun k hk => (by
        rcases Nat.lt_or_ge k i with h | h
        ·exact hall k h
        obtain rfl : k = i := by omega
        intro x' hx'
        rw [hx] at hx'; cases hx'
        refine ⟨by exact hb18, fun j' y' hj' hy' => ?_⟩
        obtain rfl : j' = j := by omega
        rw [hy] at hy'; cases hy'; simpa using hc23), (hv.sub (List.Sublist.cons _ (List.Sublist.refl _)))⟩
     case measure => show l.length - (((i + 1 : Nat) : Int)).toNat < l.length - ((i : Int)).toNat; omega
    refine region_st mixed [.agg #[.string ⟨x.1.toArray⟩, .string ⟨x.2.toArray⟩], undef, .bool false, .bool false, .int .i64 (i : Int), .bool false, .bool false, undef, undef, undef, undef, undef, undef, undef, undef, undef, .bool false, .bool false] [1] [⟨fun vals w => vals = [] ∧ Inv B (Res.cell b14 [.string ⟨x.1.toArray⟩, .string ⟨x.2.toArray⟩] 83 :: H) w, fun _ _ _ ⟨h, hi⟩ he => ⟨h, hi.ext he⟩⟩, ⟨fun vals w => vals = [.bool true] ∧ Inv B (Res.cell b14 [.string ⟨x.1.toArray⟩, .string ⟨x.2.toArray⟩] 83 :: H) w, fun _ _ _ ⟨h, hi⟩ he => ⟨h, hi.ext he⟩⟩] 34 rfl (by kernel_rfl) ⟨rfl, hv⟩ ⟨?_, ?_, ?_, ?_, ?_, ?_, ?_, ?_, ?_, ?_, ?_, ?_, ?_, ?_, ?_, ?_, ?_, ?_, trivial⟩ ?_
    ·intro aa ww vals hJ hR
     have h2 : vals.length ≤ 0 := hR.hi 1 (by simp) rfl
     have hl : vals.length = 0 := by omega
     obtain ⟨hvals, hv⟩ := hJ.at0 hl
     exact xD rfl (ex_load rfl (show aa.eval (.tmp 4) = _ from hR.keep 4 rfl) (run_load_mid (pre := []) (mid := [.string ⟨x.1.toArray⟩, .string ⟨x.2.toArray⟩]) (post := []) s10wd83 (show Blk _ b14 ([] ++ [.string ⟨x.1.toArray⟩, .string ⟨x.2.toArray⟩] ++ []) _ from hv.get 0 rfl) rfl)) rfl rfl
    ·intro aa ww vals hJ hR
     refine mem_step' rfl fun hvl => ?_
     have hl : vals.length = 0 := hvl
     obtain ⟨hvals, hv⟩ := hJ.at0 hl
     refine stepMem_calls s10callable85 (wn rfl) rfl (args := #[.agg #[.string ⟨x.1.toArray⟩, .string ⟨x.2.toArray⟩]]) (by simp only [yA, yB, yC]; rw [show aa.eval (.tmp 15) = .agg #[.string ⟨x.1.toArray⟩, .string ⟨x.2.toArray⟩] from hR.v 0 15 rfl rfl rfl rfl] <;> rfl) ((calls_bool (hashFits B _ _ x hv) (decide_eq_true hb18)).mono ?_)
     rintro e w25 ⟨rfl, hv⟩
     refine ⟨_, rfl, JS.next hl ⟨by rw [hvals]; rfl, hv⟩⟩
    ·intro aa ww vals hJ hR
     have h1 : 0 < vals.length := hR.lo 1 (by simp) rfl
     have hl : vals.length = 1 := by have := JS.le (n := 1) (by rfl) hJ; omega
     obtain ⟨hvals, hv⟩ := hJ.at0 hl
     exact xD rfl (ex_not (b := true) rfl (show aa.eval (.tmp 16) = _ from (hR.val 1 16 rfl rfl rfl).trans (by rw [hvals] <;> rfl)) rfl) rfl rfl
    ·intro aa ww vals hJ hR
     exact xD rfl (ex_move rfl (hR.w 2 17 rfl rfl rfl rfl)) rfl rfl
    ·intro aa ww vals hJ hR
     exact add_step' rfl (Ex.adds' (ex_move rfl (show aa.eval (.tmp 3) = _ from hR.keep 3 rfl)) (wanted_of (j := 3) (d := 18) (b := false) rfl rfl (hR.v 3 18 rfl rfl rfl rfl)) rfl)
    ·intro aa ww vals hJ hR
     exact add_step' rfl (Ex.adds' (ex_gtr (k := .i64) (m := (i : Int)) (n := 0) rfl (hR.w 4 19 rfl rfl rfl rfl) rfl (decide_eq_false hb20)) (wanted_of (j := 3) (d := 18) (b := false) rfl rfl (hR.v 3 18 rfl rfl rfl rfl)) rfl)
    ·intro aa ww vals hJ hR
     exact add_step' rfl (Ex.adds' (ex_move rfl (hR.w 5 20 rfl rfl rfl rfl)) (wanted_of (j := 3) (d := 18) (b := false) rfl rfl (hR.v 3 18 rfl rfl rfl rfl)) rfl)
    ·intro aa ww vals hJ hR
     exact add_step' rfl (stepOk_skip (wanted_not (j := 6) (d := 21) (b := true) (b' := false) rfl rfl (hR.v 6 21 rfl rfl rfl rfl) (by decide)) rfl)
    ·intro aa ww vals hJ hR
     exact add_step' rfl (stepOk_skip (wanted_not (j := 6) (d := 21) (b := true) (b' := false) rfl rfl (hR.v 6 21 rfl rfl rfl rfl) (by decide)) rfl)
    ·intro aa ww vals hJ hR
     exact add_step' rfl (stepOk_skip (wanted_not (j := 6) (d := 21) (b := true) (b' := false) rfl rfl (hR.v 6 21 rfl rfl rfl rfl) (by decide)) rfl)
    ·intro aa ww vals hJ hR
     exact add_step' rfl (stepOk_skip (wanted_not (j := 6) (d := 21) (b := true) (b' := false) rfl rfl (hR.v 6 21 rfl rfl rfl rfl) (by decide)) rfl)
    ·intro aa ww vals hJ hR
     exact add_step' rfl (stepOk_skip (wanted_not (j := 6) (d := 21) (b := true) (b' := false) rfl rfl (hR.v 6 21 rfl rfl rfl rfl) (by decide)) rfl)
    ·intro aa ww vals hJ hR
     exact add_step' rfl (stepOk_skip (wanted_not (j := 6) (d := 21) (b := true) (b' := false) rfl rfl (hR.v 6 21 rfl rfl rfl rfl) (by decide)) rfl)
    ·intro aa ww vals hJ hR
     exact add_step' rfl (stepOk_skip (wanted_not (j := 6) (d := 21) (b := true) (b' := false) rfl rfl (hR.v 6 21 rfl rfl rfl rfl) (by decide)) rfl)
    ·intro aa ww vals hJ hR
     exact add_step' rfl (stepOk_skip (wanted_not (j := 6) (d := 21) (b := true) (b' := false) rfl rfl (hR.v 6 21 rfl rfl rfl rfl) (by decide)) rfl)
    ·intro aa ww vals hJ hR
     exact add_step' rfl (stepOk_skip (wanted_not (j := 6) (d := 21) (b := true) (b' := false) rfl rfl (hR.v 6 21 rfl rfl rfl rfl) (by decide)) rfl)
    ·intro aa ww vals hJ hR
     exact add_step' rfl (Ex.adds' (ex_pick (b := false) rfl (hR.w 6 21 rfl rfl rfl rfl) rfl) (wanted_of (j := 3) (d := 18) (b := false) rfl rfl (hR.v 3 18 rfl rfl rfl rfl)) rfl)
    ·intro aa ww vals hJ hR
     exact xD rfl (ex_pick (b := false) rfl (hR.w 3 18 rfl rfl rfl rfl) (hR.w 16 31 rfl rfl rfl rfl)) rfl rfl
    rintro w26 vals ⟨rfl, hv⟩
    rw [show mixV [1] [.bool true] 0 [.agg #[.string ⟨x.1.toArray⟩, .string ⟨x.2.toArray⟩], undef, .bool false, .bool false, .int .i64 (i : Int), .bool false, .bool false, undef, undef, undef, undef, undef, undef, undef, undef, undef, .bool false, .bool false] = [.agg #[.string ⟨x.1.toArray⟩, .string ⟨x.2.toArray⟩], .bool true, .bool false, .bool false, .int .i64 (i : Int), .bool false, .bool false, undef, undef, undef, undef, undef, undef, undef, undef, undef, .bool false, .bool false] from rfl]
    simp only [putAll, zP, zI, zS, zO]
    refine tN (hK17 _ _ ?_)
    clear hK17 K17
    refine wpIn_cond_false rfl ?_
    refine wpIn_skip ?_
    refine blk_normal ?_
    refine tN (hK12 _ _ ?_)
    clear hK12 K12
    refine rL ?_
    refine xG (.int .i64 ((i + 1 : Nat) : Int)) rfl rfl (ex_add (m := (i : Int)) (n := 1) rfl rfl rfl (by rw [i64_in (by omega)]; omega)) ?_
    refine xM (.int .i64 ((i + 1 : Nat) : Int)) rfl rfl rfl ?_
    refine wL ?_
    simp only [zP, zI, zS, zO]
    refine then_normal ?_
    go_roundw
    case rel => exact ⟨i + 1, rfl, by omega, fun k hk => (by
       rcases Nat.lt_or_ge k i with h | h
       ·exact hall k h
       obtain rfl : k = i := by omega
       intro x' hx'
       rw [hx] at hx'; cases hx'
       refine ⟨by exact hb18, fun j' y' hj' hy' => ?_⟩
       omega), (hv.sub (List.Sublist.cons _ (List.Sublist.refl _)))⟩
    case measure => show l.length - (((i + 1 : Nat) : Int)).toNat < l.length - ((i : Int)).toNat; omega
   refine region_st mixed [.agg #[.string ⟨x.1.toArray⟩, .string ⟨x.2.toArray⟩], undef, .bool true, .bool true, undef, undef, undef, undef, undef, undef, undef, undef, undef, undef, undef, undef, undef, .bool true] [1] [⟨fun vals w => vals = [] ∧ Inv B (Res.cell b14 [.string ⟨x.1.toArray⟩, .string ⟨x.2.toArray⟩] 83 :: H) w, fun _ _ _ ⟨h, hi⟩ he => ⟨h, hi.ext he⟩⟩, ⟨fun vals w => vals = [.bool false] ∧ Inv B (Res.cell b14 [.string ⟨x.1.toArray⟩, .string ⟨x.2.toArray⟩] 83 :: H) w, fun _ _ _ ⟨h, hi⟩ he => ⟨h, hi.ext he⟩⟩] 34 rfl (by kernel_rfl) ⟨rfl, hv⟩ ⟨?_, ?_, ?_, ?_, ?_, ?_, ?_, ?_, ?_, ?_, ?_, ?_, ?_, ?_, ?_, ?_, ?_, ?_, trivial⟩ ?_
   ·intro aa ww vals hJ hR
    have h2 : vals.length ≤ 0 := hR.hi 1 (by simp) rfl
    have hl : vals.length = 0 := by omega
    obtain ⟨hvals, hv⟩ := hJ.at0 hl
    exact xD rfl (ex_load rfl (show aa.eval (.tmp 4) = _ from hR.keep 4 rfl) (run_load_mid (pre := []) (mid := [.string ⟨x.1.toArray⟩, .string ⟨x.2.toArray⟩]) (post := []) s10wd83 (show Blk _ b14 ([] ++ [.string ⟨x.1.toArray⟩, .string ⟨x.2.toArray⟩] ++ []) _ from hv.get 0 rfl) rfl)) rfl rfl
   ·intro aa ww vals hJ hR
    refine mem_step' rfl fun hvl => ?_
    have hl : vals.length = 0 := hvl
    obtain ⟨hvals, hv⟩ := hJ.at0 hl
    refine stepMem_calls s10callable85 (wn rfl) rfl (args := #[.agg #[.string ⟨x.1.toArray⟩, .string ⟨x.2.toArray⟩]]) (by simp only [yA, yB, yC]; rw [show aa.eval (.tmp 15) = .agg #[.string ⟨x.1.toArray⟩, .string ⟨x.2.toArray⟩] from hR.v 0 15 rfl rfl rfl rfl] <;> rfl) ((calls_bool (hashFits B _ _ x hv) (decide_eq_false hb18)).mono ?_)
    rintro e w27 ⟨rfl, hv⟩
    refine ⟨_, rfl, JS.next hl ⟨by rw [hvals]; rfl, hv⟩⟩
   ·intro aa ww vals hJ hR
    have h1 : 0 < vals.length := hR.lo 1 (by simp) rfl
    have hl : vals.length = 1 := by have := JS.le (n := 1) (by rfl) hJ; omega
    obtain ⟨hvals, hv⟩ := hJ.at0 hl
    exact xD rfl (ex_not (b := false) rfl (show aa.eval (.tmp 16) = _ from (hR.val 1 16 rfl rfl rfl).trans (by rw [hvals] <;> rfl)) rfl) rfl rfl
   ·intro aa ww vals hJ hR
    exact xD rfl (ex_move rfl (hR.w 2 17 rfl rfl rfl rfl)) rfl rfl
   ·intro aa ww vals hJ hR
    exact add_step' rfl (stepOk_skip (wanted_not (j := 3) (d := 18) (b := false) (b' := true) rfl rfl (hR.v 3 18 rfl rfl rfl rfl) (by decide)) rfl)
   ·intro aa ww vals hJ hR
    exact add_step' rfl (stepOk_skip (wanted_not (j := 3) (d := 18) (b := false) (b' := true) rfl rfl (hR.v 3 18 rfl rfl rfl rfl) (by decide)) rfl)
   ·intro aa ww vals hJ hR
    exact add_step' rfl (stepOk_skip (wanted_not (j := 3) (d := 18) (b := false) (b' := true) rfl rfl (hR.v 3 18 rfl rfl rfl rfl) (by decide)) rfl)
   ·intro aa ww vals hJ hR
    exact add_step' rfl (stepOk_skip (wanted_undef (j := 6) (d := 21) rfl rfl (show aa.eval (.tmp 21) = undef from (hR.v 6 21 rfl rfl rfl rfl))) rfl)
   ·intro aa ww vals hJ hR
    exact add_step' rfl (stepOk_skip (wanted_undef (j := 6) (d := 21) rfl rfl (show aa.eval (.tmp 21) = undef from (hR.v 6 21 rfl rfl rfl rfl))) rfl)
   ·intro aa ww vals hJ hR
    exact add_step' rfl (stepOk_skip (wanted_undef (j := 6) (d := 21) rfl rfl (show aa.eval (.tmp 21) = undef from (hR.v 6 21 rfl rfl rfl rfl))) rfl)
   ·intro aa ww vals hJ hR
    exact add_step' rfl (stepOk_skip (wanted_undef (j := 6) (d := 21) rfl rfl (show aa.eval (.tmp 21) = undef from (hR.v 6 21 rfl rfl rfl rfl))) rfl)
   ·intro aa ww vals hJ hR
    exact add_step' rfl (stepOk_skip (wanted_undef (j := 6) (d := 21) rfl rfl (show aa.eval (.tmp 21) = undef from (hR.v 6 21 rfl rfl rfl rfl))) rfl)
   ·intro aa ww vals hJ hR
    exact add_step' rfl (stepOk_skip (wanted_undef (j := 6) (d := 21) rfl rfl (show aa.eval (.tmp 21) = undef from (hR.v 6 21 rfl rfl rfl rfl))) rfl)
   ·intro aa ww vals hJ hR
    exact add_step' rfl (stepOk_skip (wanted_undef (j := 6) (d := 21) rfl rfl (show aa.eval (.tmp 21) = undef from (hR.v 6 21 rfl rfl rfl rfl))) rfl)
   ·intro aa ww vals hJ hR
    exact add_step' rfl (stepOk_skip (wanted_undef (j := 6) (d := 21) rfl rfl (show aa.eval (.tmp 21) = undef from (hR.v 6 21 rfl rfl rfl rfl))) rfl)
   ·intro aa ww vals hJ hR
    exact add_step' rfl (stepOk_skip (wanted_undef (j := 6) (d := 21) rfl rfl (show aa.eval (.tmp 21) = undef from (hR.v 6 21 rfl rfl rfl rfl))) rfl)
   ·intro aa ww vals hJ hR
    exact add_step' rfl (stepOk_skip (wanted_not (j := 3) (d := 18) (b := false) (b' := true) rfl rfl (hR.v 3 18 rfl rfl rfl rfl) (by decide)) rfl)
   ·intro aa ww vals hJ hR
    exact xD rfl (ex_pick (b := true) rfl (hR.w 3 18 rfl rfl rfl rfl) rfl) rfl rfl
   rintro w28 vals ⟨rfl, hv⟩
   rw [show mixV [1] [.bool false] 0 [.agg #[.string ⟨x.1.toArray⟩, .string ⟨x.2.toArray⟩], undef, .bool true, .bool true, undef, undef, undef, undef, undef, undef, undef, undef, undef, undef, undef, undef, undef, .bool true] = [.agg #[.string ⟨x.1.toArray⟩, .string ⟨x.2.toArray⟩], .bool false, .bool true, .bool true, undef, undef, undef, undef, undef, undef, undef, undef, undef, undef, undef, undef, undef, .bool true] from rfl]
   simp only [putAll, zP, zI, zS, zO]
   refine tN (hK17 _ _ ?_)
   clear hK17 K17
   refine wpIn_cond_true rfl ?_
   refine sK fun K29 hK29 => rL ?_
   refine xA (.bool false) rfl rfl rfl ?_
   refine wL ?_
   simp only [zP, zI, zS, zO]
   refine tN (hK29 _ _ ?_)
   clear hK29 K29
   refine wpIn_ret ?_
   refine blk_ret ?_
   refine then_ret ?_
   clear hK12 K12
   refine then_ret ?_
   refine blk_ret ?_
   refine then_ret ?_
   clear hK6 K6
   refine bR rfl rfl ?_
   exact ⟨false, rfl, ⟨fun h => (by cases h), fun h => by have := (h.2 i x hx).1; first | omega | exact absurd this hb18⟩, (hv.sub (List.Sublist.cons _ (List.Sublist.refl _)))⟩
  refine xG (.bool false) rfl rfl (ex_lss (k := .i64) (m := (i : Int)) (n := (l.length : Int)) rfl rfl rfl (decide_eq_false hb10)) ?_
  refine wL ?_
  simp only [zP, zI, zS, zO]
  refine tN (hK9 _ _ ?_)
  clear hK9 K9
  refine sK fun K30 hK30 => ?_
  refine wpIn_cond_false rfl ?_
  refine wpIn_exit ?_
  refine then_exit ?_
  clear hK30 K30
  refine then_exit ?_
  refine blk_hit ?_
  refine tN (hK6 _ _ ?_)
  clear hK6 K6
  refine sK fun K31 hK31 => rL ?_
  refine xA (.bool true) rfl rfl rfl ?_
  refine wL ?_
  simp only [zP, zI, zS, zO]
  refine tN (hK31 _ _ ?_)
  clear hK31 K31
  refine wpIn_ret ?_
  refine bR rfl rfl ?_
  obtain rfl : i = l.length := by omega
  exact ⟨true, rfl, ⟨fun _ => ⟨by omega, fun k x hx => hall k (List.getElem?_eq_some_iff.1 hx).1 x hx⟩, fun _ => rfl⟩, hv⟩
end Go.Proofs.Ytffmbdagjpdieaa
