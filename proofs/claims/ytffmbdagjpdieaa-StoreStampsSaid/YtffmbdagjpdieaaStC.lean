/- Rules for rows that are moved in place: slicing, copy, append of made elements, clear; loads and stores of a row's cells. -/
import Derived.Test.YtffmbdagjpdieaaStB
import Derived.Lib.AppendZerosOnto
import Derived.Lib.Overlaps
import Derived.Laws.Externs
import Derived.Test.YtffmbdagjpdieaaRows
set_option maxRecDepth 100000
namespace Go.Pm
open Go.RowKit
section
variable {P : Program} {t e : TypeId} {w : World}
theorem run_fromAny {ad : Option Addr} {n c l size : Nat} (ht : P.underlying t = some (.slice (P.elem t))) (hs : ∀ w, (sizeOf (P.elem t)).run P w = .ok size w) (h1 : l ≤ n) :
    (Instr.sliceAt t (.slice ad n c) (some (.int .i64 (l : Int))) none none).run P w = .ok (sliced ad l n c size) w := by
  rw [run_sliceAt_slice w t _ _ _ _ ht, run_slice_l w t _ n c ht .i64 l (by omega) (by omega), hs]
  simp only [Result.andThen, Int.toNat_natCast]
theorem run_hi {g off n c h size : Nat} (ht : P.underlying t = some (.slice (P.elem t))) (hs : ∀ w, (sizeOf (P.elem t)).run P w = .ok size w) (h1 : h ≤ c) :
    (Instr.sliceAt t (.slice (some ⟨g, off, none⟩) n c) none (some (.int .i64 (h : Int))) none).run P w = .ok (.slice (some ⟨g, off, none⟩) h c) w := by
  rw [run_sliceAt_slice w t _ _ _ _ ht, run_slice_h w t _ n c ht .i64 h (by omega) (by omega), hs]
  simp only [Result.andThen, sliced, Int.toNat_natCast, Option.map_some, addr_add, Nat.zero_mul, Nat.add_zero, Nat.sub_zero, ite_self]
theorem run_copyN {dT el ty : TypeId} {g off dLen dCap k size : Nat} {pre mid post cs : List Value} {a : Addr} {sLen sCap : Nat} (hu : P.underlying dT = some (.slice el)) (hs : (P.info? el).map (·.size) = some size)
    (hb : Blk w g (pre ++ mid ++ post) e) (ho : pre.length = off) (hm : mid.length = cs.length) (hk : k = Nat.min sLen dLen) (hn : cs.length = k * size) (hsrc : Src w (some a) cs) (h1 : ∀ v ∈ cs, v.oneCell' = true) :
    (Builtin.copy_ #[dT, dT] ty #[.slice (some ⟨g, off, none⟩) dLen dCap, .slice (some a) sLen sCap]).run P w = .ok (.int .i64 (k : Int)) (setBlk w g (pre ++ cs ++ post)) := by
  subst ho
  have hl := run_loadCells_list (P := P) w a cs (fun j v hv => by
    obtain ⟨hj, rfl⟩ := List.getElem?_eq_some_iff.1 hv
    obtain ⟨b, off, ha, hc⟩ := hsrc j hj
    simp only [Option.some.injEq] at ha
    subst ha
    rw [addr_add]; exact hc)
  have hst := run_storeCells_at P g pre.length e cs 0 _ w hb (by simp; omega) h1
  have e1 : ((pre ++ mid ++ post).take (pre.length + 0)) ++ cs ++ ((pre ++ mid ++ post).drop (pre.length + 0 + cs.length)) = pre ++ cs ++ post := by
    rw [← hm, List.append_assoc pre mid post]
    simp
  rw [hn] at hl
  obtain ⟨i, hi, hsz⟩ := Option.map_eq_some_iff.1 hs
  have hst' : (storeCells ⟨g, pre.length, none⟩ cs 0).run P w = .ok () (setBlk w g (pre ++ cs ++ post)) := by
    rw [hst]
    simp only [setBlk]
    rw [e1]
  simp [Builtin.copy_, run_underlying hu, Builtin.lenOf, Builtin.firstCells, sizeOf, typeInfo, hi, hsz, ← hk, hl, hst', goInt]
theorem overlaps_cells {tS tR : TypeId} {a b oa ob la ca lb cb size : Nat} {LA LB : List Value} {tA tB : TypeId} (ht : P.underlying tS = some (.slice e)) (hz : ∀ w, (sizeOf e).run P w = .ok size w) (hA : Blk w a LA tA) (hB : Blk w b LB tB) (hne : a ≠ b) (hLB : LB ≠ []) :
    (Extern.SlicesOverlaps.overlaps #[tS, tS] #[tR] #[.slice (some ⟨a, oa, none⟩) la ca, .slice (some ⟨b, ob, none⟩) lb cb]).run P w = .ok (.bool false) w := by
  refine Lib.run_overlaps_apart w tS tR e ht size hz ⟨a, oa, none⟩ ⟨b, ob, none⟩ la ca lb cb hne tA tB LA.length LB.length ?_ ?_ (fun h => hLB (List.eq_nil_of_length_eq_zero h)) (hA.free _) (hA.free _)
  · simp only [World.shape?, show w.heap[a]? = _ from hA]; simp
  simp only [World.shape?, show w.heap[b]? = _ from hB]; simp
end
theorem row_load {w : World} {e : TypeId} {size n c b j : Nat} {xs : List Value} {v : Value} (h : w.ownsRow 0 e size (.slice (some ⟨b, 0, none⟩) n c) n xs) (hj : xs[j]? = some v) : w.cell? ⟨b, 0 + j, none⟩ = some v := by
  rcases h.2 with ⟨h1, -⟩ | ⟨g, cap, cur, h1, -, hg, -, -, -, htake⟩
  · cases h1
  simp only [Value.slice.injEq, Option.some.injEq, Addr.mk.injEq] at h1
  obtain ⟨⟨rfl, -, -⟩, -, -⟩ := h1
  rw [cell_of_row w b (0 + j) cur e (0, 0) hg, Nat.zero_add]
  have hjl : j < n * size := by have := (List.getElem?_eq_some_iff.1 hj).1; have := h.1; omega
  rw [← htake, List.getElem?_take_of_lt hjl] at hj
  rw [← Array.getElem?_toList]; exact hj
theorem Src.drop {w : World} {b off : Nat} {xs : List Value} (h : Src w (some ⟨b, off, none⟩) xs) (k : Nat) : Src w (some ⟨b, off + k, none⟩) (xs.drop k) := fun i hi => by
  rw [List.length_drop] at hi
  obtain ⟨b', off', h1, h2⟩ := h (k + i) (by omega)
  cases h1
  refine ⟨b, off + k, rfl, ?_⟩
  rw [List.getElem_drop, Nat.add_assoc]
  exact h2
theorem row_some {w : World} {e : TypeId} {size n c : Nat} {ad : Option Addr} {xs : List Value} (h : w.ownsRow 0 e size (.slice ad n c) n xs) (hn : 0 < n) : ∃ b, ad = some ⟨b, 0, none⟩ := by
  rcases h.2 with ⟨-, h2⟩ | ⟨g, cap, cur, h1, -⟩
  · omega
  simp only [Value.slice.injEq] at h1
  exact ⟨g, h1.1⟩
theorem rdW_row {B : Base} {e : TypeId} {size n c b : Nat} {xs : List Value} : RdW B [Res.row e size (.slice (some ⟨b, 0, none⟩) n c) n xs] (some ⟨b, 0, none⟩) xs := fun i hi =>
  ⟨b, 0, rfl, fun _ _ _ _ hR hv => row_load (hv.own _ (hR _ (List.mem_singleton.2 rfl))) (List.getElem?_eq_getElem hi)⟩
theorem rdW_cell {B : Base} {b : Nat} {L : List Value} {t : TypeId} : RdW B [Res.cell b L t] (some ⟨b, 0, none⟩) L := fun i hi =>
  ⟨b, 0, rfl, fun _ _ _ _ hR hv => by rw [Blk.cell (hv.own _ (hR _ (List.mem_singleton.2 rfl)) : Blk _ b L t), Nat.zero_add, List.getElem?_eq_getElem hi]⟩
theorem RdW.drop {B : Base} {R : List Res} {b off : Nat} {xs : List Value} (h : RdW B R (some ⟨b, off, none⟩) xs) (k : Nat) : RdW B R (some ⟨b, off + k, none⟩) (xs.drop k) := fun i hi => by
  rw [List.length_drop] at hi
  obtain ⟨b', off', h1, h2⟩ := h (k + i) (by omega)
  cases h1
  refine ⟨b, off + k, rfl, fun C K w hB hR hv => ?_⟩
  rw [List.getElem_drop, Nat.add_assoc]
  exact h2 C K w hB hR hv
theorem Inv.ne2 {B : Base} {a b : Nat} {L M : List Value} {s t : TypeId} {H : List Res} {w : World} (hv : Inv B (Res.cell a L s :: Res.cell b M t :: H) w) : a ≠ b := fun e => by
  have hd := hv.dis
  simp only [List.flatMap_cons] at hd
  rw [e] at hd
  simp at hd
theorem Inv.storeRow {B : Base} {e : TypeId} {size n c b j : Nat} {xs : List Value} {v : Value} {H : List Res} {w : World} (hv : Inv B (Res.row e size (.slice (some ⟨b, 0, none⟩) n c) n xs :: H) w) (hj : j < xs.length) :
    ∃ L : List Value, Blk w b L e ∧ j < L.length ∧ Inv B (Res.row e size (.slice (some ⟨b, 0, none⟩) n c) n (xs.set j v) :: H) (setBlk w b (L.set j v)) := by
  have hlen := (hv.head : World.ownsRow _ _ _ _ _ _ _).1
  obtain ⟨L, h1, h2, h3, h4, hc⟩ := hv.rowCell
  have hle : n * size ≤ c * size := Nat.mul_le_mul_right _ h3
  refine ⟨L, hc.head, by omega, ?_⟩
  have := (hc.put (L.set j v)).cellRow (n := n) (c := c) (size := size) (by rw [List.length_set, h1]) h3 h4
  rw [List.take_set, h2] at this
  exact this
section
variable {F : Fence} {n : Nat} {P : Program} {ops : Array Oper} {Q : Exit → Act → World → Prop} {a : Act} {w : World} {rest : List Oper} {o : Oper} {v zv : Value} {B : Base} {H : List Res} {t e u : TypeId} {x y : Operand} {bytes size : Nat} {J : List Value → World → Prop} {vals : List Value}
theorem ex_cap0 {pa : Option Addr} {l c : Nat} (ht : P.underlying t = some (.slice e)) (ho : o.op = .call { callee := .builtin .cap, args := #[x], argTypes := #[t] }) (hx : a.eval x = .slice pa l c) : Ex P a o w (.int .i64 c) w := by
  unfold Ex; simp [execOp, ho, hx, resolve, invoke, builtin, Builtin.cap_, run_underlying ht, goInt]
theorem ex_extern {f : FuncId} {xs : Array Operand} {ts : Array TypeId} {args : Array Value} {w' : World} (ho : o.op = .call { callee := .value (.func f), args := xs, argTypes := ts }) (hx : xs.map a.eval = args) (hr : (callFunc f args).run P w = .ok (.value v) w') : Ex P a o w v w' := by
  have : execOp a.eval o = callFunc f (#[] ++ xs.map a.eval ++ #[]) := by
    obtain ⟨d, op, ty, pos, af, gd⟩ := o
    simp only at ho
    subst ho
    rfl
  unfold Ex
  rw [this, hx]
  simpa using hr
theorem sl_storeRow {b c m j : Nat} {xs : List Value} (hF : ∀ f, F.fn f) (hg : Region.wanted o (yielded ops a.tmps) = true) (ho : o.op = .store t x y) (hx : a.eval x = .pointer (some ⟨b, j, none⟩)) (hy : a.eval y = v) (hv : Inv B (Res.row e size (.slice (some ⟨b, 0, none⟩) m c) m xs :: H) w) (hz : (P.info? t).map (·.size) = some 1)
    (hj : j < xs.length) (hc : v.cells = #[v]) (h1 : v.oneCell' = true) (h : ∀ w', Inv B (Res.row e size (.slice (some ⟨b, 0, none⟩) m c) m (xs.set j v) :: H) w' → wpListIn F n P ops Q rest (a.put o.dst undef) w') : wpListIn F n P ops Q (o :: rest) a w := by
  obtain ⟨L, h2, h3, h4⟩ := hv.storeRow (v := v) hj
  exact wpi_exUG hF hg (by unfold isDefer; rw [ho]) (ex_store ho hx hy (run_store1 hz h2 h3 hc h1)) (h _ h4)
theorem mem_storeRow {b c m j : Nat} {xs : List Value} (hg : Region.wanted o (yielded ops a.tmps) = true) (ho : o.op = .store t x y) (hx : a.eval x = .pointer (some ⟨b, j, none⟩)) (hy : a.eval y = v) (hv : Inv B (Res.row e size (.slice (some ⟨b, 0, none⟩) m c) m xs :: H) w) (hz : (P.info? t).map (·.size) = some 1)
    (hj : j < xs.length) (hc : v.cells = #[v]) (h1 : v.oneCell' = true) (h : ∀ w', Inv B (Res.row e size (.slice (some ⟨b, 0, none⟩) m c) m (xs.set j v) :: H) w' → J (vals ++ [undef]) w') : StepMem P ops J Q o a w vals := by
  obtain ⟨L, h2, h3, h4⟩ := hv.storeRow (v := v) hj
  exact ExU.mem (ex_store ho hx hy (run_store1 hz h2 h3 hc h1)) hg (h _ h4)
theorem mem_rowAgg {L : List Value} (hg : Region.wanted o (yielded ops a.tmps) = true) (ho : o.op = .buildSlice t 1 #[(0, x)]) (hx : a.eval x = .agg L.toArray) (hv : Inv B H w) (E : Elem P t e zv size bytes) (hL : L.length = size) (hk : size * 1 ≤ 16777216)
    (h : ∀ b w', Inv B (Res.cell b L e :: H) w' → J (vals ++ [.slice (some ⟨b, 0, none⟩) 1 1]) w') : StepMem P ops J Q o a w vals :=
  Ex.mem (ex_row1 ho hx (run_row1 E L hL hk)) hg (h _ _ (hv.alloc L e))
theorem mem_row2 {v1 v2 : Value} (hg : Region.wanted o (yielded ops a.tmps) = true) (ho : o.op = .buildSlice t 2 #[(0, x), (1, y)]) (hx : a.eval x = v1) (hy : a.eval y = v2) (hv : Inv B H w)
    (hr : ∀ w, (Instr.buildSlice t 2 #[(0, v1), (1, v2)]).run P w = .ok (.slice (some ⟨w.heap.size, 0, none⟩) 2 2) (w.alloc (.cells [v1, v2].toArray e)))
    (h : ∀ b w', Inv B (Res.cell b [v1, v2] e :: H) w' → J (vals ++ [.slice (some ⟨b, 0, none⟩) 2 2]) w') : StepMem P ops J Q o a w vals :=
  Ex.mem (by unfold Ex; simp [execOp, ho, hx, hy, hr]) hg (h _ _ (hv.alloc [v1, v2] e))
theorem sl_copyAt (i : Nat) {g off dLen dCap k sLen sCap : Nat} {pre mid post cs : List Value} {ad : Addr} (hF : ∀ f, F.fn f) (hg : Region.wanted o (yielded ops a.tmps) = true) (ho : o.op = .call { callee := .builtin .copy, args := #[x, y], argTypes := #[t, t] }) (hx : a.eval x = .slice (some ⟨g, off, none⟩) dLen dCap) (hy : a.eval y = .slice (some ad) sLen sCap)
    (hu : P.underlying t = some (.slice u)) (hs : (P.info? u).map (·.size) = some size) (hv : Inv B H w) {L : List Value} (hi : H[i]? = some (Res.cell g L e)) (hL : L = pre ++ mid ++ post) (hoff : pre.length = off) (hm : mid.length = cs.length) (hk : k = Nat.min sLen dLen) (hn : cs.length = k * size) (hsrc : Src w (some ad) cs) (h1 : ∀ v ∈ cs, v.oneCell' = true)
    (h : ∀ w', Inv B (H.set i (Res.cell g (pre ++ cs ++ post) e)) w' → wpListIn F n P ops Q rest (a.put o.dst (.int .i64 (k : Int))) w') : wpListIn F n P ops Q (o :: rest) a w := by
  subst hL
  exact wpi_exG hF hg (by unfold isDefer; rw [ho]) (ex_copy ho hx hy (run_copyN hu hs (hv.get i hi) hoff hm hk hn hsrc h1)) (h _ (hv.putAt i hi _))
theorem mem_copyAt (i : Nat) {g off dLen dCap k sLen sCap : Nat} {pre mid post cs : List Value} {ad : Addr} (hg : Region.wanted o (yielded ops a.tmps) = true) (ho : o.op = .call { callee := .builtin .copy, args := #[x, y], argTypes := #[t, t] }) (hx : a.eval x = .slice (some ⟨g, off, none⟩) dLen dCap) (hy : a.eval y = .slice (some ad) sLen sCap)
    (hu : P.underlying t = some (.slice u)) (hs : (P.info? u).map (·.size) = some size) (hv : Inv B H w) {L : List Value} (hi : H[i]? = some (Res.cell g L e)) (hL : L = pre ++ mid ++ post) (hoff : pre.length = off) (hm : mid.length = cs.length) (hk : k = Nat.min sLen dLen) (hn : cs.length = k * size) (hsrc : Src w (some ad) cs) (h1 : ∀ v ∈ cs, v.oneCell' = true)
    (h : ∀ w', Inv B (H.set i (Res.cell g (pre ++ cs ++ post) e)) w' → J (vals ++ [.int .i64 (k : Int)]) w') : StepMem P ops J Q o a w vals := by
  subst hL
  exact Ex.mem (ex_copy ho hx hy (run_copyN hu hs (hv.get i hi) hoff hm hk hn hsrc h1)) hg (h _ (hv.putAt i hi _))
theorem sl_appendZ {g m c k : Nat} {olds : List Value} {kn : IntKind} (hF : ∀ f, F.fn f) (hg : Region.wanted o (yielded ops a.tmps) = true) (ho : o.op = .call { callee := .builtin .append, args := #[x, y], argTypes := #[t, u] }) (hx : a.eval x = .slice (some ⟨g, 0, none⟩) m c) (hy : a.eval y = .int .i64 (k : Int)) (E : Elem P t e zv size bytes) (hu : P.underlying u = some (.int kn))
    (hv : Inv B H w) (hlo : olds.length = m * size) (hsrc : Src w (some ⟨g, 0, none⟩) olds) (h0 : 0 < k) (hgr : c < m + k) (h63 : m + k ≤ 100000000) (hbytes : (m + k) * bytes ≤ 140737488355328)
    (h : ∀ b c' zs w', m + k ≤ c' → c' ≤ maxLen → zs.length = (c' - m) * size → Inv B (Res.cell b (olds ++ zs) e :: H) w' → wpListIn F n P ops Q rest (a.put o.dst (.slice (some ⟨b, 0, none⟩) (m + k) c')) w') : wpListIn F n P ops Q (o :: rest) a w := by
  obtain ⟨ht, ⟨i, hi, hz, hs, hby⟩, hzs, hpos⟩ := E
  have hholds : ∀ j v, olds[j]? = some v → w.drew.cell? ((⟨g, 0, none⟩ : Addr).add j) = some v := fun j v hj => by
    obtain ⟨hj1, rfl⟩ := List.getElem?_eq_some_iff.1 hj
    obtain ⟨b, off, ha, hc⟩ := hsrc j hj1
    cases ha
    rw [addr_add]; exact hc
  have hold := run_firstCells_some (P := P) w.drew i.size m ⟨g, 0, none⟩ m c olds (by rw [hs]; exact hlo) hholds
  have hcap := nextslicecap_le hgr
  have hbm : Builtin.nextslicecap (m + k) c * i.bytes ≤ 281474976710656 := by
    have := Nat.mul_le_mul_right i.bytes hcap
    rw [Nat.mul_assoc, hby] at this
    rw [hby]
    omega
  have hkb : k * i.bytes ≤ 281474976710656 := by
    have := Nat.mul_le_mul_right bytes (show k ≤ m + k by omega)
    rw [hby]; omega
  have hr := Lib.run_append_grow_zeros (P := P) w t u o.type e i zv .i64 kn ht hu hi hz (some ⟨g, 0, none⟩) m c olds hold k h0 (by omega) hgr (by omega) hkb hbm
  have hex : Ex P a o w _ _ := show (execOp a.eval o).run P w = _ by
    simp only [execOp, ho, resolve, invoke, builtin, List.map_toArray, List.map_cons, List.map_nil, hx, hy, Sem.run_bind, Sem.run_pure, Result.andThen_ok, hr]
    rfl
  have hge := grownCap_ge w (m + k) c e
  refine wpi_exG hF hg (by unfold isDefer; rw [ho]) hex (h w.drew.heap.size (grownCap w (m + k) c e) ((Builtin.zeroCells zv.cells k).toList ++ (Builtin.zeroCells zv.cells (grownCap w (m + k) c e - (m + k))).toList) _ hge (grownCap_le_maxLen w (m + k) c e (by unfold maxLen; omega)) ?_ ?_)
  · simp only [List.length_append, Array.length_toList, size_zeroCells, hzs, ← Nat.add_mul]
    congr 1; omega
  have := hv.drew.alloc (olds ++ ((Builtin.zeroCells zv.cells k).toList ++ (Builtin.zeroCells zv.cells (grownCap w (m + k) c e - (m + k))).toList)) e
  rw [show (olds ++ ((Builtin.zeroCells zv.cells k).toList ++ (Builtin.zeroCells zv.cells (grownCap w (m + k) c e - (m + k))).toList)).toArray = olds.toArray ++ Builtin.zeroCells zv.cells k ++ Builtin.zeroCells zv.cells (grownCap w (m + k) c e - (m + k)) from Array.ext' (by simp)] at this
  exact this
theorem sl_clearAt (i : Nat) {g off m c : Nat} {pre mid post : List Value} (hF : ∀ f, F.fn f) (hg : Region.wanted o (yielded ops a.tmps) = true) (ho : o.op = .call { callee := .builtin .clear, args := #[x], argTypes := #[t] }) (hx : a.eval x = .slice (some ⟨g, off, none⟩) m c) (E : Elem P t u zv size bytes) (hz1 : ∀ v ∈ zv.cells.toList, v.oneCell' = true)
    (hv : Inv B H w) {L : List Value} (hi : H[i]? = some (Res.cell g L e)) (hL : L = pre ++ mid ++ post) (hoff : pre.length = off) (hm : mid.length = m * size)
    (h : ∀ zs w', zs.length = mid.length → Inv B (H.set i (Res.cell g (pre ++ zs ++ post) e)) w' → wpListIn F n P ops Q rest (a.put o.dst (.tuple #[])) w') : wpListIn F n P ops Q (o :: rest) a w := by
  subst hL hoff
  obtain ⟨ht, ⟨inf, hinf, hz, hs, hby⟩, hzs, hpos⟩ := E
  cases m with
  | zero =>
    have hmid : mid = [] := List.eq_nil_of_length_eq_zero (by simpa using hm)
    have hex : Ex P a o w (.tuple #[]) w := by
      unfold Ex; simp [execOp, ho, resolve, invoke, builtin, hx, Builtin.clear_, run_underlying ht]
    refine wpi_exG hF hg (by unfold isDefer; rw [ho]) hex (h mid w rfl ?_)
    have := hv.putAt i hi (pre ++ mid ++ post)
    have e1 : setBlk w g (pre ++ mid ++ post) = w := setRow_self w g _ e (0, 0) (hv.get i hi : Blk _ _ _ _)
    rw [e1] at this
    exact this
  | succ m =>
    have hzc : (Builtin.zeroCells zv.cells (m + 1)).toList.length = mid.length := by
      rw [Array.length_toList, size_zeroCells, hzs, hm]
    have hone : ∀ v ∈ (Builtin.zeroCells zv.cells (m + 1)).toList, v.oneCell' = true := by
      intro v hvm
      simp only [Builtin.zeroCells, Array.toList_map, List.mem_map] at hvm
      obtain ⟨k, -, rfl⟩ := hvm
      have hk : k % zv.cells.size < zv.cells.size := Nat.mod_lt _ (by omega)
      rw [getElem!_pos zv.cells (k % zv.cells.size) hk]
      exact hz1 _ (by simp)
    have hst := run_storeCells_at P g pre.length e (Builtin.zeroCells zv.cells (m + 1)).toList 0 _ w (hv.get i hi : Blk _ _ _ _) (by rw [hzc]; simp) hone
    have e1 : ((pre ++ mid ++ post).take (pre.length + 0)) ++ (Builtin.zeroCells zv.cells (m + 1)).toList ++ ((pre ++ mid ++ post).drop (pre.length + 0 + (Builtin.zeroCells zv.cells (m + 1)).toList.length)) = pre ++ (Builtin.zeroCells zv.cells (m + 1)).toList ++ post := by
      rw [hzc, List.append_assoc pre mid post]
      simp
    have hst' : (storeCells ⟨g, pre.length, none⟩ (Builtin.zeroCells zv.cells (m + 1)).toList 0).run P w = .ok () (setBlk w g (pre ++ (Builtin.zeroCells zv.cells (m + 1)).toList ++ post)) := by
      rw [hst]
      simp only [setBlk]
      rw [e1]
    have hex : Ex P a o w (.tuple #[]) (setBlk w g (pre ++ (Builtin.zeroCells zv.cells (m + 1)).toList ++ post)) := by
      unfold Ex
      simp [execOp, ho, resolve, invoke, builtin, hx, Builtin.clear_, run_underlying ht, zeroValue, typeInfo, hinf, hz, hst']
    exact wpi_exG hF hg (by unfold isDefer; rw [ho]) hex (h _ _ hzc (hv.putAt i hi _))
end
end Go.Pm
/- slices.Insert of one element, of entries and of blocks; slices.Clone of entries. -/
namespace Go.Proofs.Ytffmbdagjpdieaa
open Go.RowKit Go.Pm
theorem s4mk92 : (Try.prog.info? 92).map (fun i => (i.zero, i.size, i.bytes)) = some (some (.agg #[.string ⟨([] : List UInt8).toArray⟩, .slice none 0 0]), 2, 40) := by kernel_rfl
theorem s4el93 : Elem Try.prog 93 92 (.agg #[.string ⟨([] : List UInt8).toArray⟩, .slice none 0 0]) 2 40 := elem_of Try.underlying93 s4mk92 (by rfl) (by decide)
theorem s4sz92 : (Try.prog.info? 92).map (·.size) = some 2 := by kernel_rfl
set_option maxHeartbeats 4000000 in
theorem insEnt (B : Base) (H : List Res) (w : World) (b c n i k q : Nat) (p d new : List Value) (hn1 : 1 ≤ n) (hnk : n = i + k) (hm : n ≤ 1000000) (hp : p.length = i * 2) (hd : d.length = k * 2) (hnew : new.length = 2) (h1p : ∀ u ∈ p, u.oneCell' = true) (h1d : ∀ u ∈ d, u.oneCell' = true) (h1n : ∀ u ∈ new, u.oneCell' = true) (hv : Inv B (Res.row 92 2 (.slice (some ⟨b, 0, none⟩) n c) n (p ++ d) :: Res.cell q new 92 :: H) w) :
    Calls Try.prog 57 #[.slice (some ⟨b, 0, none⟩) n c, .int .i64 (i : Int), .slice (some ⟨q, 0, none⟩) 1 1] w fun e w' => ∃ b' c', e = .returned (.slice (some ⟨b', 0, none⟩) (n + 1) c') ∧ Inv B (Res.row 92 2 (.slice (some ⟨b', 0, none⟩) (n + 1) c') (n + 1) (p ++ new ++ d) :: H) w' := by
  have hnc : n ≤ c := (hv.rowOk).1.le
  refine (callsIn_wide (n := 5)).1 ?_
  refine callsIn_of_wp Try.func57 rfl trivial ?_
  simp only [Try.ntmps57, List.size_toArray, List.length_cons, List.length_nil, Nat.reduceAdd, Nat.reduceSub, Array.replicate_succ, Array.replicate_zero, List.push_toArray, List.append_toArray, List.nil_append, List.cons_append]
  refine sK fun K1 hK1 => rL ?_
  refine xA (.slice none 0 0) rfl rfl rfl ?_
  refine wL ?_
  simp only [zP, zI, zS, zO]
  refine tN (hK1 _ _ ?_)
  clear hK1 K1
  refine sK fun K2 hK2 => rL ?_
  refine xM (.slice (some ⟨b, 0, none⟩) n c) rfl rfl rfl ?_
  refine xM (.int .i64 (i : Int)) rfl rfl rfl ?_
  refine xG (sliced (some ⟨b, 0, none⟩) i n c 2) rfl rfl (ex_slice (lo' := some (.int .i64 (i : Int))) rfl rfl (congrArg some rfl) rfl rfl (run_fromAny Try.underlying93 s3es93 (by omega))) ?_
  refine wL ?_
  simp only [zP, zI, zS, zO]
  refine tN (hK2 _ _ ?_)
  clear hK2 K2
  refine sK fun K3 hK3 => rL ?_
  refine xM (.slice (some ⟨q, 0, none⟩) 1 1) rfl rfl rfl ?_
  refine xG (.int .i64 1) rfl rfl (ex_len0 Try.underlying93 rfl rfl) ?_
  refine xA (.int .i64 1) rfl rfl rfl ?_
  refine wL ?_
  simp only [zP, zI, zS, zO]
  refine tN (hK3 _ _ ?_)
  clear hK3 K3
  refine sK fun K4 hK4 => ?_
  refine sK fun K5 hK5 => rL ?_
  refine xM (.int .i64 1) rfl rfl rfl ?_
  refine xG (.bool false) rfl rfl (ex_eql (k := .i64) (m := 1) (n := 0) rfl rfl rfl (by decide)) ?_
  refine wL ?_
  simp only [zP, zI, zS, zO]
  refine tN (hK5 _ _ ?_)
  clear hK5 K5
  refine wpIn_cond_false rfl ?_
  refine wpIn_skip ?_
  refine tN (hK4 _ _ ?_)
  clear hK4 K4
  refine sK fun K6 hK6 => rL ?_
  refine xM (.slice (some ⟨b, 0, none⟩) n c) rfl rfl rfl ?_
  refine xG (.int .i64 (n : Int)) rfl rfl (ex_len0 Try.underlying93 rfl rfl) ?_
  refine xA (.int .i64 (n : Int)) rfl rfl rfl ?_
  refine wL ?_
  simp only [zP, zI, zS, zO]
  refine tN (hK6 _ _ ?_)
  clear hK6 K6
  refine sK fun K7 hK7 => ?_
  refine sK fun K8 hK8 => rL ?_
  refine xM (.int .i64 (i : Int)) rfl rfl rfl ?_
  refine xM (.int .i64 (n : Int)) rfl rfl rfl ?_
  by_cases hb9 : (i : Int) = (n : Int)
  · refine xG (.bool true) rfl rfl (ex_eql (k := .i64) (m := (i : Int)) (n := (n : Int)) rfl rfl rfl (decide_eq_true hb9)) ?_
    refine wL ?_
    simp only [zP, zI, zS, zO]
    refine tN (hK8 _ _ ?_)
    clear hK8 K8
    refine wpIn_cond_true rfl ?_
    refine sK fun K10 hK10 => rL ?_
    refine xM (.slice (some ⟨b, 0, none⟩) n c) rfl rfl rfl ?_
    refine xM (.slice (some ⟨q, 0, none⟩) 1 1) rfl rfl rfl ?_
    refine sl_append (news := new) tV (wn rfl) rfl rfl rfl s4el93 hv (ok_full (by omega)) (by rw [hnew]) (rd_all (hv.get 1 rfl)) (h1n) (by unfold maxLen; omega) (by omega) (fun rv11 w14 hv => ?_)
    obtain ⟨ra12, rc13, rfl⟩ := row_slice hv.head
    simp only [zP, zI, zS, zO]
    refine xA (.slice ra12 (n + 1) rc13) rfl rfl rfl ?_
    refine wL ?_
    simp only [zP, zI, zS, zO]
    refine tN (hK10 _ _ ?_)
    clear hK10 K10
    refine wpIn_ret ?_
    refine then_ret ?_
    clear hK7 K7
    refine bR rfl rfl ?_
    obtain ⟨b3, hb3⟩ := row_some hv.head (by omega)
    subst hb3
    obtain rfl : d = [] := List.eq_nil_of_length_eq_zero (by rw [hd]; omega)
    have h9 := (hv.sub (List.Sublist.cons_cons _ (List.Sublist.cons _ (List.Sublist.refl _))))
    simp only [List.append_nil] at h9 ⊢
    exact ⟨b3, _, rfl, h9⟩
  refine xG (.bool false) rfl rfl (ex_eql (k := .i64) (m := (i : Int)) (n := (n : Int)) rfl rfl rfl (decide_eq_false hb9)) ?_
  refine wL ?_
  simp only [zP, zI, zS, zO]
  refine tN (hK8 _ _ ?_)
  clear hK8 K8
  refine wpIn_cond_false rfl ?_
  refine wpIn_skip ?_
  refine tN (hK7 _ _ ?_)
  clear hK7 K7
  refine sK fun K15 hK15 => ?_
  refine sK fun K16 hK16 => rL ?_
  refine xM (.int .i64 (n : Int)) rfl rfl rfl ?_
  refine xM (.int .i64 1) rfl rfl rfl ?_
  refine xG (.int .i64 ((n + 1 : Nat) : Int)) rfl rfl (ex_add (m := (n : Int)) (n := 1) rfl rfl rfl (by rw [i64_in (by omega)]; omega)) ?_
  simp only [zP, zI, zS, zO]
  refine xM (.slice (some ⟨b, 0, none⟩) n c) rfl rfl rfl ?_
  refine xG (.int .i64 (c : Int)) rfl rfl (ex_cap0 Try.underlying93 rfl rfl) ?_
  by_cases hb17 : ((n + 1 : Nat) : Int) > (c : Int)
  · refine xG (.bool true) rfl rfl (ex_gtr (k := .i64) (m := ((n + 1 : Nat) : Int)) (n := (c : Int)) rfl rfl rfl (decide_eq_true hb17)) ?_
    refine wL ?_
    simp only [zP, zI, zS, zO]
    refine tN (hK16 _ _ ?_)
    clear hK16 K16
    refine wpIn_cond_true rfl ?_
    refine sK fun K18 hK18 => rL ?_
    refine xM (.slice (some ⟨b, 0, none⟩) n c) rfl rfl rfl ?_
    refine xM (.int .i64 (i : Int)) rfl rfl rfl ?_
    refine xG (.slice (some ⟨b, 0, none⟩) i c) rfl rfl (ex_slice (hi' := some (.int .i64 (i : Int))) rfl rfl rfl (congrArg some rfl) rfl (run_hi Try.underlying93 s3es93 (by omega))) ?_
    simp only [zP, zI, zS, zO]
    refine xM (.int .i64 (n : Int)) rfl rfl rfl ?_
    refine xM (.int .i64 1) rfl rfl rfl ?_
    refine xG (.int .i64 ((n + 1 : Nat) : Int)) rfl rfl (ex_add (m := (n : Int)) (n := 1) rfl rfl rfl (by rw [i64_in (by omega)]; omega)) ?_
    simp only [zP, zI, zS, zO]
    refine xM (.int .i64 (i : Int)) rfl rfl rfl ?_
    refine xG (.int .i64 ((k + 1 : Nat) : Int)) rfl rfl (ex_sub (m := ((n + 1 : Nat) : Int)) (n := (i : Int)) rfl rfl rfl (by rw [i64_in (by omega)]; omega)) ?_
    refine sl_appendZ (m := i) (k := k + 1) (olds := p) tV (wn rfl) rfl rfl rfl s4el93 Try.underlying3 hv hp (by have h9 := (hv.rowOk).2.1.take (i * 2); rw [List.take_left' hp] at h9; exact h9) (by omega) (by omega) (by omega) (by omega) (fun b2 c2 zs w19 hc2 hc2m hzs hv => ?_)
    obtain ⟨z1, z2, rfl, hz1⟩ : ∃ z1 z2 : List Value, zs = z1 ++ z2 ∧ z1.length = 2 := ⟨zs.take 2, zs.drop 2, (List.take_append_drop _ _).symm, by rw [List.length_take, hzs]; omega⟩
    obtain ⟨z3, z4, rfl, hz3⟩ : ∃ z3 z4 : List Value, z2 = z3 ++ z4 ∧ z3.length = k * 2 := ⟨z2.take (k * 2), z2.drop (k * 2), (List.take_append_drop _ _).symm, by rw [List.length_append] at hzs; rw [List.length_take]; omega⟩
    simp only [zP, zI, zS, zO]
    refine xA (.slice (some ⟨b2, 0, none⟩) (i + (k + 1)) c2) rfl rfl rfl ?_
    refine wL ?_
    simp only [zP, zI, zS, zO]
    refine tN (hK18 _ _ ?_)
    clear hK18 K18
    refine sK fun K20 hK20 => rL ?_
    refine xM (.slice (some ⟨b2, 0, none⟩) (i + (k + 1)) c2) rfl rfl rfl ?_
    refine xM (.int .i64 (i : Int)) rfl rfl rfl ?_
    refine xG (.slice (some ⟨b2, 0 + i * 2, none⟩) ((i + (k + 1)) - i) (c2 - i)) rfl rfl (ex_slice (lo' := some (.int .i64 (i : Int))) rfl rfl (congrArg some rfl) rfl rfl (run_from (size := 2) Try.underlying93 s3es93 (by omega) (by omega))) ?_
    simp only [zP, zI, zS, zO]
    refine xM (.slice (some ⟨q, 0, none⟩) 1 1) rfl rfl rfl ?_
    refine sl_copyAt 0 (size := 2) (k := 1) (pre := p) (mid := z1) (post := z3 ++ z4) (cs := new) tV (wn rfl) rfl rfl rfl Try.underlying93 s4sz92 hv rfl (by simp only [List.append_assoc]) (by rw [hp]; omega) (by rw [hz1, hnew]) (by show 1 = min 1 _; omega) (by rw [hnew]) (rd_all (hv.get 2 rfl)) h1n (fun w21 hv => ?_)
    simp only [List.set_cons_zero] at hv
    refine wL ?_
    simp only [zP, zI, zS, zO]
    refine tN (hK20 _ _ ?_)
    clear hK20 K20
    refine sK fun K22 hK22 => ?_
    refine region_st mixed [.slice (some ⟨b2, 0, none⟩) (i + (k + 1)) c2, .int .i64 (i : Int), .int .i64 1, .int .i64 ((i + 1 : Nat) : Int), .slice (some ⟨b2, 0 + (i + 1 : Nat) * 2, none⟩) ((i + (k + 1)) - (i + 1 : Nat)) (c2 - (i + 1 : Nat)), .slice (some ⟨b, 0, none⟩) n c, .int .i64 (i : Int), .slice (some ⟨b, 0 + i * 2, none⟩) (n - i) (c - i), undef] [8] [⟨fun vals w => vals = [] ∧ Inv B (Res.cell b2 (p ++ new ++ (z3 ++ z4)) 92 :: Res.row 92 2 (.slice (some ⟨b, 0, none⟩) n c) n (p ++ d) :: Res.cell q new 92 :: H) w, fun _ _ _ ⟨h, hi⟩ he => ⟨h, hi.ext he⟩⟩, ⟨fun vals w => vals = [.int .i64 (k : Int)] ∧ Inv B (Res.cell b2 ((p ++ new) ++ d ++ z4) 92 :: Res.row 92 2 (.slice (some ⟨b, 0, none⟩) n c) n (p ++ d) :: Res.cell q new 92 :: H) w, fun _ _ _ ⟨h, hi⟩ he => ⟨h, hi.ext he⟩⟩] 95 rfl (by kernel_rfl) ⟨rfl, hv⟩ ⟨?_, ?_, ?_, ?_, ?_, ?_, ?_, ?_, ?_, trivial⟩ ?_
    · intro aa ww vals hJ hR
      exact xD rfl (ex_move rfl (show aa.eval (.tmp 9) = _ from hR.keep 9 rfl)) rfl rfl
    · intro aa ww vals hJ hR
      exact xD rfl (ex_move rfl (show aa.eval (.tmp 1) = _ from hR.keep 1 rfl)) rfl rfl
    · intro aa ww vals hJ hR
      exact xD rfl (ex_move rfl (show aa.eval (.tmp 7) = _ from hR.keep 7 rfl)) rfl rfl
    · intro aa ww vals hJ hR
      exact xD rfl (ex_add (m := (i : Int)) (n := 1) rfl (hR.w 1 47 rfl rfl rfl rfl) (hR.w 2 48 rfl rfl rfl rfl) (by rw [i64_in (by omega)]; omega)) rfl rfl
    · intro aa ww vals hJ hR
      exact xD rfl (ex_slice (lo' := some (.int .i64 ((i + 1 : Nat) : Int))) rfl (hR.w 0 46 rfl rfl rfl rfl) (congrArg some (hR.w 3 49 rfl rfl rfl rfl)) rfl rfl (run_from (size := 2) Try.underlying93 s3es93 (by omega) (by omega))) rfl rfl
    · intro aa ww vals hJ hR
      exact xD rfl (ex_move rfl (show aa.eval (.tmp 0) = _ from hR.keep 0 rfl)) rfl rfl
    · intro aa ww vals hJ hR
      exact xD rfl (ex_move rfl (show aa.eval (.tmp 1) = _ from hR.keep 1 rfl)) rfl rfl
    · intro aa ww vals hJ hR
      exact xD rfl (ex_slice (lo' := some (.int .i64 (i : Int))) rfl (hR.w 5 51 rfl rfl rfl rfl) (congrArg some (hR.w 6 52 rfl rfl rfl rfl)) rfl rfl (run_from (size := 2) Try.underlying93 s3es93 (by omega) (by omega))) rfl rfl
    · intro aa ww vals hJ hR
      refine mem_step' rfl fun hvl => ?_
      have hl : vals.length = 0 := hvl
      obtain ⟨hvals, hv⟩ := hJ.at0 hl
      refine mem_copyAt 0 (size := 2) (k := k) (pre := p ++ new) (mid := z3) (post := z4) (cs := d) (wn rfl) rfl (hR.w 4 50 rfl rfl rfl rfl) (hR.w 7 53 rfl rfl rfl rfl) Try.underlying93 s4sz92 hv rfl (by simp only [List.append_assoc]) (by rw [List.length_append, hp, hnew]; omega) (by rw [hz3, hd]) (by show k = min _ _; omega) (hd) (by have h9 := (hv.front 1 rfl).rowOk.2.1.drop (i * 2); rw [List.drop_left' hp] at h9; exact h9) h1d (fun w23 hv => ?_)
      exact JS.next hl ⟨by rw [hvals]; rfl, hv⟩
    rintro w24 vals ⟨rfl, hv⟩
    rw [show mixV [8] [.int .i64 (k : Int)] 0 [.slice (some ⟨b2, 0, none⟩) (i + (k + 1)) c2, .int .i64 (i : Int), .int .i64 1, .int .i64 ((i + 1 : Nat) : Int), .slice (some ⟨b2, 0 + (i + 1 : Nat) * 2, none⟩) ((i + (k + 1)) - (i + 1 : Nat)) (c2 - (i + 1 : Nat)), .slice (some ⟨b, 0, none⟩) n c, .int .i64 (i : Int), .slice (some ⟨b, 0 + i * 2, none⟩) (n - i) (c - i), undef] = [.slice (some ⟨b2, 0, none⟩) (i + (k + 1)) c2, .int .i64 (i : Int), .int .i64 1, .int .i64 ((i + 1 : Nat) : Int), .slice (some ⟨b2, 0 + (i + 1 : Nat) * 2, none⟩) ((i + (k + 1)) - (i + 1 : Nat)) (c2 - (i + 1 : Nat)), .slice (some ⟨b, 0, none⟩) n c, .int .i64 (i : Int), .slice (some ⟨b, 0 + i * 2, none⟩) (n - i) (c - i), .int .i64 (k : Int)] from rfl]
    simp only [putAll, zP, zI, zS, zO]
    refine tN (hK22 _ _ ?_)
    clear hK22 K22
    refine sK fun K25 hK25 => rL ?_
    refine xM (.slice (some ⟨b2, 0, none⟩) (i + (k + 1)) c2) rfl rfl rfl ?_
    refine xA (.slice (some ⟨b2, 0, none⟩) (i + (k + 1)) c2) rfl rfl rfl ?_
    refine wL ?_
    simp only [zP, zI, zS, zO]
    refine tN (hK25 _ _ ?_)
    clear hK25 K25
    refine wpIn_ret ?_
    refine then_ret ?_
    clear hK15 K15
    refine bR rfl rfl ?_
    have h9 := (hv.sub (List.Sublist.cons_cons _ (List.Sublist.cons _ (List.Sublist.cons _ (List.Sublist.refl _)))))
    rw [show (p ++ new) ++ d ++ z4 = (p ++ new ++ d) ++ z4 by simp only [List.append_assoc]] at h9
    have h8 := h9.cellRow (n := n + 1) (c := c2) (size := 2) (by simp only [List.length_append, hp, hd, hnew] at hzs ⊢; omega) (by omega) hc2m
    rw [List.take_left' (by rw [List.length_append, List.length_append, hp, hd, hnew]; omega)] at h8
    rw [show i + (k + 1) = n + 1 by omega]
    exact ⟨b2, _, rfl, h8⟩
  refine xG (.bool false) rfl rfl (ex_gtr (k := .i64) (m := ((n + 1 : Nat) : Int)) (n := (c : Int)) rfl rfl rfl (decide_eq_false hb17)) ?_
  obtain ⟨L, hL1, hL2, hL3, hL4, hv⟩ := hv.rowCell
  obtain ⟨t1, t2, hLe, ht1⟩ : ∃ t1 t2 : List Value, L = p ++ (d ++ (t1 ++ t2)) ∧ t1.length = 2 := ⟨(L.drop (n * 2)).take 2, (L.drop (n * 2)).drop 2, by rw [List.take_append_drop, ← List.append_assoc, ← hL2, List.take_append_drop], by rw [List.length_take, List.length_drop, hL1]; omega⟩
  subst hLe
  refine wL ?_
  simp only [zP, zI, zS, zO]
  refine tN (hK16 _ _ ?_)
  clear hK16 K16
  refine wpIn_cond_false rfl ?_
  refine wpIn_skip ?_
  refine tN (hK15 _ _ ?_)
  clear hK15 K15
  refine sK fun K26 hK26 => rL ?_
  refine xM (.slice (some ⟨b, 0, none⟩) n c) rfl rfl rfl ?_
  refine xM (.int .i64 (n : Int)) rfl rfl rfl ?_
  refine xM (.int .i64 1) rfl rfl rfl ?_
  simp only [zP, zI, zS, zO]
  refine xG (.int .i64 ((n + 1 : Nat) : Int)) rfl rfl (ex_add (m := (n : Int)) (n := 1) rfl rfl rfl (by rw [i64_in (by omega)]; omega)) ?_
  refine xG (.slice (some ⟨b, 0, none⟩) (n + 1 : Nat) c) rfl rfl (ex_slice (hi' := some (.int .i64 ((n + 1 : Nat) : Int))) rfl rfl rfl (congrArg some rfl) rfl (run_hi Try.underlying93 s3es93 (by omega))) ?_
  refine xA (.slice (some ⟨b, 0, none⟩) (n + 1 : Nat) c) rfl rfl rfl ?_
  refine wL ?_
  simp only [zP, zI, zS, zO]
  refine tN (hK26 _ _ ?_)
  clear hK26 K26
  refine sK fun K27 hK27 => ?_
  refine sK fun K28 hK28 => rL ?_
  refine xM (.slice (some ⟨q, 0, none⟩) 1 1) rfl rfl rfl ?_
  refine xM (.slice (some ⟨b, 0, none⟩) (n + 1 : Nat) c) rfl rfl rfl ?_
  refine xM (.int .i64 (i : Int)) rfl rfl rfl ?_
  simp only [zP, zI, zS, zO]
  refine xM (.int .i64 1) rfl rfl rfl ?_
  refine xG (.int .i64 ((i + 1 : Nat) : Int)) rfl rfl (ex_add (m := (i : Int)) (n := 1) rfl rfl rfl (by rw [i64_in (by omega)]; omega)) ?_
  refine xG (.slice (some ⟨b, 0 + (i + 1 : Nat) * 2, none⟩) ((n + 1 : Nat) - (i + 1 : Nat)) (c - (i + 1 : Nat))) rfl rfl (ex_slice (lo' := some (.int .i64 ((i + 1 : Nat) : Int))) rfl rfl (congrArg some rfl) rfl rfl (run_from (size := 2) Try.underlying93 s3es93 (by omega) (by omega))) ?_
  simp only [zP, zI, zS, zO]
  have hov : (callFunc 68 #[.slice (some ⟨q, 0, none⟩) 1 1, .slice (some ⟨b, 0 + (i + 1 : Nat) * 2, none⟩) ((n + 1 : Nat) - (i + 1 : Nat)) (c - (i + 1 : Nat))]).run Try.prog w = .ok (.value (.bool false)) w := by
    rw [run_callFunc_extern Try.func68 (by kernel_rfl) (by kernel_rfl) (by kernel_rfl) (e := Extern.SlicesOverlaps.overlaps #[93, 93] #[4]) (by kernel_rfl), overlaps_cells (tR := 4) (size := 2) Try.underlying93 (Go.Pm.run_sizeOf s4sz92) (hv.get 1 rfl) (hv.get 0 rfl) hv.ne2.symm (by intro h9; have := congrArg List.length h9; simp [ht1] at this)]
    rfl
  refine xG (.bool false) rfl rfl (ex_extern (args := #[.slice (some ⟨q, 0, none⟩) 1 1, .slice (some ⟨b, 0 + (i + 1 : Nat) * 2, none⟩) ((n + 1 : Nat) - (i + 1 : Nat)) (c - (i + 1 : Nat))]) rfl (by simp only [yA, yB, yC]; rfl) hov) ?_
  refine xG (.bool true) rfl rfl (ex_not (b := false) rfl rfl rfl) ?_
  refine wL ?_
  simp only [zP, zI, zS, zO]
  refine tN (hK28 _ _ ?_)
  clear hK28 K28
  refine wpIn_cond_true rfl ?_
  refine sK fun K29 hK29 => ?_
  refine region_st mixed [.slice (some ⟨b, 0, none⟩) (n + 1 : Nat) c, .int .i64 (i : Int), .int .i64 1, .int .i64 ((i + 1 : Nat) : Int), .slice (some ⟨b, 0 + (i + 1 : Nat) * 2, none⟩) ((n + 1 : Nat) - (i + 1 : Nat)) (c - (i + 1 : Nat)), .slice (some ⟨b, 0, none⟩) (n + 1 : Nat) c, .int .i64 (i : Int), .slice (some ⟨b, 0 + i * 2, none⟩) ((n + 1 : Nat) - i) (c - i), undef] [8] [⟨fun vals w => vals = [] ∧ Inv B (Res.cell b (p ++ (d ++ (t1 ++ t2))) 92 :: Res.cell q new 92 :: H) w, fun _ _ _ ⟨h, hi⟩ he => ⟨h, hi.ext he⟩⟩, ⟨fun vals w => vals = [.int .i64 (k : Int)] ∧ Inv B (Res.cell b ((p ++ (d ++ t1).take 2) ++ d ++ t2) 92 :: Res.cell q new 92 :: H) w, fun _ _ _ ⟨h, hi⟩ he => ⟨h, hi.ext he⟩⟩] 95 rfl (by kernel_rfl) ⟨rfl, hv⟩ ⟨?_, ?_, ?_, ?_, ?_, ?_, ?_, ?_, ?_, trivial⟩ ?_
  · intro aa ww vals hJ hR
    exact xD rfl (ex_move rfl (show aa.eval (.tmp 0) = _ from hR.keep 0 rfl)) rfl rfl
  · intro aa ww vals hJ hR
    exact xD rfl (ex_move rfl (show aa.eval (.tmp 1) = _ from hR.keep 1 rfl)) rfl rfl
  · intro aa ww vals hJ hR
    exact xD rfl (ex_move rfl (show aa.eval (.tmp 7) = _ from hR.keep 7 rfl)) rfl rfl
  · intro aa ww vals hJ hR
    exact xD rfl (ex_add (m := (i : Int)) (n := 1) rfl (hR.w 1 70 rfl rfl rfl rfl) (hR.w 2 71 rfl rfl rfl rfl) (by rw [i64_in (by omega)]; omega)) rfl rfl
  · intro aa ww vals hJ hR
    exact xD rfl (ex_slice (lo' := some (.int .i64 ((i + 1 : Nat) : Int))) rfl (hR.w 0 69 rfl rfl rfl rfl) (congrArg some (hR.w 3 72 rfl rfl rfl rfl)) rfl rfl (run_from (size := 2) Try.underlying93 s3es93 (by omega) (by omega))) rfl rfl
  · intro aa ww vals hJ hR
    exact xD rfl (ex_move rfl (show aa.eval (.tmp 0) = _ from hR.keep 0 rfl)) rfl rfl
  · intro aa ww vals hJ hR
    exact xD rfl (ex_move rfl (show aa.eval (.tmp 1) = _ from hR.keep 1 rfl)) rfl rfl
  · intro aa ww vals hJ hR
    exact xD rfl (ex_slice (lo' := some (.int .i64 (i : Int))) rfl (hR.w 5 74 rfl rfl rfl rfl) (congrArg some (hR.w 6 75 rfl rfl rfl rfl)) rfl rfl (run_from (size := 2) Try.underlying93 s3es93 (by omega) (by omega))) rfl rfl
  · intro aa ww vals hJ hR
    refine mem_step' rfl fun hvl => ?_
    have hl : vals.length = 0 := hvl
    obtain ⟨hvals, hv⟩ := hJ.at0 hl
    refine mem_copyAt 0 (size := 2) (k := k) (pre := p ++ (d ++ t1).take 2) (mid := (d ++ t1).drop 2) (post := t2) (cs := d) (wn rfl) rfl (hR.w 4 73 rfl rfl rfl rfl) (hR.w 7 76 rfl rfl rfl rfl) Try.underlying93 s4sz92 hv rfl (by rw [List.append_assoc p, List.take_append_drop]; simp only [List.append_assoc]) (by rw [List.length_append, List.length_take, List.length_append, hp, hd, ht1]; omega) (by rw [List.length_drop, List.length_append, hd, ht1]; omega) (by show k = min _ _; omega) (hd) (src_mid (pre := p) (mid := d) (post := t1 ++ t2) (by have h9 := hv.get 0 rfl; simpa only [List.append_assoc] using h9) (by rw [hp]; omega)) h1d (fun w30 hv => ?_)
    exact JS.next hl ⟨by rw [hvals]; rfl, hv⟩
  rintro w31 vals ⟨rfl, hv⟩
  rw [show mixV [8] [.int .i64 (k : Int)] 0 [.slice (some ⟨b, 0, none⟩) (n + 1 : Nat) c, .int .i64 (i : Int), .int .i64 1, .int .i64 ((i + 1 : Nat) : Int), .slice (some ⟨b, 0 + (i + 1 : Nat) * 2, none⟩) ((n + 1 : Nat) - (i + 1 : Nat)) (c - (i + 1 : Nat)), .slice (some ⟨b, 0, none⟩) (n + 1 : Nat) c, .int .i64 (i : Int), .slice (some ⟨b, 0 + i * 2, none⟩) ((n + 1 : Nat) - i) (c - i), undef] = [.slice (some ⟨b, 0, none⟩) (n + 1 : Nat) c, .int .i64 (i : Int), .int .i64 1, .int .i64 ((i + 1 : Nat) : Int), .slice (some ⟨b, 0 + (i + 1 : Nat) * 2, none⟩) ((n + 1 : Nat) - (i + 1 : Nat)) (c - (i + 1 : Nat)), .slice (some ⟨b, 0, none⟩) (n + 1 : Nat) c, .int .i64 (i : Int), .slice (some ⟨b, 0 + i * 2, none⟩) ((n + 1 : Nat) - i) (c - i), .int .i64 (k : Int)] from rfl]
  simp only [putAll, zP, zI, zS, zO]
  refine tN (hK29 _ _ ?_)
  clear hK29 K29
  refine sK fun K32 hK32 => rL ?_
  refine xM (.slice (some ⟨b, 0, none⟩) (n + 1 : Nat) c) rfl rfl rfl ?_
  refine xM (.int .i64 (i : Int)) rfl rfl rfl ?_
  refine xG (.slice (some ⟨b, 0 + i * 2, none⟩) ((n + 1 : Nat) - i) (c - i)) rfl rfl (ex_slice (lo' := some (.int .i64 (i : Int))) rfl rfl (congrArg some rfl) rfl rfl (run_from (size := 2) Try.underlying93 s3es93 (by omega) (by omega))) ?_
  simp only [zP, zI, zS, zO]
  refine xM (.slice (some ⟨q, 0, none⟩) 1 1) rfl rfl rfl ?_
  refine sl_copyAt 0 (size := 2) (k := 1) (pre := p) (mid := (d ++ t1).take 2) (post := d ++ t2) (cs := new) tV (wn rfl) rfl rfl rfl Try.underlying93 s4sz92 hv rfl (by simp only [List.append_assoc]) (by rw [hp]; omega) (by rw [List.length_take, List.length_append, hd, ht1, hnew]; omega) (by show 1 = min 1 _; omega) (by rw [hnew]) (rd_all (hv.get 1 rfl)) h1n (fun w33 hv => ?_)
  simp only [List.set_cons_zero] at hv
  refine wL ?_
  simp only [zP, zI, zS, zO]
  refine tN (hK32 _ _ ?_)
  clear hK32 K32
  refine sK fun K34 hK34 => rL ?_
  refine xM (.slice (some ⟨b, 0, none⟩) (n + 1 : Nat) c) rfl rfl rfl ?_
  refine xA (.slice (some ⟨b, 0, none⟩) (n + 1 : Nat) c) rfl rfl rfl ?_
  refine wL ?_
  simp only [zP, zI, zS, zO]
  refine tN (hK34 _ _ ?_)
  clear hK34 K34
  refine wpIn_ret ?_
  refine then_ret ?_
  clear hK27 K27
  refine bR rfl rfl ?_
  have h9 := (hv.sub (List.Sublist.cons_cons _ (List.Sublist.cons _ (List.Sublist.refl _))))
  rw [show p ++ new ++ (d ++ t2) = (p ++ new ++ d) ++ t2 by simp only [List.append_assoc]] at h9
  have h8 := h9.cellRow (n := n + 1) (c := c) (size := 2) (by simp only [List.length_append, hp, hd, hnew] at hL1 ⊢; omega) (by omega) hL4
  rw [List.take_left' (by rw [List.length_append, List.length_append, hp, hd, hnew]; omega)] at h8
  exact ⟨b, _, rfl, h8⟩
theorem s4mk93 : (Try.prog.info? 93).map (fun i => (i.zero, i.size, i.bytes)) = some (some (.slice none 0 0), 1, 24) := by kernel_rfl
theorem s4el79 : Elem Try.prog 79 93 (.slice none 0 0) 1 24 := elem_of Try.underlying79 s4mk93 (by rfl) (by decide)
set_option maxHeartbeats 4000000 in
theorem insBlk (B : Base) (H : List Res) (w : World) (b c n i k q : Nat) (p d new : List Value) (hn1 : 1 ≤ n) (hnk : n = i + k) (hm : n ≤ 1000000) (hp : p.length = i * 1) (hd : d.length = k * 1) (hnew : new.length = 1) (h1p : ∀ u ∈ p, u.oneCell' = true) (h1d : ∀ u ∈ d, u.oneCell' = true) (h1n : ∀ u ∈ new, u.oneCell' = true) (hv : Inv B (Res.row 93 1 (.slice (some ⟨b, 0, none⟩) n c) n (p ++ d) :: Res.cell q new 93 :: H) w) :
    Calls Try.prog 58 #[.slice (some ⟨b, 0, none⟩) n c, .int .i64 (i : Int), .slice (some ⟨q, 0, none⟩) 1 1] w fun e w' => ∃ b' c', e = .returned (.slice (some ⟨b', 0, none⟩) (n + 1) c') ∧ Inv B (Res.row 93 1 (.slice (some ⟨b', 0, none⟩) (n + 1) c') (n + 1) (p ++ new ++ d) :: H) w' := by
  have hnc : n ≤ c := (hv.rowOk).1.le
  refine (callsIn_wide (n := 5)).1 ?_
  refine callsIn_of_wp Try.func58 rfl trivial ?_
  simp only [Try.ntmps58, List.size_toArray, List.length_cons, List.length_nil, Nat.reduceAdd, Nat.reduceSub, Array.replicate_succ, Array.replicate_zero, List.push_toArray, List.append_toArray, List.nil_append, List.cons_append]
  refine sK fun K1 hK1 => rL ?_
  refine xA (.slice none 0 0) rfl rfl rfl ?_
  refine wL ?_
  simp only [zP, zI, zS, zO]
  refine tN (hK1 _ _ ?_)
  clear hK1 K1
  refine sK fun K2 hK2 => rL ?_
  refine xM (.slice (some ⟨b, 0, none⟩) n c) rfl rfl rfl ?_
  refine xM (.int .i64 (i : Int)) rfl rfl rfl ?_
  refine xG (sliced (some ⟨b, 0, none⟩) i n c 1) rfl rfl (ex_slice (lo' := some (.int .i64 (i : Int))) rfl rfl (congrArg some rfl) rfl rfl (run_fromAny Try.underlying79 s3es79 (by omega))) ?_
  refine wL ?_
  simp only [zP, zI, zS, zO]
  refine tN (hK2 _ _ ?_)
  clear hK2 K2
  refine sK fun K3 hK3 => rL ?_
  refine xM (.slice (some ⟨q, 0, none⟩) 1 1) rfl rfl rfl ?_
  refine xG (.int .i64 1) rfl rfl (ex_len0 Try.underlying79 rfl rfl) ?_
  refine xA (.int .i64 1) rfl rfl rfl ?_
  refine wL ?_
  simp only [zP, zI, zS, zO]
  refine tN (hK3 _ _ ?_)
  clear hK3 K3
  refine sK fun K4 hK4 => ?_
  refine sK fun K5 hK5 => rL ?_
  refine xM (.int .i64 1) rfl rfl rfl ?_
  refine xG (.bool false) rfl rfl (ex_eql (k := .i64) (m := 1) (n := 0) rfl rfl rfl (by decide)) ?_
  refine wL ?_
  simp only [zP, zI, zS, zO]
  refine tN (hK5 _ _ ?_)
  clear hK5 K5
  refine wpIn_cond_false rfl ?_
  refine wpIn_skip ?_
  refine tN (hK4 _ _ ?_)
  clear hK4 K4
  refine sK fun K6 hK6 => rL ?_
  refine xM (.slice (some ⟨b, 0, none⟩) n c) rfl rfl rfl ?_
  refine xG (.int .i64 (n : Int)) rfl rfl (ex_len0 Try.underlying79 rfl rfl) ?_
  refine xA (.int .i64 (n : Int)) rfl rfl rfl ?_
  refine wL ?_
  simp only [zP, zI, zS, zO]
  refine tN (hK6 _ _ ?_)
  clear hK6 K6
  refine sK fun K7 hK7 => ?_
  refine sK fun K8 hK8 => rL ?_
  refine xM (.int .i64 (i : Int)) rfl rfl rfl ?_
  refine xM (.int .i64 (n : Int)) rfl rfl rfl ?_
  by_cases hb9 : (i : Int) = (n : Int)
  · refine xG (.bool true) rfl rfl (ex_eql (k := .i64) (m := (i : Int)) (n := (n : Int)) rfl rfl rfl (decide_eq_true hb9)) ?_
    refine wL ?_
    simp only [zP, zI, zS, zO]
    refine tN (hK8 _ _ ?_)
    clear hK8 K8
    refine wpIn_cond_true rfl ?_
    refine sK fun K10 hK10 => rL ?_
    refine xM (.slice (some ⟨b, 0, none⟩) n c) rfl rfl rfl ?_
    refine xM (.slice (some ⟨q, 0, none⟩) 1 1) rfl rfl rfl ?_
    refine sl_append (news := new) tV (wn rfl) rfl rfl rfl s4el79 hv (ok_full (by omega)) (by rw [hnew]) (rd_all (hv.get 1 rfl)) (h1n) (by unfold maxLen; omega) (by omega) (fun rv11 w14 hv => ?_)
    obtain ⟨ra12, rc13, rfl⟩ := row_slice hv.head
    simp only [zP, zI, zS, zO]
    refine xA (.slice ra12 (n + 1) rc13) rfl rfl rfl ?_
    refine wL ?_
    simp only [zP, zI, zS, zO]
    refine tN (hK10 _ _ ?_)
    clear hK10 K10
    refine wpIn_ret ?_
    refine then_ret ?_
    clear hK7 K7
    refine bR rfl rfl ?_
    obtain ⟨b3, hb3⟩ := row_some hv.head (by omega)
    subst hb3
    obtain rfl : d = [] := List.eq_nil_of_length_eq_zero (by rw [hd]; omega)
    have h9 := (hv.sub (List.Sublist.cons_cons _ (List.Sublist.cons _ (List.Sublist.refl _))))
    simp only [List.append_nil] at h9 ⊢
    exact ⟨b3, _, rfl, h9⟩
  refine xG (.bool false) rfl rfl (ex_eql (k := .i64) (m := (i : Int)) (n := (n : Int)) rfl rfl rfl (decide_eq_false hb9)) ?_
  refine wL ?_
  simp only [zP, zI, zS, zO]
  refine tN (hK8 _ _ ?_)
  clear hK8 K8
  refine wpIn_cond_false rfl ?_
  refine wpIn_skip ?_
  refine tN (hK7 _ _ ?_)
  clear hK7 K7
  refine sK fun K15 hK15 => ?_
  refine sK fun K16 hK16 => rL ?_
  refine xM (.int .i64 (n : Int)) rfl rfl rfl ?_
  refine xM (.int .i64 1) rfl rfl rfl ?_
  refine xG (.int .i64 ((n + 1 : Nat) : Int)) rfl rfl (ex_add (m := (n : Int)) (n := 1) rfl rfl rfl (by rw [i64_in (by omega)]; omega)) ?_
  simp only [zP, zI, zS, zO]
  refine xM (.slice (some ⟨b, 0, none⟩) n c) rfl rfl rfl ?_
  refine xG (.int .i64 (c : Int)) rfl rfl (ex_cap0 Try.underlying79 rfl rfl) ?_
  by_cases hb17 : ((n + 1 : Nat) : Int) > (c : Int)
  · refine xG (.bool true) rfl rfl (ex_gtr (k := .i64) (m := ((n + 1 : Nat) : Int)) (n := (c : Int)) rfl rfl rfl (decide_eq_true hb17)) ?_
    refine wL ?_
    simp only [zP, zI, zS, zO]
    refine tN (hK16 _ _ ?_)
    clear hK16 K16
    refine wpIn_cond_true rfl ?_
    refine sK fun K18 hK18 => rL ?_
    refine xM (.slice (some ⟨b, 0, none⟩) n c) rfl rfl rfl ?_
    refine xM (.int .i64 (i : Int)) rfl rfl rfl ?_
    refine xG (.slice (some ⟨b, 0, none⟩) i c) rfl rfl (ex_slice (hi' := some (.int .i64 (i : Int))) rfl rfl rfl (congrArg some rfl) rfl (run_hi Try.underlying79 s3es79 (by omega))) ?_
    simp only [zP, zI, zS, zO]
    refine xM (.int .i64 (n : Int)) rfl rfl rfl ?_
    refine xM (.int .i64 1) rfl rfl rfl ?_
    refine xG (.int .i64 ((n + 1 : Nat) : Int)) rfl rfl (ex_add (m := (n : Int)) (n := 1) rfl rfl rfl (by rw [i64_in (by omega)]; omega)) ?_
    simp only [zP, zI, zS, zO]
    refine xM (.int .i64 (i : Int)) rfl rfl rfl ?_
    refine xG (.int .i64 ((k + 1 : Nat) : Int)) rfl rfl (ex_sub (m := ((n + 1 : Nat) : Int)) (n := (i : Int)) rfl rfl rfl (by rw [i64_in (by omega)]; omega)) ?_
    refine sl_appendZ (m := i) (k := k + 1) (olds := p) tV (wn rfl) rfl rfl rfl s4el79 Try.underlying3 hv hp (by have h9 := (hv.rowOk).2.1.take (i * 1); rw [List.take_left' hp] at h9; exact h9) (by omega) (by omega) (by omega) (by omega) (fun b2 c2 zs w19 hc2 hc2m hzs hv => ?_)
    obtain ⟨z1, z2, rfl, hz1⟩ : ∃ z1 z2 : List Value, zs = z1 ++ z2 ∧ z1.length = 1 := ⟨zs.take 1, zs.drop 1, (List.take_append_drop _ _).symm, by rw [List.length_take, hzs]; omega⟩
    obtain ⟨z3, z4, rfl, hz3⟩ : ∃ z3 z4 : List Value, z2 = z3 ++ z4 ∧ z3.length = k * 1 := ⟨z2.take (k * 1), z2.drop (k * 1), (List.take_append_drop _ _).symm, by rw [List.length_append] at hzs; rw [List.length_take]; omega⟩
    simp only [zP, zI, zS, zO]
    refine xA (.slice (some ⟨b2, 0, none⟩) (i + (k + 1)) c2) rfl rfl rfl ?_
    refine wL ?_
    simp only [zP, zI, zS, zO]
    refine tN (hK18 _ _ ?_)
    clear hK18 K18
    refine sK fun K20 hK20 => rL ?_
    refine xM (.slice (some ⟨b2, 0, none⟩) (i + (k + 1)) c2) rfl rfl rfl ?_
    refine xM (.int .i64 (i : Int)) rfl rfl rfl ?_
    refine xG (.slice (some ⟨b2, 0 + i, none⟩) (i + (k + 1) - i) (c2 - i)) rfl rfl (ex_slice (lo' := some (.int .i64 (i : Int))) rfl rfl (congrArg some rfl) rfl rfl (run_from1 Try.underlying79 s3es79 (by omega) (by omega))) ?_
    simp only [zP, zI, zS, zO]
    refine xM (.slice (some ⟨q, 0, none⟩) 1 1) rfl rfl rfl ?_
    refine sl_copyAt 0 (size := 1) (k := 1) (pre := p) (mid := z1) (post := z3 ++ z4) (cs := new) tV (wn rfl) rfl rfl rfl Try.underlying79 s3sz93 hv rfl (by simp only [List.append_assoc]) (by rw [hp]; omega) (by rw [hz1, hnew]) (by show 1 = min 1 _; omega) (by rw [hnew]) (rd_all (hv.get 2 rfl)) h1n (fun w21 hv => ?_)
    simp only [List.set_cons_zero] at hv
    refine wL ?_
    simp only [zP, zI, zS, zO]
    refine tN (hK20 _ _ ?_)
    clear hK20 K20
    refine sK fun K22 hK22 => ?_
    refine region_st mixed [.slice (some ⟨b2, 0, none⟩) (i + (k + 1)) c2, .int .i64 (i : Int), .int .i64 1, .int .i64 ((i + 1 : Nat) : Int), .slice (some ⟨b2, 0 + (i + 1 : Nat), none⟩) (i + (k + 1) - (i + 1 : Nat)) (c2 - (i + 1 : Nat)), .slice (some ⟨b, 0, none⟩) n c, .int .i64 (i : Int), .slice (some ⟨b, 0 + i, none⟩) (n - i) (c - i), undef] [8] [⟨fun vals w => vals = [] ∧ Inv B (Res.cell b2 (p ++ new ++ (z3 ++ z4)) 93 :: Res.row 93 1 (.slice (some ⟨b, 0, none⟩) n c) n (p ++ d) :: Res.cell q new 93 :: H) w, fun _ _ _ ⟨h, hi⟩ he => ⟨h, hi.ext he⟩⟩, ⟨fun vals w => vals = [.int .i64 (k : Int)] ∧ Inv B (Res.cell b2 ((p ++ new) ++ d ++ z4) 93 :: Res.row 93 1 (.slice (some ⟨b, 0, none⟩) n c) n (p ++ d) :: Res.cell q new 93 :: H) w, fun _ _ _ ⟨h, hi⟩ he => ⟨h, hi.ext he⟩⟩] 95 rfl (by kernel_rfl) ⟨rfl, hv⟩ ⟨?_, ?_, ?_, ?_, ?_, ?_, ?_, ?_, ?_, trivial⟩ ?_
    · intro aa ww vals hJ hR
      exact xD rfl (ex_move rfl (show aa.eval (.tmp 9) = _ from hR.keep 9 rfl)) rfl rfl
    · intro aa ww vals hJ hR
      exact xD rfl (ex_move rfl (show aa.eval (.tmp 1) = _ from hR.keep 1 rfl)) rfl rfl
    · intro aa ww vals hJ hR
      exact xD rfl (ex_move rfl (show aa.eval (.tmp 7) = _ from hR.keep 7 rfl)) rfl rfl
    · intro aa ww vals hJ hR
      exact xD rfl (ex_add (m := (i : Int)) (n := 1) rfl (hR.w 1 47 rfl rfl rfl rfl) (hR.w 2 48 rfl rfl rfl rfl) (by rw [i64_in (by omega)]; omega)) rfl rfl
    · intro aa ww vals hJ hR
      exact xD rfl (ex_slice (lo' := some (.int .i64 ((i + 1 : Nat) : Int))) rfl (hR.w 0 46 rfl rfl rfl rfl) (congrArg some (hR.w 3 49 rfl rfl rfl rfl)) rfl rfl (run_from1 Try.underlying79 s3es79 (by omega) (by omega))) rfl rfl
    · intro aa ww vals hJ hR
      exact xD rfl (ex_move rfl (show aa.eval (.tmp 0) = _ from hR.keep 0 rfl)) rfl rfl
    · intro aa ww vals hJ hR
      exact xD rfl (ex_move rfl (show aa.eval (.tmp 1) = _ from hR.keep 1 rfl)) rfl rfl
    · intro aa ww vals hJ hR
      exact xD rfl (ex_slice (lo' := some (.int .i64 (i : Int))) rfl (hR.w 5 51 rfl rfl rfl rfl) (congrArg some (hR.w 6 52 rfl rfl rfl rfl)) rfl rfl (run_from1 Try.underlying79 s3es79 (by omega) (by omega))) rfl rfl
    · intro aa ww vals hJ hR
      refine mem_step' rfl fun hvl => ?_
      have hl : vals.length = 0 := hvl
      obtain ⟨hvals, hv⟩ := hJ.at0 hl
      refine mem_copyAt 0 (size := 1) (k := k) (pre := p ++ new) (mid := z3) (post := z4) (cs := d) (wn rfl) rfl (hR.w 4 50 rfl rfl rfl rfl) (hR.w 7 53 rfl rfl rfl rfl) Try.underlying79 s3sz93 hv rfl (by simp only [List.append_assoc]) (by rw [List.length_append, hp, hnew]; omega) (by rw [hz3, hd]) (by show k = min _ _; omega) (hd) (by have h9 := (hv.front 1 rfl).rowOk.2.1.drop (i * 1); rw [List.drop_left' hp] at h9; rw [Nat.mul_one] at h9; exact h9) h1d (fun w23 hv => ?_)
      exact JS.next hl ⟨by rw [hvals]; rfl, hv⟩
    rintro w24 vals ⟨rfl, hv⟩
    rw [show mixV [8] [.int .i64 (k : Int)] 0 [.slice (some ⟨b2, 0, none⟩) (i + (k + 1)) c2, .int .i64 (i : Int), .int .i64 1, .int .i64 ((i + 1 : Nat) : Int), .slice (some ⟨b2, 0 + (i + 1 : Nat), none⟩) (i + (k + 1) - (i + 1 : Nat)) (c2 - (i + 1 : Nat)), .slice (some ⟨b, 0, none⟩) n c, .int .i64 (i : Int), .slice (some ⟨b, 0 + i, none⟩) (n - i) (c - i), undef] = [.slice (some ⟨b2, 0, none⟩) (i + (k + 1)) c2, .int .i64 (i : Int), .int .i64 1, .int .i64 ((i + 1 : Nat) : Int), .slice (some ⟨b2, 0 + (i + 1 : Nat), none⟩) (i + (k + 1) - (i + 1 : Nat)) (c2 - (i + 1 : Nat)), .slice (some ⟨b, 0, none⟩) n c, .int .i64 (i : Int), .slice (some ⟨b, 0 + i, none⟩) (n - i) (c - i), .int .i64 (k : Int)] from rfl]
    simp only [putAll, zP, zI, zS, zO]
    refine tN (hK22 _ _ ?_)
    clear hK22 K22
    refine sK fun K25 hK25 => rL ?_
    refine xM (.slice (some ⟨b2, 0, none⟩) (i + (k + 1)) c2) rfl rfl rfl ?_
    refine xA (.slice (some ⟨b2, 0, none⟩) (i + (k + 1)) c2) rfl rfl rfl ?_
    refine wL ?_
    simp only [zP, zI, zS, zO]
    refine tN (hK25 _ _ ?_)
    clear hK25 K25
    refine wpIn_ret ?_
    refine then_ret ?_
    clear hK15 K15
    refine bR rfl rfl ?_
    have h9 := (hv.sub (List.Sublist.cons_cons _ (List.Sublist.cons _ (List.Sublist.cons _ (List.Sublist.refl _)))))
    rw [show (p ++ new) ++ d ++ z4 = (p ++ new ++ d) ++ z4 by simp only [List.append_assoc]] at h9
    have h8 := h9.cellRow (n := n + 1) (c := c2) (size := 1) (by simp only [List.length_append, hp, hd, hnew] at hzs ⊢; omega) (by omega) hc2m
    rw [List.take_left' (by rw [List.length_append, List.length_append, hp, hd, hnew]; omega)] at h8
    rw [show i + (k + 1) = n + 1 by omega]
    exact ⟨b2, _, rfl, h8⟩
  refine xG (.bool false) rfl rfl (ex_gtr (k := .i64) (m := ((n + 1 : Nat) : Int)) (n := (c : Int)) rfl rfl rfl (decide_eq_false hb17)) ?_
  obtain ⟨L, hL1, hL2, hL3, hL4, hv⟩ := hv.rowCell
  obtain ⟨t1, t2, hLe, ht1⟩ : ∃ t1 t2 : List Value, L = p ++ (d ++ (t1 ++ t2)) ∧ t1.length = 1 := ⟨(L.drop (n * 1)).take 1, (L.drop (n * 1)).drop 1, by rw [List.take_append_drop, ← List.append_assoc, ← hL2, List.take_append_drop], by rw [List.length_take, List.length_drop, hL1]; omega⟩
  subst hLe
  refine wL ?_
  simp only [zP, zI, zS, zO]
  refine tN (hK16 _ _ ?_)
  clear hK16 K16
  refine wpIn_cond_false rfl ?_
  refine wpIn_skip ?_
  refine tN (hK15 _ _ ?_)
  clear hK15 K15
  refine sK fun K26 hK26 => rL ?_
  refine xM (.slice (some ⟨b, 0, none⟩) n c) rfl rfl rfl ?_
  refine xM (.int .i64 (n : Int)) rfl rfl rfl ?_
  refine xM (.int .i64 1) rfl rfl rfl ?_
  simp only [zP, zI, zS, zO]
  refine xG (.int .i64 ((n + 1 : Nat) : Int)) rfl rfl (ex_add (m := (n : Int)) (n := 1) rfl rfl rfl (by rw [i64_in (by omega)]; omega)) ?_
  refine xG (.slice (some ⟨b, 0, none⟩) (n + 1 : Nat) c) rfl rfl (ex_slice (hi' := some (.int .i64 ((n + 1 : Nat) : Int))) rfl rfl rfl (congrArg some rfl) rfl (run_hi Try.underlying79 s3es79 (by omega))) ?_
  refine xA (.slice (some ⟨b, 0, none⟩) (n + 1 : Nat) c) rfl rfl rfl ?_
  refine wL ?_
  simp only [zP, zI, zS, zO]
  refine tN (hK26 _ _ ?_)
  clear hK26 K26
  refine sK fun K27 hK27 => ?_
  refine sK fun K28 hK28 => rL ?_
  refine xM (.slice (some ⟨q, 0, none⟩) 1 1) rfl rfl rfl ?_
  refine xM (.slice (some ⟨b, 0, none⟩) (n + 1 : Nat) c) rfl rfl rfl ?_
  refine xM (.int .i64 (i : Int)) rfl rfl rfl ?_
  simp only [zP, zI, zS, zO]
  refine xM (.int .i64 1) rfl rfl rfl ?_
  refine xG (.int .i64 ((i + 1 : Nat) : Int)) rfl rfl (ex_add (m := (i : Int)) (n := 1) rfl rfl rfl (by rw [i64_in (by omega)]; omega)) ?_
  refine xG (.slice (some ⟨b, 0 + (i + 1 : Nat), none⟩) ((n + 1 : Nat) - (i + 1 : Nat)) (c - (i + 1 : Nat))) rfl rfl (ex_slice (lo' := some (.int .i64 ((i + 1 : Nat) : Int))) rfl rfl (congrArg some rfl) rfl rfl (run_from1 Try.underlying79 s3es79 (by omega) (by omega))) ?_
  simp only [zP, zI, zS, zO]
  have hov : (callFunc 70 #[.slice (some ⟨q, 0, none⟩) 1 1, .slice (some ⟨b, 0 + (i + 1 : Nat), none⟩) ((n + 1 : Nat) - (i + 1 : Nat)) (c - (i + 1 : Nat))]).run Try.prog w = .ok (.value (.bool false)) w := by
    rw [run_callFunc_extern Try.func70 (by kernel_rfl) (by kernel_rfl) (by kernel_rfl) (e := Extern.SlicesOverlaps.overlaps #[79, 79] #[4]) (by kernel_rfl), overlaps_cells (tR := 4) (size := 1) Try.underlying79 (Go.Pm.run_sizeOf s3sz93) (hv.get 1 rfl) (hv.get 0 rfl) hv.ne2.symm (by intro h9; have := congrArg List.length h9; simp [ht1] at this)]
    rfl
  refine xG (.bool false) rfl rfl (ex_extern (args := #[.slice (some ⟨q, 0, none⟩) 1 1, .slice (some ⟨b, 0 + (i + 1 : Nat), none⟩) ((n + 1 : Nat) - (i + 1 : Nat)) (c - (i + 1 : Nat))]) rfl (by simp only [yA, yB, yC]; rfl) hov) ?_
  refine xG (.bool true) rfl rfl (ex_not (b := false) rfl rfl rfl) ?_
  refine wL ?_
  simp only [zP, zI, zS, zO]
  refine tN (hK28 _ _ ?_)
  clear hK28 K28
  refine wpIn_cond_true rfl ?_
  refine sK fun K29 hK29 => ?_
  refine region_st mixed [.slice (some ⟨b, 0, none⟩) (n + 1 : Nat) c, .int .i64 (i : Int), .int .i64 1, .int .i64 ((i + 1 : Nat) : Int), .slice (some ⟨b, 0 + (i + 1 : Nat), none⟩) ((n + 1 : Nat) - (i + 1 : Nat)) (c - (i + 1 : Nat)), .slice (some ⟨b, 0, none⟩) (n + 1 : Nat) c, .int .i64 (i : Int), .slice (some ⟨b, 0 + i, none⟩) ((n + 1 : Nat) - i) (c - i), undef] [8] [⟨fun vals w => vals = [] ∧ Inv B (Res.cell b (p ++ (d ++ (t1 ++ t2))) 93 :: Res.cell q new 93 :: H) w, fun _ _ _ ⟨h, hi⟩ he => ⟨h, hi.ext he⟩⟩, ⟨fun vals w => vals = [.int .i64 (k : Int)] ∧ Inv B (Res.cell b ((p ++ (d ++ t1).take 1) ++ d ++ t2) 93 :: Res.cell q new 93 :: H) w, fun _ _ _ ⟨h, hi⟩ he => ⟨h, hi.ext he⟩⟩] 95 rfl (by kernel_rfl) ⟨rfl, hv⟩ ⟨?_, ?_, ?_, ?_, ?_, ?_, ?_, ?_, ?_, trivial⟩ ?_
  · intro aa ww vals hJ hR
    exact xD rfl (ex_move rfl (show aa.eval (.tmp 0) = _ from hR.keep 0 rfl)) rfl rfl
  · intro aa ww vals hJ hR
    exact xD rfl (ex_move rfl (show aa.eval (.tmp 1) = _ from hR.keep 1 rfl)) rfl rfl
  · intro aa ww vals hJ hR
    exact xD rfl (ex_move rfl (show aa.eval (.tmp 7) = _ from hR.keep 7 rfl)) rfl rfl
  · intro aa ww vals hJ hR
    exact xD rfl (ex_add (m := (i : Int)) (n := 1) rfl (hR.w 1 70 rfl rfl rfl rfl) (hR.w 2 71 rfl rfl rfl rfl) (by rw [i64_in (by omega)]; omega)) rfl rfl
  · intro aa ww vals hJ hR
    exact xD rfl (ex_slice (lo' := some (.int .i64 ((i + 1 : Nat) : Int))) rfl (hR.w 0 69 rfl rfl rfl rfl) (congrArg some (hR.w 3 72 rfl rfl rfl rfl)) rfl rfl (run_from1 Try.underlying79 s3es79 (by omega) (by omega))) rfl rfl
  · intro aa ww vals hJ hR
    exact xD rfl (ex_move rfl (show aa.eval (.tmp 0) = _ from hR.keep 0 rfl)) rfl rfl
  · intro aa ww vals hJ hR
    exact xD rfl (ex_move rfl (show aa.eval (.tmp 1) = _ from hR.keep 1 rfl)) rfl rfl
  · intro aa ww vals hJ hR
    exact xD rfl (ex_slice (lo' := some (.int .i64 (i : Int))) rfl (hR.w 5 74 rfl rfl rfl rfl) (congrArg some (hR.w 6 75 rfl rfl rfl rfl)) rfl rfl (run_from1 Try.underlying79 s3es79 (by omega) (by omega))) rfl rfl
  · intro aa ww vals hJ hR
    refine mem_step' rfl fun hvl => ?_
    have hl : vals.length = 0 := hvl
    obtain ⟨hvals, hv⟩ := hJ.at0 hl
    refine mem_copyAt 0 (size := 1) (k := k) (pre := p ++ (d ++ t1).take 1) (mid := (d ++ t1).drop 1) (post := t2) (cs := d) (wn rfl) rfl (hR.w 4 73 rfl rfl rfl rfl) (hR.w 7 76 rfl rfl rfl rfl) Try.underlying79 s3sz93 hv rfl (by rw [List.append_assoc p, List.take_append_drop]; simp only [List.append_assoc]) (by rw [List.length_append, List.length_take, List.length_append, hp, hd, ht1]; omega) (by rw [List.length_drop, List.length_append, hd, ht1]; omega) (by show k = min _ _; omega) (hd) (src_mid (pre := p) (mid := d) (post := t1 ++ t2) (by have h9 := hv.get 0 rfl; simpa only [List.append_assoc] using h9) (by rw [hp]; omega)) h1d (fun w30 hv => ?_)
    exact JS.next hl ⟨by rw [hvals]; rfl, hv⟩
  rintro w31 vals ⟨rfl, hv⟩
  rw [show mixV [8] [.int .i64 (k : Int)] 0 [.slice (some ⟨b, 0, none⟩) (n + 1 : Nat) c, .int .i64 (i : Int), .int .i64 1, .int .i64 ((i + 1 : Nat) : Int), .slice (some ⟨b, 0 + (i + 1 : Nat), none⟩) ((n + 1 : Nat) - (i + 1 : Nat)) (c - (i + 1 : Nat)), .slice (some ⟨b, 0, none⟩) (n + 1 : Nat) c, .int .i64 (i : Int), .slice (some ⟨b, 0 + i, none⟩) ((n + 1 : Nat) - i) (c - i), undef] = [.slice (some ⟨b, 0, none⟩) (n + 1 : Nat) c, .int .i64 (i : Int), .int .i64 1, .int .i64 ((i + 1 : Nat) : Int), .slice (some ⟨b, 0 + (i + 1 : Nat), none⟩) ((n + 1 : Nat) - (i + 1 : Nat)) (c - (i + 1 : Nat)), .slice (some ⟨b, 0, none⟩) (n + 1 : Nat) c, .int .i64 (i : Int), .slice (some ⟨b, 0 + i, none⟩) ((n + 1 : Nat) - i) (c - i), .int .i64 (k : Int)] from rfl]
  simp only [putAll, zP, zI, zS, zO]
  refine tN (hK29 _ _ ?_)
  clear hK29 K29
  refine sK fun K32 hK32 => rL ?_
  refine xM (.slice (some ⟨b, 0, none⟩) (n + 1 : Nat) c) rfl rfl rfl ?_
  refine xM (.int .i64 (i : Int)) rfl rfl rfl ?_
  refine xG (.slice (some ⟨b, 0 + i, none⟩) ((n + 1 : Nat) - i) (c - i)) rfl rfl (ex_slice (lo' := some (.int .i64 (i : Int))) rfl rfl (congrArg some rfl) rfl rfl (run_from1 Try.underlying79 s3es79 (by omega) (by omega))) ?_
  simp only [zP, zI, zS, zO]
  refine xM (.slice (some ⟨q, 0, none⟩) 1 1) rfl rfl rfl ?_
  refine sl_copyAt 0 (size := 1) (k := 1) (pre := p) (mid := (d ++ t1).take 1) (post := d ++ t2) (cs := new) tV (wn rfl) rfl rfl rfl Try.underlying79 s3sz93 hv rfl (by simp only [List.append_assoc]) (by rw [hp]; omega) (by rw [List.length_take, List.length_append, hd, ht1, hnew]; omega) (by show 1 = min 1 _; omega) (by rw [hnew]) (rd_all (hv.get 1 rfl)) h1n (fun w33 hv => ?_)
  simp only [List.set_cons_zero] at hv
  refine wL ?_
  simp only [zP, zI, zS, zO]
  refine tN (hK32 _ _ ?_)
  clear hK32 K32
  refine sK fun K34 hK34 => rL ?_
  refine xM (.slice (some ⟨b, 0, none⟩) (n + 1 : Nat) c) rfl rfl rfl ?_
  refine xA (.slice (some ⟨b, 0, none⟩) (n + 1 : Nat) c) rfl rfl rfl ?_
  refine wL ?_
  simp only [zP, zI, zS, zO]
  refine tN (hK34 _ _ ?_)
  clear hK34 K34
  refine wpIn_ret ?_
  refine then_ret ?_
  clear hK27 K27
  refine bR rfl rfl ?_
  have h9 := (hv.sub (List.Sublist.cons_cons _ (List.Sublist.cons _ (List.Sublist.refl _))))
  rw [show p ++ new ++ (d ++ t2) = (p ++ new ++ d) ++ t2 by simp only [List.append_assoc]] at h9
  have h8 := h9.cellRow (n := n + 1) (c := c) (size := 1) (by simp only [List.length_append, hp, hd, hnew] at hL1 ⊢; omega) (by omega) hL4
  rw [List.take_left' (by rw [List.length_append, List.length_append, hp, hd, hnew]; omega)] at h8
  exact ⟨b, _, rfl, h8⟩
end Go.Proofs.Ytffmbdagjpdieaa
/- index.insert. -/
namespace Go.Proofs.Ytffmbdagjpdieaa
open Go.RowKit Go.Pm
theorem s5mk92 : (Try.prog.info? 92).map (fun i => (i.zero, i.size, i.bytes)) = some (some (.agg #[.string ⟨([] : List UInt8).toArray⟩, .slice none 0 0]), 2, 40) := by kernel_rfl
theorem s5el93 : Elem Try.prog 93 92 (.agg #[.string ⟨([] : List UInt8).toArray⟩, .slice none 0 0]) 2 40 := elem_of Try.underlying93 s5mk92 (by rfl) (by decide)
set_option maxHeartbeats 2000000 in
theorem cloneEnt (B : Base) (H : List Res) (w : World) (a : Addr) (n c : Nat) (xs : List Value) (R : List Res) (hRH : ∀ r ∈ R, r ∈ H) (hok : SliceOk (some a) n c) (hl : xs.length = n * 2) (h1 : ∀ u ∈ xs, u.oneCell' = true) (hn1 : 1 ≤ n) (hn : n ≤ 10000000) (hr : RdW B R (some a) xs) (hv : Inv B H w) :
    Calls Try.prog 59 #[.slice (some a) n c] w fun e w' => ∃ b' c', e = .returned (.slice (some ⟨b', 0, none⟩) n c') ∧ Inv B (Res.row 92 2 (.slice (some ⟨b', 0, none⟩) n c') n xs :: H) w' := by
  refine (callsIn_wide (n := 5)).1 ?_
  refine callsIn_of_wp Try.func59 rfl trivial ?_
  simp only [Try.ntmps59, List.size_toArray, List.length_cons, List.length_nil, Nat.reduceAdd, Nat.reduceSub, Array.replicate_succ, Array.replicate_zero, List.push_toArray, List.append_toArray, List.nil_append, List.cons_append]
  refine sK fun K1 hK1 => rL ?_
  refine xA (.slice none 0 0) rfl rfl rfl ?_
  refine wL ?_
  simp only [zP, zI, zS, zO]
  refine tN (hK1 _ _ ?_)
  clear hK1 K1
  refine sK fun K2 hK2 => ?_
  refine sK fun K3 hK3 => rL ?_
  refine xM (.slice (some a) n c) rfl rfl rfl ?_
  refine xG (.bool false) rfl rfl (ex_slnil Try.underlying93 rfl rfl rfl rfl) ?_
  refine wL ?_
  simp only [zP, zI, zS, zO]
  refine tN (hK3 _ _ ?_)
  clear hK3 K3
  refine wpIn_cond_false rfl ?_
  refine wpIn_skip ?_
  refine tN (hK2 _ _ ?_)
  clear hK2 K2
  refine sK fun K4 hK4 => rL ?_
  refine sl_row0 (size := 2) tV (wn rfl) rfl hv (e := 92) (fun w => by kernel_rfl) (fun b5 w6 hv => ?_)
  refine xM (.slice (some a) n c) rfl rfl rfl ?_
  refine sl_append (news := xs) tV (wn rfl) rfl rfl rfl s5el93 hv hok hl (hr.src (fun r9 hr9 => List.mem_cons_of_mem _ (hRH r9 hr9)) hv) (h1) (by unfold maxLen; omega) (by omega) (fun rv7 w10 hv => ?_)
  obtain ⟨ra8, rc9, rfl⟩ := row_slice hv.head
  simp only [zP, zI, zS, zO]
  refine xA (.slice ra8 (0 + n) rc9) rfl rfl rfl ?_
  refine wL ?_
  simp only [zP, zI, zS, zO]
  refine tN (hK4 _ _ ?_)
  clear hK4 K4
  refine wpIn_ret ?_
  refine bR rfl rfl ?_
  obtain ⟨b3, hb3⟩ := row_some hv.head (by omega)
  subst hb3
  have h9 := hv
  simp only [Nat.zero_add, List.nil_append] at h9 ⊢
  exact ⟨b3, _, rfl, h9⟩
theorem quo2 (m h : Nat) (e : h = m / 2) (hm : m ≤ 1000000000) : IntKind.i64.wrap ((m : Int).tdiv 2) = (h : Int) := by
  rw [Int.tdiv_eq_ediv_of_nonneg (by omega), i64_in (by omega)]; omega
theorem s5sz3 : (Try.prog.info? 3).map (·.size) = some 1 := by kernel_rfl
theorem s5wd92 : Wide Try.prog 92 2 := wide_of (fun w => by kernel_rfl) (by kernel_rfl)
theorem s5callable57 : Callable Try.prog 57 := ⟨_, Try.func57, by kernel_rfl, by kernel_rfl⟩
theorem s5callable59 : Callable Try.prog 59 := ⟨_, Try.func59, by kernel_rfl, by kernel_rfl⟩
theorem s5mk93 : (Try.prog.info? 93).map (fun i => (i.zero, i.size, i.bytes)) = some (some (.slice none 0 0), 1, 24) := by kernel_rfl
theorem s5el79 : Elem Try.prog 79 93 (.slice none 0 0) 1 24 := elem_of Try.underlying79 s5mk93 (by rfl) (by decide)
theorem s5callable58 : Callable Try.prog 58 := ⟨_, Try.func58, by kernel_rfl, by kernel_rfl⟩
theorem s5sz79 : (Try.prog.info? 79).map (·.size) = some 1 := by kernel_rfl
set_option maxHeartbeats 4000000 in
theorem ixInsert1 (B : Base) (H : List Res) (w : World) (p0 a N ca b m c i j k i0 j0 : Nat) (n : Int) (bvs p d : List Value) (key : List UInt8) (cv : Value) (hN : N ≤ 1000000) (hi : i < N) (hm1 : 1 ≤ m) (hmk : m = j + k) (hm : m ≤ 1000000) (hn : 0 ≤ n ∧ n ≤ 1000000) (hcase : (i0 = i ∧ j0 = j) ∨ (i0 = N ∧ i + 1 = N ∧ k = 0)) (hp : p.length = j * 2) (hd : d.length = k * 2) (h1p : ∀ u ∈ p, u.oneCell' = true) (h1d : ∀ u ∈ d, u.oneCell' = true) (h1b : ∀ u ∈ bvs, u.oneCell' = true) (hbl : bvs.length = N) (hbi : bvs[i]? = some (.slice (some ⟨b, 0, none⟩) m c)) (hc1 : cv.cells = #[cv] ∧ cv.oneCell' = true) (hv : Inv B (Res.row 92 2 (.slice (some ⟨b, 0, none⟩) m c) m (p ++ d) :: Res.cell p0 [.slice (some ⟨a, 0, none⟩) N ca, .int .i64 n] 81 :: Res.row 93 1 (.slice (some ⟨a, 0, none⟩) N ca) N bvs :: H) w) :
    Calls Try.prog 44 #[.pointer (some ⟨p0, 0, none⟩), .int .i64 (i0 : Int), .int .i64 (j0 : Int), .agg #[.string ⟨key.toArray⟩, cv]] w fun e w' => e = .returned (.tuple #[]) ∧ ((m + 1 ≤ 128 ∧ ∃ b' c', Inv B (Res.row 92 2 (.slice (some ⟨b', 0, none⟩) (m + 1) c') (m + 1) (p ++ [.string ⟨key.toArray⟩, cv] ++ d) :: Res.cell p0 [.slice (some ⟨a, 0, none⟩) N ca, .int .i64 (n + 1)] 81 :: Res.row 93 1 (.slice (some ⟨a, 0, none⟩) N ca) N (bvs.set i (.slice (some ⟨b', 0, none⟩) (m + 1) c')) :: H) w') ∨ (128 < m + 1 ∧ ∃ b1 c1 b2 c2 a' ca', Inv B (Res.row 92 2 (.slice (some ⟨b1, 0, none⟩) ((m + 1) / 2) c1) ((m + 1) / 2) ((p ++ [.string ⟨key.toArray⟩, cv] ++ d).take (((m + 1) / 2) * 2)) :: Res.row 92 2 (.slice (some ⟨b2, 0, none⟩) (m + 1 - ((m + 1) / 2)) c2) (m + 1 - ((m + 1) / 2)) ((p ++ [.string ⟨key.toArray⟩, cv] ++ d).drop (((m + 1) / 2) * 2)) :: Res.cell p0 [.slice (some ⟨a', 0, none⟩) (N + 1) ca', .int .i64 (n + 1)] 81 :: Res.row 93 1 (.slice (some ⟨a', 0, none⟩) (N + 1) ca') (N + 1) ((bvs.take (i + 1) ++ [Value.slice (some ⟨b2, 0, none⟩) (m + 1 - ((m + 1) / 2)) c2] ++ bvs.drop (i + 1)).set i (.slice (some ⟨b1, 0, none⟩) ((m + 1) / 2) c1)) :: H) w')) := by
  refine (callsIn_wide (n := 5)).1 ?_
  refine callsIn_of_wp Try.func44 rfl trivial ?_
  simp only [Try.ntmps44, List.size_toArray, List.length_cons, List.length_nil, Nat.reduceAdd, Nat.reduceSub, Array.replicate_succ, Array.replicate_zero, List.push_toArray, List.append_toArray, List.nil_append, List.cons_append]
  refine sK fun K1 hK1 => rL ?_
  refine sl_box (L := [.string ⟨key.toArray⟩, cv]) tV (wn rfl) rfl (p := .agg #[.string ⟨key.toArray⟩, cv]) rfl hv (fun w => by kernel_rfl) (fun b2 w3 hv => ?_)
  refine wL ?_
  simp only [zP, zI, zS, zO]
  refine tN (hK1 _ _ ?_)
  clear hK1 K1
  refine sK fun K4 hK4 => rL ?_
  refine xM (.pointer (some ⟨p0, 0, none⟩)) rfl rfl rfl ?_
  refine xG (.pointer (some ⟨p0, 0, none⟩)) rfl rfl (ex_nil rfl rfl) ?_
  refine xF (.pointer (some ⟨p0, 1, none⟩)) rfl rfl rfl (s3fa81_1 _ _ _) ?_
  simp only [zP, zI, zS, zO]
  refine xL (.int .i64 n) rfl rfl rfl (run_load1 s2na3 (hv.load 2 1 rfl rfl)) ?_
  refine xG (.int .i64 (n + 1)) rfl rfl (ex_add (m := n) (n := 1) rfl rfl rfl (i64_in (by omega))) ?_
  refine xG (.pointer (some ⟨p0, 0, none⟩)) rfl rfl (ex_nil rfl rfl) ?_
  simp only [zP, zI, zS, zO]
  refine xF (.pointer (some ⟨p0, 1, none⟩)) rfl rfl rfl (s3fa81_1 _ _ _) ?_
  refine sl_storeAt 2 (v := .int .i64 (n + 1)) (L' := [.slice (some ⟨a, 0, none⟩) N ca, .int .i64 (n + 1)]) tV (wn rfl) rfl rfl rfl hv rfl s5sz3 (by simp) rfl rfl rfl (fun w5 hv => ?_)
  simp only [List.set_cons_succ, List.set_cons_zero] at hv
  refine wL ?_
  simp only [zP, zN, zI, zS, zO]
  refine tN (hK4 _ _ ?_)
  clear hK4 K4
  refine sK fun K6 hK6 => ?_
  refine sK fun K7 hK7 => rL ?_
  refine xM (.pointer (some ⟨p0, 0, none⟩)) rfl rfl rfl ?_
  refine xG (.pointer (some ⟨p0, 0, none⟩)) rfl rfl (ex_nil rfl rfl) ?_
  refine xF (.pointer (some ⟨p0, 0, none⟩)) rfl rfl rfl (s3fa81_0 _ _ _) ?_
  simp only [zP, zI, zS, zO]
  refine xL (.slice (some ⟨a, 0, none⟩) N ca) rfl rfl rfl (run_load1 s3na79 (hv.load 2 0 rfl rfl)) ?_
  refine xG (.int .i64 (N : Int)) rfl rfl (ex_len0 Try.underlying79 rfl rfl) ?_
  refine xG (.bool false) rfl rfl (ex_eql (k := .i64) (m := (N : Int)) (n := 0) rfl rfl rfl (decide_eq_false (by omega))) ?_
  refine wL ?_
  simp only [zP, zI, zS, zO]
  refine tN (hK7 _ _ ?_)
  clear hK7 K7
  refine wpIn_cond_false rfl ?_
  refine wpIn_skip ?_
  refine tN (hK6 _ _ ?_)
  clear hK6 K6
  refine sK fun K8 hK8 => ?_
  refine sK fun K9 hK9 => rL ?_
  refine xM (.int .i64 (i0 : Int)) rfl rfl rfl ?_
  refine xM (.pointer (some ⟨p0, 0, none⟩)) rfl rfl rfl ?_
  refine xG (.pointer (some ⟨p0, 0, none⟩)) rfl rfl (ex_nil rfl rfl) ?_
  simp only [zP, zI, zS, zO]
  refine xF (.pointer (some ⟨p0, 0, none⟩)) rfl rfl rfl (s3fa81_0 _ _ _) ?_
  refine xL (.slice (some ⟨a, 0, none⟩) N ca) rfl rfl rfl (run_load1 s3na79 (hv.load 2 0 rfl rfl)) ?_
  refine xG (.int .i64 (N : Int)) rfl rfl (ex_len0 Try.underlying79 rfl rfl) ?_
  simp only [zP, zI, zS, zO]
  by_cases hb10 : (i0 : Int) = (N : Int)
  · refine xG (.bool true) rfl rfl (ex_eql (k := .i64) (m := (i0 : Int)) (n := (N : Int)) rfl rfl rfl (decide_eq_true hb10)) ?_
    refine wL ?_
    simp only [zP, zI, zS, zO]
    refine tN (hK9 _ _ ?_)
    clear hK9 K9
    refine wpIn_cond_true rfl ?_
    refine sK fun K11 hK11 => rL ?_
    refine xM (.int .i64 (i0 : Int)) rfl rfl rfl ?_
    refine xG (.int .i64 (i : Int)) rfl rfl (ex_sub (m := (i0 : Int)) (n := 1) rfl rfl rfl (by rw [i64_in (by omega)]; omega)) ?_
    refine xA (.int .i64 (i : Int)) rfl rfl rfl ?_
    refine wL ?_
    simp only [zP, zI, zS, zO]
    refine tN (hK11 _ _ ?_)
    clear hK11 K11
    refine rL ?_
    refine xM (.pointer (some ⟨p0, 0, none⟩)) rfl rfl rfl ?_
    refine xG (.pointer (some ⟨p0, 0, none⟩)) rfl rfl (ex_nil rfl rfl) ?_
    refine xF (.pointer (some ⟨p0, 0, none⟩)) rfl rfl rfl (s3fa81_0 _ _ _) ?_
    simp only [zP, zI, zS, zO]
    refine xL (.slice (some ⟨a, 0, none⟩) N ca) rfl rfl rfl (run_load1 s3na79 (hv.load 2 0 rfl rfl)) ?_
    refine xM (.int .i64 (i : Int)) rfl rfl rfl ?_
    refine xG (.pointer (some ⟨a, 0 + i, none⟩)) rfl rfl (ex_index rfl rfl rfl (run_idx1 (k := i) Try.underlying79 s3es79 (by omega))) ?_
    simp only [zP, zI, zS, zO]
    refine xL (.slice (some ⟨b, 0, none⟩) m c) rfl rfl rfl (run_load1 s3na93 (row_load (hv.get 3 rfl) hbi)) ?_
    refine xG (.int .i64 (m : Int)) rfl rfl (ex_len0 Try.underlying93 rfl rfl) ?_
    refine xA (.int .i64 (m : Int)) rfl rfl rfl ?_
    refine wL ?_
    simp only [zP, zI, zS, zO]
    refine tN (hK8 _ _ ?_)
    clear hK8 K8
    refine sK fun K12 hK12 => ?_
    refine region_st mixed [.pointer (some ⟨p0, 0, none⟩), .pointer (some ⟨p0, 0, none⟩), .pointer (some ⟨p0, 0, none⟩), .slice (some ⟨a, 0, none⟩) N ca, .int .i64 (i : Int), .pointer (some ⟨a, 0 + i, none⟩), .slice (some ⟨b, 0, none⟩) m c, .int .i64 (m : Int), .agg #[.string ⟨key.toArray⟩, cv], undef, undef, undef] [9, 10, 11] [⟨fun vals w => vals = [] ∧ Inv B (Res.cell b2 [.string ⟨key.toArray⟩, cv] 92 :: Res.row 92 2 (.slice (some ⟨b, 0, none⟩) m c) m (p ++ d) :: Res.cell p0 [.slice (some ⟨a, 0, none⟩) N ca, .int .i64 (n + 1)] 81 :: Res.row 93 1 (.slice (some ⟨a, 0, none⟩) N ca) N bvs :: H) w, fun _ _ _ ⟨h, hi⟩ he => ⟨h, hi.ext he⟩⟩, ⟨fun vals w => ∃ b13, vals = [.slice (some ⟨b13, 0, none⟩) 1 1] ∧ Inv B (Res.cell b13 [.string ⟨key.toArray⟩, cv] 92 :: Res.cell b2 [.string ⟨key.toArray⟩, cv] 92 :: Res.row 92 2 (.slice (some ⟨b, 0, none⟩) m c) m (p ++ d) :: Res.cell p0 [.slice (some ⟨a, 0, none⟩) N ca, .int .i64 (n + 1)] 81 :: Res.row 93 1 (.slice (some ⟨a, 0, none⟩) N ca) N bvs :: H) w, fun _ _ _ ⟨b13, h, hi⟩ he => ⟨b13, h, hi.ext he⟩⟩, ⟨fun vals w => ∃ b13 b3 c3, vals = [.slice (some ⟨b13, 0, none⟩) 1 1, .slice (some ⟨b3, 0, none⟩) (m + 1 : Nat) c3] ∧ Inv B (Res.row 92 2 (.slice (some ⟨b3, 0, none⟩) (m + 1) c3) (m + 1) (p ++ [.string ⟨key.toArray⟩, cv] ++ d) :: Res.cell b2 [.string ⟨key.toArray⟩, cv] 92 :: Res.cell p0 [.slice (some ⟨a, 0, none⟩) N ca, .int .i64 (n + 1)] 81 :: Res.row 93 1 (.slice (some ⟨a, 0, none⟩) N ca) N bvs :: H) w, fun _ _ _ ⟨b13, b3, c3, h, hi⟩ he => ⟨b13, b3, c3, h, hi.ext he⟩⟩, ⟨fun vals w => ∃ b13 b3 c3, vals = [.slice (some ⟨b13, 0, none⟩) 1 1, .slice (some ⟨b3, 0, none⟩) (m + 1 : Nat) c3, .slice (some ⟨b3, 0, none⟩) (m + 1 : Nat) c3] ∧ Inv B (Res.row 92 2 (.slice (some ⟨b3, 0, none⟩) (m + 1) c3) (m + 1) (p ++ [.string ⟨key.toArray⟩, cv] ++ d) :: Res.cell b2 [.string ⟨key.toArray⟩, cv] 92 :: Res.cell p0 [.slice (some ⟨a, 0, none⟩) N ca, .int .i64 (n + 1)] 81 :: Res.row 93 1 (.slice (some ⟨a, 0, none⟩) N ca) N bvs :: H) w, fun _ _ _ ⟨b13, b3, c3, h, hi⟩ he => ⟨b13, b3, c3, h, hi.ext he⟩⟩] 91 rfl (by kernel_rfl) ⟨rfl, hv⟩ ⟨?_, ?_, ?_, ?_, ?_, ?_, ?_, ?_, ?_, ?_, ?_, ?_, trivial⟩ ?_
    · intro aa ww vals hJ hR
      exact xD rfl (ex_move rfl (show aa.eval (.tmp 0) = _ from hR.keep 0 rfl)) rfl rfl
    · intro aa ww vals hJ hR
      exact xD rfl (ex_nil rfl (hR.w 0 46 rfl rfl rfl rfl)) rfl rfl
    · intro aa ww vals hJ hR
      exact xD rfl (ex_field rfl (hR.w 1 47 rfl rfl rfl rfl) (s3fa81_0 _ _ _)) rfl rfl
    · intro aa ww vals hJ hR
      have h2 : vals.length ≤ 1 := hR.hi 10 (by simp) rfl
      rcases (show vals.length = 0 ∨ vals.length = 1 by omega) with hl | hl
      · obtain ⟨hvals, hv⟩ := hJ.at0 hl
        exact xD rfl (ex_load rfl (hR.w 2 48 rfl rfl rfl rfl) (run_load1 s3na79 (hv.load 2 0 rfl rfl))) rfl rfl
      obtain ⟨b13, hvals, hv⟩ := hJ.at0 hl
      exact xD rfl (ex_load rfl (hR.w 2 48 rfl rfl rfl rfl) (run_load1 s3na79 (hv.load 3 0 rfl rfl))) rfl rfl
    · intro aa ww vals hJ hR
      exact xD rfl (ex_move rfl (show aa.eval (.tmp 1) = _ from hR.keep 1 rfl)) rfl rfl
    · intro aa ww vals hJ hR
      exact xD rfl (ex_index rfl (hR.w 3 49 rfl rfl rfl rfl) (hR.w 4 50 rfl rfl rfl rfl) (run_idx1 (k := i) Try.underlying79 s3es79 (by omega))) rfl rfl
    · intro aa ww vals hJ hR
      have h2 : vals.length ≤ 1 := hR.hi 10 (by simp) rfl
      rcases (show vals.length = 0 ∨ vals.length = 1 by omega) with hl | hl
      · obtain ⟨hvals, hv⟩ := hJ.at0 hl
        exact xD rfl (ex_load rfl (hR.w 5 51 rfl rfl rfl rfl) (run_load1 s3na93 (row_load (hv.get 3 rfl) hbi))) rfl rfl
      obtain ⟨b13, hvals, hv⟩ := hJ.at0 hl
      exact xD rfl (ex_load rfl (hR.w 5 51 rfl rfl rfl rfl) (run_load1 s3na93 (row_load (hv.get 4 rfl) hbi))) rfl rfl
    · intro aa ww vals hJ hR
      exact xD rfl (ex_move rfl (show aa.eval (.tmp 2) = _ from hR.keep 2 rfl)) rfl rfl
    · intro aa ww vals hJ hR
      have h2 : vals.length ≤ 0 := hR.hi 9 (by simp) rfl
      have hl : vals.length = 0 := by omega
      obtain ⟨hvals, hv⟩ := hJ.at0 hl
      exact xD rfl (ex_load rfl (show aa.eval (.tmp 7) = _ from hR.keep 7 rfl) (run_load_mid (pre := []) (mid := [.string ⟨key.toArray⟩, cv]) (post := []) s5wd92 (show Blk _ b2 ([] ++ [.string ⟨key.toArray⟩, cv] ++ []) _ from hv.get 0 rfl) rfl)) rfl rfl
    · intro aa ww vals hJ hR
      refine mem_step' rfl fun hvl => ?_
      have hl : vals.length = 0 := hvl
      obtain ⟨hvals, hv⟩ := hJ.at0 hl
      refine mem_rowAgg (L := [.string ⟨key.toArray⟩, cv]) (wn rfl) rfl (hR.w 8 54 rfl rfl rfl rfl) hv s5el93 rfl (by decide) (fun b13 w14 hv => ?_)
      exact JS.next hl ⟨b13, by rw [hvals]; rfl, hv⟩
    · intro aa ww vals hJ hR
      refine mem_step' rfl fun hvl => ?_
      have hl : vals.length = 1 := hvl
      obtain ⟨b13, hvals, hv⟩ := hJ.at0 hl
      refine stepMem_calls s5callable57 (wn rfl) rfl (args := #[.slice (some ⟨b, 0, none⟩) m c, .int .i64 (m : Int), .slice (some ⟨b13, 0, none⟩) 1 1]) (by simp only [yA, yB, yC]; rw [show aa.eval (.tmp 52) = .slice (some ⟨b, 0, none⟩) m c from hR.v 6 52 rfl rfl rfl rfl, show aa.eval (.tmp 53) = .int .i64 (m : Int) from hR.v 7 53 rfl rfl rfl rfl, show aa.eval (.tmp 55) = .slice (some ⟨b13, 0, none⟩) 1 1 from (hR.val 9 55 rfl rfl rfl).trans (by rw [hvals] <;> rfl)] <;> rfl) ((insEnt B _ _ b c m m 0 b13 p d [.string ⟨key.toArray⟩, cv] (by omega) (by omega) hm (by rw [hp]; omega) (by rw [hd]; omega) rfl h1p h1d (one_cons rfl (one_cons hc1.2 one_nil)) (hv.front 2 rfl)).mono ?_)
      rintro e w15 ⟨b3, c3, rfl, hv⟩
      refine ⟨_, rfl, JS.next hl ⟨b13, b3, c3, by rw [hvals]; rfl, hv⟩⟩
    · intro aa ww vals hJ hR
      refine mem_step' rfl fun hvl => ?_
      have hl : vals.length = 2 := hvl
      obtain ⟨b13, b3, c3, hvals, hv⟩ := hJ.at0 hl
      refine Ex.mem (ex_assign rfl (show aa.eval (.tmp 56) = _ from (hR.val 10 56 rfl rfl rfl).trans (by rw [hvals] <;> rfl))) (wn rfl) ?_
      exact JS.next hl ⟨b13, b3, c3, by rw [hvals]; rfl, hv⟩
    rintro w16 vals ⟨b13, b3, c3, rfl, hv⟩
    rw [show mixV [9, 10, 11] [.slice (some ⟨b13, 0, none⟩) 1 1, .slice (some ⟨b3, 0, none⟩) (m + 1 : Nat) c3, .slice (some ⟨b3, 0, none⟩) (m + 1 : Nat) c3] 0 [.pointer (some ⟨p0, 0, none⟩), .pointer (some ⟨p0, 0, none⟩), .pointer (some ⟨p0, 0, none⟩), .slice (some ⟨a, 0, none⟩) N ca, .int .i64 (i : Int), .pointer (some ⟨a, 0 + i, none⟩), .slice (some ⟨b, 0, none⟩) m c, .int .i64 (m : Int), .agg #[.string ⟨key.toArray⟩, cv], undef, undef, undef] = [.pointer (some ⟨p0, 0, none⟩), .pointer (some ⟨p0, 0, none⟩), .pointer (some ⟨p0, 0, none⟩), .slice (some ⟨a, 0, none⟩) N ca, .int .i64 (i : Int), .pointer (some ⟨a, 0 + i, none⟩), .slice (some ⟨b, 0, none⟩) m c, .int .i64 (m : Int), .agg #[.string ⟨key.toArray⟩, cv], .slice (some ⟨b13, 0, none⟩) 1 1, .slice (some ⟨b3, 0, none⟩) (m + 1 : Nat) c3, .slice (some ⟨b3, 0, none⟩) (m + 1 : Nat) c3] from rfl]
    simp only [putAll, zP, zI, zS, zO]
    refine tN (hK12 _ _ ?_)
    clear hK12 K12
    refine sK fun K17 hK17 => ?_
    refine sK fun K18 hK18 => rL ?_
    refine xM (.slice (some ⟨b3, 0, none⟩) (m + 1 : Nat) c3) rfl rfl rfl ?_
    refine xG (.int .i64 ((m + 1 : Nat) : Int)) rfl rfl (ex_len0 Try.underlying93 rfl rfl) ?_
    by_cases hb19 : ((m + 1 : Nat) : Int) > 128
    · refine xG (.bool true) rfl rfl (ex_gtr (k := .i64) (m := ((m + 1 : Nat) : Int)) (n := 128) rfl rfl rfl (decide_eq_true hb19)) ?_
      refine wL ?_
      simp only [zP, zI, zS, zO]
      refine tN (hK18 _ _ ?_)
      clear hK18 K18
      refine wpIn_cond_true rfl ?_
      refine sK fun K20 hK20 => ?_
      obtain ⟨hf, hhf⟩ : ∃ hf : Nat, hf = (m + 1) / 2 := ⟨_, rfl⟩
      refine rL ?_
      refine xM (.slice (some ⟨b3, 0, none⟩) (m + 1 : Nat) c3) rfl rfl rfl ?_
      refine xG (.int .i64 ((m + 1 : Nat) : Int)) rfl rfl (ex_len0 Try.underlying93 rfl rfl) ?_
      refine xG (.int .i64 (hf : Int)) rfl rfl (ex_quo (m := ((m + 1 : Nat) : Int)) (n := 2) rfl rfl rfl (by decide) (quo2 (m + 1) hf hhf (by omega))) ?_
      simp only [zP, zI, zS, zO]
      refine xA (.int .i64 (hf : Int)) rfl rfl rfl ?_
      refine wL ?_
      simp only [zP, zI, zS, zO]
      refine tN (hK20 _ _ ?_)
      clear hK20 K20
      refine sK fun K21 hK21 => ?_
      have hc3 := (hv.rowOk).1
      have hc3l := hc3.le
      have hc3m := hc3.max
      have hesl : (p ++ [.string ⟨key.toArray⟩, cv] ++ d).length = (m + 1) * 2 := by simp only [List.length_append, hp, hd, List.length_cons, List.length_nil]; omega
      have hes1 : ∀ u ∈ (p ++ [.string ⟨key.toArray⟩, cv] ++ d), u.oneCell' = true := fun u hu => by
        rcases List.mem_append.1 hu with hu | hu
        · rcases List.mem_append.1 hu with hu | hu
          · exact h1p u hu
          exact one_cons rfl (one_cons hc1.2 one_nil) u hu
        exact h1d u hu
      rw [← List.take_append_drop (i + 1) bvs] at hv
      refine region_st mixed [.pointer (some ⟨p0, 0, none⟩), .pointer (some ⟨p0, 0, none⟩), .pointer (some ⟨p0, 0, none⟩), .pointer (some ⟨p0, 0, none⟩), .slice (some ⟨a, 0, none⟩) N ca, .int .i64 (i : Int), .int .i64 ((i + 1 : Nat) : Int), .slice (some ⟨b3, 0, none⟩) (m + 1 : Nat) c3, .int .i64 (hf : Int), .slice (some ⟨b3, 0 + hf * 2, none⟩) ((m + 1 : Nat) - hf) (c3 - hf), undef, undef, undef, .pointer (some ⟨p0, 0, none⟩), .pointer (some ⟨p0, 0, none⟩), undef] [10, 11, 12, 15] [⟨fun vals w => vals = [] ∧ Inv B (Res.row 92 2 (.slice (some ⟨b3, 0, none⟩) (m + 1) c3) (m + 1) (p ++ [.string ⟨key.toArray⟩, cv] ++ d) :: Res.cell b2 [.string ⟨key.toArray⟩, cv] 92 :: Res.cell p0 [.slice (some ⟨a, 0, none⟩) N ca, .int .i64 (n + 1)] 81 :: Res.row 93 1 (.slice (some ⟨a, 0, none⟩) N ca) N (List.take (i + 1) bvs ++ List.drop (i + 1) bvs) :: H) w, fun _ _ _ ⟨h, hi⟩ he => ⟨h, hi.ext he⟩⟩, ⟨fun vals w => ∃ b4 c4, vals = [.slice (some ⟨b4, 0, none⟩) (m + 1 - hf) c4] ∧ Inv B (Res.row 92 2 (.slice (some ⟨b4, 0, none⟩) (m + 1 - hf) c4) (m + 1 - hf) ((p ++ [.string ⟨key.toArray⟩, cv] ++ d).drop (hf * 2)) :: Res.row 92 2 (.slice (some ⟨b3, 0, none⟩) (m + 1) c3) (m + 1) (p ++ [.string ⟨key.toArray⟩, cv] ++ d) :: Res.cell b2 [.string ⟨key.toArray⟩, cv] 92 :: Res.cell p0 [.slice (some ⟨a, 0, none⟩) N ca, .int .i64 (n + 1)] 81 :: Res.row 93 1 (.slice (some ⟨a, 0, none⟩) N ca) N (List.take (i + 1) bvs ++ List.drop (i + 1) bvs) :: H) w, fun _ _ _ ⟨b4, c4, h, hi⟩ he => ⟨b4, c4, h, hi.ext he⟩⟩, ⟨fun vals w => ∃ b4 c4 b23, vals = [.slice (some ⟨b4, 0, none⟩) (m + 1 - hf) c4, .slice (some ⟨b23, 0, none⟩) 1 1] ∧ Inv B (Res.cell b23 [.slice (some ⟨b4, 0, none⟩) (m + 1 - hf) c4] 93 :: Res.row 92 2 (.slice (some ⟨b4, 0, none⟩) (m + 1 - hf) c4) (m + 1 - hf) ((p ++ [.string ⟨key.toArray⟩, cv] ++ d).drop (hf * 2)) :: Res.row 92 2 (.slice (some ⟨b3, 0, none⟩) (m + 1) c3) (m + 1) (p ++ [.string ⟨key.toArray⟩, cv] ++ d) :: Res.cell b2 [.string ⟨key.toArray⟩, cv] 92 :: Res.cell p0 [.slice (some ⟨a, 0, none⟩) N ca, .int .i64 (n + 1)] 81 :: Res.row 93 1 (.slice (some ⟨a, 0, none⟩) N ca) N (List.take (i + 1) bvs ++ List.drop (i + 1) bvs) :: H) w, fun _ _ _ ⟨b4, c4, b23, h, hi⟩ he => ⟨b4, c4, b23, h, hi.ext he⟩⟩, ⟨fun vals w => ∃ b4 c4 b23 a5 ca5, vals = [.slice (some ⟨b4, 0, none⟩) (m + 1 - hf) c4, .slice (some ⟨b23, 0, none⟩) 1 1, .slice (some ⟨a5, 0, none⟩) (N + 1) ca5] ∧ Inv B (Res.row 93 1 (.slice (some ⟨a5, 0, none⟩) (N + 1) ca5) (N + 1) (List.take (i + 1) bvs ++ [Value.slice (some ⟨b4, 0, none⟩) (m + 1 - hf) c4] ++ List.drop (i + 1) bvs) :: Res.row 92 2 (.slice (some ⟨b4, 0, none⟩) (m + 1 - hf) c4) (m + 1 - hf) ((p ++ [.string ⟨key.toArray⟩, cv] ++ d).drop (hf * 2)) :: Res.row 92 2 (.slice (some ⟨b3, 0, none⟩) (m + 1) c3) (m + 1) (p ++ [.string ⟨key.toArray⟩, cv] ++ d) :: Res.cell b2 [.string ⟨key.toArray⟩, cv] 92 :: Res.cell p0 [.slice (some ⟨a, 0, none⟩) N ca, .int .i64 (n + 1)] 81 :: H) w, fun _ _ _ ⟨b4, c4, b23, a5, ca5, h, hi⟩ he => ⟨b4, c4, b23, a5, ca5, h, hi.ext he⟩⟩, ⟨fun vals w => ∃ b4 c4 b23 a5 ca5, vals = [.slice (some ⟨b4, 0, none⟩) (m + 1 - hf) c4, .slice (some ⟨b23, 0, none⟩) 1 1, .slice (some ⟨a5, 0, none⟩) (N + 1) ca5, undef] ∧ Inv B (Res.row 93 1 (.slice (some ⟨a5, 0, none⟩) (N + 1) ca5) (N + 1) (List.take (i + 1) bvs ++ [Value.slice (some ⟨b4, 0, none⟩) (m + 1 - hf) c4] ++ List.drop (i + 1) bvs) :: Res.row 92 2 (.slice (some ⟨b4, 0, none⟩) (m + 1 - hf) c4) (m + 1 - hf) ((p ++ [.string ⟨key.toArray⟩, cv] ++ d).drop (hf * 2)) :: Res.row 92 2 (.slice (some ⟨b3, 0, none⟩) (m + 1) c3) (m + 1) (p ++ [.string ⟨key.toArray⟩, cv] ++ d) :: Res.cell b2 [.string ⟨key.toArray⟩, cv] 92 :: Res.cell p0 [.slice (some ⟨a5, 0, none⟩) (N + 1) ca5, .int .i64 (n + 1)] 81 :: H) w, fun _ _ _ ⟨b4, c4, b23, a5, ca5, h, hi⟩ he => ⟨b4, c4, b23, a5, ca5, h, hi.ext he⟩⟩] 91 rfl (by kernel_rfl) ⟨rfl, hv⟩ ⟨?_, ?_, ?_, ?_, ?_, ?_, ?_, ?_, ?_, ?_, ?_, ?_, ?_, ?_, ?_, ?_, trivial⟩ ?_
      · intro aa ww vals hJ hR
        exact xD rfl (ex_move rfl (show aa.eval (.tmp 0) = _ from hR.keep 0 rfl)) rfl rfl
      · intro aa ww vals hJ hR
        exact xD rfl (ex_move rfl (show aa.eval (.tmp 0) = _ from hR.keep 0 rfl)) rfl rfl
      · intro aa ww vals hJ hR
        exact xD rfl (ex_nil rfl (hR.w 1 64 rfl rfl rfl rfl)) rfl rfl
      · intro aa ww vals hJ hR
        exact xD rfl (ex_field rfl (hR.w 2 65 rfl rfl rfl rfl) (s3fa81_0 _ _ _)) rfl rfl
      · intro aa ww vals hJ hR
        have h2 : vals.length ≤ 2 := hR.hi 12 (by simp) rfl
        rcases (show vals.length = 0 ∨ vals.length = 1 ∨ vals.length = 2 by omega) with hl | hl | hl
        · obtain ⟨hvals, hv⟩ := hJ.at0 hl
          exact xD rfl (ex_load rfl (hR.w 3 66 rfl rfl rfl rfl) (run_load1 s3na79 (hv.load 2 0 rfl rfl))) rfl rfl
        · obtain ⟨b4, c4, hvals, hv⟩ := hJ.at0 hl
          exact xD rfl (ex_load rfl (hR.w 3 66 rfl rfl rfl rfl) (run_load1 s3na79 (hv.load 3 0 rfl rfl))) rfl rfl
        obtain ⟨b4, c4, b23, hvals, hv⟩ := hJ.at0 hl
        exact xD rfl (ex_load rfl (hR.w 3 66 rfl rfl rfl rfl) (run_load1 s3na79 (hv.load 4 0 rfl rfl))) rfl rfl
      · intro aa ww vals hJ hR
        exact xD rfl (ex_move rfl (show aa.eval (.tmp 1) = _ from hR.keep 1 rfl)) rfl rfl
      · intro aa ww vals hJ hR
        exact xD rfl (ex_add (m := (i : Int)) (n := 1) rfl (hR.w 5 68 rfl rfl rfl rfl) rfl (by rw [i64_in (by omega)]; omega)) rfl rfl
      · intro aa ww vals hJ hR
        exact xD rfl (ex_move rfl (show aa.eval (.tmp 8) = _ from hR.keep 8 rfl)) rfl rfl
      · intro aa ww vals hJ hR
        exact xD rfl (ex_move rfl (show aa.eval (.tmp 9) = _ from hR.keep 9 rfl)) rfl rfl
      · intro aa ww vals hJ hR
        exact xD rfl (ex_slice (lo' := some (.int .i64 (hf : Int))) rfl (hR.w 7 70 rfl rfl rfl rfl) (congrArg some (hR.w 8 71 rfl rfl rfl rfl)) rfl rfl (run_from (size := 2) Try.underlying93 s3es93 (by omega) (by omega))) rfl rfl
      · intro aa ww vals hJ hR
        refine mem_step' rfl fun hvl => ?_
        have hl : vals.length = 0 := hvl
        obtain ⟨hvals, hv⟩ := hJ.at0 hl
        refine stepMem_calls s5callable59 (wn rfl) rfl (args := #[.slice (some ⟨b3, 0 + hf * 2, none⟩) ((m + 1 : Nat) - hf) (c3 - hf)]) (by simp only [yA, yB, yC]; rw [show aa.eval (.tmp 72) = .slice (some ⟨b3, 0 + hf * 2, none⟩) ((m + 1 : Nat) - hf) (c3 - hf) from hR.v 9 72 rfl rfl rfl rfl] <;> rfl) ((cloneEnt B _ _ _ (m + 1 - hf) (c3 - hf) ((p ++ [.string ⟨key.toArray⟩, cv] ++ d).drop (hf * 2)) [_] (fun r hr => by rw [List.mem_singleton.1 hr]; exact List.mem_of_getElem? (i := 0) rfl) ⟨by omega, by unfold maxLen at hc3m ⊢; omega, fun h => by cases h⟩ (by rw [List.length_drop, hesl]; omega) (fun u hu => hes1 u (List.mem_of_mem_drop hu)) (by omega) (by omega) (rdW_row.drop (hf * 2)) hv).mono ?_)
        rintro e w22 ⟨b4, c4, rfl, hv⟩
        refine ⟨_, rfl, JS.next hl ⟨b4, c4, by rw [hvals]; rfl, hv⟩⟩
      · intro aa ww vals hJ hR
        refine mem_step' rfl fun hvl => ?_
        have hl : vals.length = 1 := hvl
        obtain ⟨b4, c4, hvals, hv⟩ := hJ.at0 hl
        refine mem_row1 (v := .slice (some ⟨b4, 0, none⟩) (m + 1 - hf) c4) (wn rfl) rfl (show aa.eval (.tmp 73) = _ from (hR.val 10 73 rfl rfl rfl).trans (by rw [hvals] <;> rfl)) hv s5el79 rfl (fun b23 w24 hv => ?_)
        exact JS.next hl ⟨b4, c4, b23, by rw [hvals]; rfl, hv⟩
      · intro aa ww vals hJ hR
        refine mem_step' rfl fun hvl => ?_
        have hl : vals.length = 2 := hvl
        obtain ⟨b4, c4, b23, hvals, hv⟩ := hJ.at0 hl
        refine stepMem_calls s5callable58 (wn rfl) rfl (args := #[.slice (some ⟨a, 0, none⟩) N ca, .int .i64 ((i + 1 : Nat) : Int), .slice (some ⟨b23, 0, none⟩) 1 1]) (by simp only [yA, yB, yC]; rw [show aa.eval (.tmp 67) = .slice (some ⟨a, 0, none⟩) N ca from hR.v 4 67 rfl rfl rfl rfl, show aa.eval (.tmp 69) = .int .i64 ((i + 1 : Nat) : Int) from hR.v 6 69 rfl rfl rfl rfl, show aa.eval (.tmp 74) = .slice (some ⟨b23, 0, none⟩) 1 1 from (hR.val 11 74 rfl rfl rfl).trans (by rw [hvals] <;> rfl)] <;> rfl) ((insBlk B _ _ a ca N (i + 1) (N - (i + 1)) b23 _ _ [Value.slice (some ⟨b4, 0, none⟩) (m + 1 - hf) c4] (by omega) (by omega) hN (by rw [List.length_take, hbl]; omega) (by rw [List.length_drop, hbl]; omega) rfl (fun u hu => h1b u (List.mem_of_mem_take hu)) (fun u hu => h1b u (List.mem_of_mem_drop hu)) (one_cons rfl one_nil) (hv.front 5 rfl)).mono ?_)
        rintro e w25 ⟨a5, ca5, rfl, hv⟩
        refine ⟨_, rfl, JS.next hl ⟨b4, c4, b23, a5, ca5, by rw [hvals]; rfl, hv⟩⟩
      · intro aa ww vals hJ hR
        exact xD rfl (ex_nil rfl (hR.w 0 63 rfl rfl rfl rfl)) rfl rfl
      · intro aa ww vals hJ hR
        exact xD rfl (ex_field rfl (hR.w 13 76 rfl rfl rfl rfl) (s3fa81_0 _ _ _)) rfl rfl
      · intro aa ww vals hJ hR
        refine mem_step' rfl fun hvl => ?_
        have hl : vals.length = 3 := hvl
        obtain ⟨b4, c4, b23, a5, ca5, hvals, hv⟩ := hJ.at0 hl
        refine mem_storeAt 4 (v := .slice (some ⟨a5, 0, none⟩) (N + 1) ca5) (L' := [.slice (some ⟨a5, 0, none⟩) (N + 1) ca5, .int .i64 (n + 1)]) (wn rfl) rfl (hR.w 14 77 rfl rfl rfl rfl) (show aa.eval (.tmp 75) = _ from (hR.val 12 75 rfl rfl rfl).trans (by rw [hvals] <;> rfl)) hv rfl s5sz79 (by simp) rfl rfl rfl (fun w26 hv => ?_)
        exact JS.next hl ⟨b4, c4, b23, a5, ca5, by rw [hvals]; rfl, hv⟩
      rintro w27 vals ⟨b4, c4, b23, a5, ca5, rfl, hv⟩
      rw [show mixV [10, 11, 12, 15] [.slice (some ⟨b4, 0, none⟩) (m + 1 - hf) c4, .slice (some ⟨b23, 0, none⟩) 1 1, .slice (some ⟨a5, 0, none⟩) (N + 1) ca5, undef] 0 [.pointer (some ⟨p0, 0, none⟩), .pointer (some ⟨p0, 0, none⟩), .pointer (some ⟨p0, 0, none⟩), .pointer (some ⟨p0, 0, none⟩), .slice (some ⟨a, 0, none⟩) N ca, .int .i64 (i : Int), .int .i64 ((i + 1 : Nat) : Int), .slice (some ⟨b3, 0, none⟩) (m + 1 : Nat) c3, .int .i64 (hf : Int), .slice (some ⟨b3, 0 + hf * 2, none⟩) ((m + 1 : Nat) - hf) (c3 - hf), undef, undef, undef, .pointer (some ⟨p0, 0, none⟩), .pointer (some ⟨p0, 0, none⟩), undef] = [.pointer (some ⟨p0, 0, none⟩), .pointer (some ⟨p0, 0, none⟩), .pointer (some ⟨p0, 0, none⟩), .pointer (some ⟨p0, 0, none⟩), .slice (some ⟨a, 0, none⟩) N ca, .int .i64 (i : Int), .int .i64 ((i + 1 : Nat) : Int), .slice (some ⟨b3, 0, none⟩) (m + 1 : Nat) c3, .int .i64 (hf : Int), .slice (some ⟨b3, 0 + hf * 2, none⟩) ((m + 1 : Nat) - hf) (c3 - hf), .slice (some ⟨b4, 0, none⟩) (m + 1 - hf) c4, .slice (some ⟨b23, 0, none⟩) 1 1, .slice (some ⟨a5, 0, none⟩) (N + 1) ca5, .pointer (some ⟨p0, 0, none⟩), .pointer (some ⟨p0, 0, none⟩), undef] from rfl]
      simp only [putAll, zP, zN, zI, zS, zO]
      refine tN (hK21 _ _ ?_)
      clear hK21 K21
      refine sK fun K28 hK28 => ?_
      replace hv := hv.front 2 rfl
      simp only [List.eraseIdx_cons_succ, List.eraseIdx_cons_zero] at hv
      obtain ⟨L, hL1, hL2, hL3, hL4, hv⟩ := hv.rowCell
      obtain ⟨tl, hLe⟩ : ∃ tl, L = (p ++ [.string ⟨key.toArray⟩, cv] ++ d).take (hf * 2) ++ (p ++ [.string ⟨key.toArray⟩, cv] ++ d).drop (hf * 2) ++ tl := ⟨L.drop ((m + 1) * 2), by rw [List.take_append_drop, ← hL2, List.take_append_drop]⟩
      subst hLe
      refine rL ?_
      refine xM (.slice (some ⟨b3, 0, none⟩) (m + 1 : Nat) c3) rfl rfl rfl ?_
      refine xM (.int .i64 (hf : Int)) rfl rfl rfl ?_
      refine xG (.slice (some ⟨b3, 0 + hf * 2, none⟩) ((m + 1 : Nat) - hf) (c3 - hf)) rfl rfl (ex_slice (lo' := some (.int .i64 (hf : Int))) rfl rfl (congrArg some rfl) rfl rfl (run_from (size := 2) Try.underlying93 s3es93 (by omega) (by omega))) ?_
      simp only [zP, zI, zS, zO]
      refine sl_clearAt 0 (pre := (p ++ [.string ⟨key.toArray⟩, cv] ++ d).take (hf * 2)) (mid := (p ++ [.string ⟨key.toArray⟩, cv] ++ d).drop (hf * 2)) (post := tl) (m := m + 1 - hf) tV (wn rfl) rfl rfl s5el93 (one_cons rfl (one_cons rfl one_nil)) hv rfl rfl (by rw [List.length_take, hesl]; omega) (by rw [List.length_drop, hesl]; omega) (fun zs w29 hzs hv => ?_)
      simp only [List.set_cons_zero] at hv
      refine wL ?_
      simp only [zN]
      refine tN (hK28 _ _ ?_)
      clear hK28 K28
      refine rL ?_
      refine xM (.slice (some ⟨b3, 0, none⟩) (m + 1 : Nat) c3) rfl rfl rfl ?_
      refine xM (.int .i64 (hf : Int)) rfl rfl rfl ?_
      refine xG (.slice (some ⟨b3, 0, none⟩) hf c3) rfl rfl (ex_slice (hi' := some (.int .i64 (hf : Int))) rfl rfl rfl (congrArg some rfl) rfl (run_hi Try.underlying93 s3es93 (by omega))) ?_
      simp only [zP, zI, zS, zO]
      refine xA (.slice (some ⟨b3, 0, none⟩) hf c3) rfl rfl rfl ?_
      refine wL ?_
      simp only [zP, zI, zS, zO]
      refine tN (hK17 _ _ ?_)
      clear hK17 K17
      have h9 := hv.cellRow (n := hf) (c := c3) (size := 2) (by simp only [List.length_append, hzs] at hL1 ⊢; exact hL1) (by omega) hL4
      rw [List.append_assoc, List.take_left' (by rw [List.length_take, hesl]; omega)] at h9
      replace hv := h9
      clear h9
      refine rL ?_
      refine xM (.pointer (some ⟨p0, 0, none⟩)) rfl rfl rfl ?_
      refine xG (.pointer (some ⟨p0, 0, none⟩)) rfl rfl (ex_nil rfl rfl) ?_
      refine xF (.pointer (some ⟨p0, 0, none⟩)) rfl rfl rfl (s3fa81_0 _ _ _) ?_
      simp only [zP, zI, zS, zO]
      refine xL (.slice (some ⟨a5, 0, none⟩) (N + 1) ca5) rfl rfl rfl (run_load1 s3na79 (hv.load 4 0 rfl rfl)) ?_
      refine xM (.int .i64 (i : Int)) rfl rfl rfl ?_
      refine xM (.slice (some ⟨b3, 0, none⟩) hf c3) rfl rfl rfl ?_
      simp only [zP, zI, zS, zO]
      refine xG (.pointer (some ⟨a5, 0 + i, none⟩)) rfl rfl (ex_index rfl rfl rfl (run_idx1 (k := i) Try.underlying79 s3es79 (by omega))) ?_
      replace hv := hv.front 1 rfl
      simp only [List.eraseIdx_cons_succ, List.eraseIdx_cons_zero] at hv
      refine sl_storeRow (v := .slice (some ⟨b3, 0, none⟩) hf c3) tV (wn rfl) rfl rfl rfl hv s3sz93 (by first | (rw [hbl]; omega) | (simp only [List.length_append, List.length_take, List.length_drop, List.length_cons, List.length_nil, hbl]; omega)) rfl rfl (fun w30 hv => ?_)
      rw [Nat.zero_add] at hv
      refine wL ?_
      simp only [zP, zN, zI, zS, zO]
      go_end0
      subst hhf
      exact ⟨rfl, .inr ⟨by omega, b3, c3, b4, c4, a5, ca5, ((((hv.front 4 rfl).front 3 rfl).front 3 rfl).sub (List.Sublist.cons_cons _ (List.Sublist.cons_cons _ (List.Sublist.cons_cons _ (List.Sublist.cons_cons _ (List.Sublist.cons _ (List.Sublist.refl _)))))))⟩⟩
    refine xG (.bool false) rfl rfl (ex_gtr (k := .i64) (m := ((m + 1 : Nat) : Int)) (n := 128) rfl rfl rfl (decide_eq_false hb19)) ?_
    refine wL ?_
    simp only [zP, zI, zS, zO]
    refine tN (hK18 _ _ ?_)
    clear hK18 K18
    refine wpIn_cond_false rfl ?_
    refine wpIn_skip ?_
    refine tN (hK17 _ _ ?_)
    clear hK17 K17
    refine rL ?_
    refine xM (.pointer (some ⟨p0, 0, none⟩)) rfl rfl rfl ?_
    refine xG (.pointer (some ⟨p0, 0, none⟩)) rfl rfl (ex_nil rfl rfl) ?_
    refine xF (.pointer (some ⟨p0, 0, none⟩)) rfl rfl rfl (s3fa81_0 _ _ _) ?_
    simp only [zP, zI, zS, zO]
    refine xL (.slice (some ⟨a, 0, none⟩) N ca) rfl rfl rfl (run_load1 s3na79 (hv.load 2 0 rfl rfl)) ?_
    refine xM (.int .i64 (i : Int)) rfl rfl rfl ?_
    refine xM (.slice (some ⟨b3, 0, none⟩) (m + 1 : Nat) c3) rfl rfl rfl ?_
    simp only [zP, zI, zS, zO]
    refine xG (.pointer (some ⟨a, 0 + i, none⟩)) rfl rfl (ex_index rfl rfl rfl (run_idx1 (k := i) Try.underlying79 s3es79 (by omega))) ?_
    replace hv := hv.front 3 rfl
    simp only [List.eraseIdx_cons_succ, List.eraseIdx_cons_zero] at hv
    refine sl_storeRow (v := .slice (some ⟨b3, 0, none⟩) (m + 1 : Nat) c3) tV (wn rfl) rfl rfl rfl hv s3sz93 (by first | (rw [hbl]; omega) | (simp only [List.length_append, List.length_take, List.length_drop, List.length_cons, List.length_nil, hbl]; omega)) rfl rfl (fun w31 hv => ?_)
    rw [Nat.zero_add] at hv
    refine wL ?_
    simp only [zP, zN, zI, zS, zO]
    go_end0
    exact ⟨rfl, .inl ⟨by omega, b3, c3, (((hv.front 3 rfl).front 2 rfl).sub (List.Sublist.cons_cons _ (List.Sublist.cons_cons _ (List.Sublist.cons_cons _ (List.Sublist.cons _ (List.Sublist.refl _))))))⟩⟩
  refine xG (.bool false) rfl rfl (ex_eql (k := .i64) (m := (i0 : Int)) (n := (N : Int)) rfl rfl rfl (decide_eq_false hb10)) ?_
  have h1 : i = i0 := by omega
  subst h1
  have h2 : j = j0 := by omega
  subst h2
  refine wL ?_
  simp only [zP, zI, zS, zO]
  refine tN (hK9 _ _ ?_)
  clear hK9 K9
  refine wpIn_cond_false rfl ?_
  refine wpIn_skip ?_
  refine tN (hK8 _ _ ?_)
  clear hK8 K8
  refine sK fun K32 hK32 => ?_
  refine region_st mixed [.pointer (some ⟨p0, 0, none⟩), .pointer (some ⟨p0, 0, none⟩), .pointer (some ⟨p0, 0, none⟩), .slice (some ⟨a, 0, none⟩) N ca, .int .i64 (i : Int), .pointer (some ⟨a, 0 + i, none⟩), .slice (some ⟨b, 0, none⟩) m c, .int .i64 (j : Int), .agg #[.string ⟨key.toArray⟩, cv], undef, undef, undef] [9, 10, 11] [⟨fun vals w => vals = [] ∧ Inv B (Res.cell b2 [.string ⟨key.toArray⟩, cv] 92 :: Res.row 92 2 (.slice (some ⟨b, 0, none⟩) m c) m (p ++ d) :: Res.cell p0 [.slice (some ⟨a, 0, none⟩) N ca, .int .i64 (n + 1)] 81 :: Res.row 93 1 (.slice (some ⟨a, 0, none⟩) N ca) N bvs :: H) w, fun _ _ _ ⟨h, hi⟩ he => ⟨h, hi.ext he⟩⟩, ⟨fun vals w => ∃ b33, vals = [.slice (some ⟨b33, 0, none⟩) 1 1] ∧ Inv B (Res.cell b33 [.string ⟨key.toArray⟩, cv] 92 :: Res.cell b2 [.string ⟨key.toArray⟩, cv] 92 :: Res.row 92 2 (.slice (some ⟨b, 0, none⟩) m c) m (p ++ d) :: Res.cell p0 [.slice (some ⟨a, 0, none⟩) N ca, .int .i64 (n + 1)] 81 :: Res.row 93 1 (.slice (some ⟨a, 0, none⟩) N ca) N bvs :: H) w, fun _ _ _ ⟨b33, h, hi⟩ he => ⟨b33, h, hi.ext he⟩⟩, ⟨fun vals w => ∃ b33 b3 c3, vals = [.slice (some ⟨b33, 0, none⟩) 1 1, .slice (some ⟨b3, 0, none⟩) (m + 1 : Nat) c3] ∧ Inv B (Res.row 92 2 (.slice (some ⟨b3, 0, none⟩) (m + 1) c3) (m + 1) (p ++ [.string ⟨key.toArray⟩, cv] ++ d) :: Res.cell b2 [.string ⟨key.toArray⟩, cv] 92 :: Res.cell p0 [.slice (some ⟨a, 0, none⟩) N ca, .int .i64 (n + 1)] 81 :: Res.row 93 1 (.slice (some ⟨a, 0, none⟩) N ca) N bvs :: H) w, fun _ _ _ ⟨b33, b3, c3, h, hi⟩ he => ⟨b33, b3, c3, h, hi.ext he⟩⟩, ⟨fun vals w => ∃ b33 b3 c3, vals = [.slice (some ⟨b33, 0, none⟩) 1 1, .slice (some ⟨b3, 0, none⟩) (m + 1 : Nat) c3, .slice (some ⟨b3, 0, none⟩) (m + 1 : Nat) c3] ∧ Inv B (Res.row 92 2 (.slice (some ⟨b3, 0, none⟩) (m + 1) c3) (m + 1) (p ++ [.string ⟨key.toArray⟩, cv] ++ d) :: Res.cell b2 [.string ⟨key.toArray⟩, cv] 92 :: Res.cell p0 [.slice (some ⟨a, 0, none⟩) N ca, .int .i64 (n + 1)] 81 :: Res.row 93 1 (.slice (some ⟨a, 0, none⟩) N ca) N bvs :: H) w, fun _ _ _ ⟨b33, b3, c3, h, hi⟩ he => ⟨b33, b3, c3, h, hi.ext he⟩⟩] 91 rfl (by kernel_rfl) ⟨rfl, hv⟩ ⟨?_, ?_, ?_, ?_, ?_, ?_, ?_, ?_, ?_, ?_, ?_, ?_, trivial⟩ ?_
  · intro aa ww vals hJ hR
    exact xD rfl (ex_move rfl (show aa.eval (.tmp 0) = _ from hR.keep 0 rfl)) rfl rfl
  · intro aa ww vals hJ hR
    exact xD rfl (ex_nil rfl (hR.w 0 46 rfl rfl rfl rfl)) rfl rfl
  · intro aa ww vals hJ hR
    exact xD rfl (ex_field rfl (hR.w 1 47 rfl rfl rfl rfl) (s3fa81_0 _ _ _)) rfl rfl
  · intro aa ww vals hJ hR
    have h2 : vals.length ≤ 1 := hR.hi 10 (by simp) rfl
    rcases (show vals.length = 0 ∨ vals.length = 1 by omega) with hl | hl
    · obtain ⟨hvals, hv⟩ := hJ.at0 hl
      exact xD rfl (ex_load rfl (hR.w 2 48 rfl rfl rfl rfl) (run_load1 s3na79 (hv.load 2 0 rfl rfl))) rfl rfl
    obtain ⟨b33, hvals, hv⟩ := hJ.at0 hl
    exact xD rfl (ex_load rfl (hR.w 2 48 rfl rfl rfl rfl) (run_load1 s3na79 (hv.load 3 0 rfl rfl))) rfl rfl
  · intro aa ww vals hJ hR
    exact xD rfl (ex_move rfl (show aa.eval (.tmp 1) = _ from hR.keep 1 rfl)) rfl rfl
  · intro aa ww vals hJ hR
    exact xD rfl (ex_index rfl (hR.w 3 49 rfl rfl rfl rfl) (hR.w 4 50 rfl rfl rfl rfl) (run_idx1 (k := i) Try.underlying79 s3es79 (by omega))) rfl rfl
  · intro aa ww vals hJ hR
    have h2 : vals.length ≤ 1 := hR.hi 10 (by simp) rfl
    rcases (show vals.length = 0 ∨ vals.length = 1 by omega) with hl | hl
    · obtain ⟨hvals, hv⟩ := hJ.at0 hl
      exact xD rfl (ex_load rfl (hR.w 5 51 rfl rfl rfl rfl) (run_load1 s3na93 (row_load (hv.get 3 rfl) hbi))) rfl rfl
    obtain ⟨b33, hvals, hv⟩ := hJ.at0 hl
    exact xD rfl (ex_load rfl (hR.w 5 51 rfl rfl rfl rfl) (run_load1 s3na93 (row_load (hv.get 4 rfl) hbi))) rfl rfl
  · intro aa ww vals hJ hR
    exact xD rfl (ex_move rfl (show aa.eval (.tmp 2) = _ from hR.keep 2 rfl)) rfl rfl
  · intro aa ww vals hJ hR
    have h2 : vals.length ≤ 0 := hR.hi 9 (by simp) rfl
    have hl : vals.length = 0 := by omega
    obtain ⟨hvals, hv⟩ := hJ.at0 hl
    exact xD rfl (ex_load rfl (show aa.eval (.tmp 7) = _ from hR.keep 7 rfl) (run_load_mid (pre := []) (mid := [.string ⟨key.toArray⟩, cv]) (post := []) s5wd92 (show Blk _ b2 ([] ++ [.string ⟨key.toArray⟩, cv] ++ []) _ from hv.get 0 rfl) rfl)) rfl rfl
  · intro aa ww vals hJ hR
    refine mem_step' rfl fun hvl => ?_
    have hl : vals.length = 0 := hvl
    obtain ⟨hvals, hv⟩ := hJ.at0 hl
    refine mem_rowAgg (L := [.string ⟨key.toArray⟩, cv]) (wn rfl) rfl (hR.w 8 54 rfl rfl rfl rfl) hv s5el93 rfl (by decide) (fun b33 w34 hv => ?_)
    exact JS.next hl ⟨b33, by rw [hvals]; rfl, hv⟩
  · intro aa ww vals hJ hR
    refine mem_step' rfl fun hvl => ?_
    have hl : vals.length = 1 := hvl
    obtain ⟨b33, hvals, hv⟩ := hJ.at0 hl
    refine stepMem_calls s5callable57 (wn rfl) rfl (args := #[.slice (some ⟨b, 0, none⟩) m c, .int .i64 (j : Int), .slice (some ⟨b33, 0, none⟩) 1 1]) (by simp only [yA, yB, yC]; rw [show aa.eval (.tmp 52) = .slice (some ⟨b, 0, none⟩) m c from hR.v 6 52 rfl rfl rfl rfl, show aa.eval (.tmp 53) = .int .i64 (j : Int) from hR.v 7 53 rfl rfl rfl rfl, show aa.eval (.tmp 55) = .slice (some ⟨b33, 0, none⟩) 1 1 from (hR.val 9 55 rfl rfl rfl).trans (by rw [hvals] <;> rfl)] <;> rfl) ((insEnt B _ _ b c m j k b33 p d [.string ⟨key.toArray⟩, cv] (by omega) (by omega) hm hp hd rfl h1p h1d (one_cons rfl (one_cons hc1.2 one_nil)) (hv.front 2 rfl)).mono ?_)
    rintro e w35 ⟨b3, c3, rfl, hv⟩
    refine ⟨_, rfl, JS.next hl ⟨b33, b3, c3, by rw [hvals]; rfl, hv⟩⟩
  · intro aa ww vals hJ hR
    refine mem_step' rfl fun hvl => ?_
    have hl : vals.length = 2 := hvl
    obtain ⟨b33, b3, c3, hvals, hv⟩ := hJ.at0 hl
    refine Ex.mem (ex_assign rfl (show aa.eval (.tmp 56) = _ from (hR.val 10 56 rfl rfl rfl).trans (by rw [hvals] <;> rfl))) (wn rfl) ?_
    exact JS.next hl ⟨b33, b3, c3, by rw [hvals]; rfl, hv⟩
  rintro w36 vals ⟨b33, b3, c3, rfl, hv⟩
  rw [show mixV [9, 10, 11] [.slice (some ⟨b33, 0, none⟩) 1 1, .slice (some ⟨b3, 0, none⟩) (m + 1 : Nat) c3, .slice (some ⟨b3, 0, none⟩) (m + 1 : Nat) c3] 0 [.pointer (some ⟨p0, 0, none⟩), .pointer (some ⟨p0, 0, none⟩), .pointer (some ⟨p0, 0, none⟩), .slice (some ⟨a, 0, none⟩) N ca, .int .i64 (i : Int), .pointer (some ⟨a, 0 + i, none⟩), .slice (some ⟨b, 0, none⟩) m c, .int .i64 (j : Int), .agg #[.string ⟨key.toArray⟩, cv], undef, undef, undef] = [.pointer (some ⟨p0, 0, none⟩), .pointer (some ⟨p0, 0, none⟩), .pointer (some ⟨p0, 0, none⟩), .slice (some ⟨a, 0, none⟩) N ca, .int .i64 (i : Int), .pointer (some ⟨a, 0 + i, none⟩), .slice (some ⟨b, 0, none⟩) m c, .int .i64 (j : Int), .agg #[.string ⟨key.toArray⟩, cv], .slice (some ⟨b33, 0, none⟩) 1 1, .slice (some ⟨b3, 0, none⟩) (m + 1 : Nat) c3, .slice (some ⟨b3, 0, none⟩) (m + 1 : Nat) c3] from rfl]
  simp only [putAll, zP, zI, zS, zO]
  refine tN (hK32 _ _ ?_)
  clear hK32 K32
  refine sK fun K37 hK37 => ?_
  refine sK fun K38 hK38 => rL ?_
  refine xM (.slice (some ⟨b3, 0, none⟩) (m + 1 : Nat) c3) rfl rfl rfl ?_
  refine xG (.int .i64 ((m + 1 : Nat) : Int)) rfl rfl (ex_len0 Try.underlying93 rfl rfl) ?_
  by_cases hb39 : ((m + 1 : Nat) : Int) > 128
  · refine xG (.bool true) rfl rfl (ex_gtr (k := .i64) (m := ((m + 1 : Nat) : Int)) (n := 128) rfl rfl rfl (decide_eq_true hb39)) ?_
    refine wL ?_
    simp only [zP, zI, zS, zO]
    refine tN (hK38 _ _ ?_)
    clear hK38 K38
    refine wpIn_cond_true rfl ?_
    refine sK fun K40 hK40 => ?_
    obtain ⟨hf, hhf⟩ : ∃ hf : Nat, hf = (m + 1) / 2 := ⟨_, rfl⟩
    refine rL ?_
    refine xM (.slice (some ⟨b3, 0, none⟩) (m + 1 : Nat) c3) rfl rfl rfl ?_
    refine xG (.int .i64 ((m + 1 : Nat) : Int)) rfl rfl (ex_len0 Try.underlying93 rfl rfl) ?_
    refine xG (.int .i64 (hf : Int)) rfl rfl (ex_quo (m := ((m + 1 : Nat) : Int)) (n := 2) rfl rfl rfl (by decide) (quo2 (m + 1) hf hhf (by omega))) ?_
    simp only [zP, zI, zS, zO]
    refine xA (.int .i64 (hf : Int)) rfl rfl rfl ?_
    refine wL ?_
    simp only [zP, zI, zS, zO]
    refine tN (hK40 _ _ ?_)
    clear hK40 K40
    refine sK fun K41 hK41 => ?_
    have hc3 := (hv.rowOk).1
    have hc3l := hc3.le
    have hc3m := hc3.max
    have hesl : (p ++ [.string ⟨key.toArray⟩, cv] ++ d).length = (m + 1) * 2 := by simp only [List.length_append, hp, hd, List.length_cons, List.length_nil]; omega
    have hes1 : ∀ u ∈ (p ++ [.string ⟨key.toArray⟩, cv] ++ d), u.oneCell' = true := fun u hu => by
      rcases List.mem_append.1 hu with hu | hu
      · rcases List.mem_append.1 hu with hu | hu
        · exact h1p u hu
        exact one_cons rfl (one_cons hc1.2 one_nil) u hu
      exact h1d u hu
    rw [← List.take_append_drop (i + 1) bvs] at hv
    refine region_st mixed [.pointer (some ⟨p0, 0, none⟩), .pointer (some ⟨p0, 0, none⟩), .pointer (some ⟨p0, 0, none⟩), .pointer (some ⟨p0, 0, none⟩), .slice (some ⟨a, 0, none⟩) N ca, .int .i64 (i : Int), .int .i64 ((i + 1 : Nat) : Int), .slice (some ⟨b3, 0, none⟩) (m + 1 : Nat) c3, .int .i64 (hf : Int), .slice (some ⟨b3, 0 + hf * 2, none⟩) ((m + 1 : Nat) - hf) (c3 - hf), undef, undef, undef, .pointer (some ⟨p0, 0, none⟩), .pointer (some ⟨p0, 0, none⟩), undef] [10, 11, 12, 15] [⟨fun vals w => vals = [] ∧ Inv B (Res.row 92 2 (.slice (some ⟨b3, 0, none⟩) (m + 1) c3) (m + 1) (p ++ [.string ⟨key.toArray⟩, cv] ++ d) :: Res.cell b2 [.string ⟨key.toArray⟩, cv] 92 :: Res.cell p0 [.slice (some ⟨a, 0, none⟩) N ca, .int .i64 (n + 1)] 81 :: Res.row 93 1 (.slice (some ⟨a, 0, none⟩) N ca) N (List.take (i + 1) bvs ++ List.drop (i + 1) bvs) :: H) w, fun _ _ _ ⟨h, hi⟩ he => ⟨h, hi.ext he⟩⟩, ⟨fun vals w => ∃ b4 c4, vals = [.slice (some ⟨b4, 0, none⟩) (m + 1 - hf) c4] ∧ Inv B (Res.row 92 2 (.slice (some ⟨b4, 0, none⟩) (m + 1 - hf) c4) (m + 1 - hf) ((p ++ [.string ⟨key.toArray⟩, cv] ++ d).drop (hf * 2)) :: Res.row 92 2 (.slice (some ⟨b3, 0, none⟩) (m + 1) c3) (m + 1) (p ++ [.string ⟨key.toArray⟩, cv] ++ d) :: Res.cell b2 [.string ⟨key.toArray⟩, cv] 92 :: Res.cell p0 [.slice (some ⟨a, 0, none⟩) N ca, .int .i64 (n + 1)] 81 :: Res.row 93 1 (.slice (some ⟨a, 0, none⟩) N ca) N (List.take (i + 1) bvs ++ List.drop (i + 1) bvs) :: H) w, fun _ _ _ ⟨b4, c4, h, hi⟩ he => ⟨b4, c4, h, hi.ext he⟩⟩, ⟨fun vals w => ∃ b4 c4 b43, vals = [.slice (some ⟨b4, 0, none⟩) (m + 1 - hf) c4, .slice (some ⟨b43, 0, none⟩) 1 1] ∧ Inv B (Res.cell b43 [.slice (some ⟨b4, 0, none⟩) (m + 1 - hf) c4] 93 :: Res.row 92 2 (.slice (some ⟨b4, 0, none⟩) (m + 1 - hf) c4) (m + 1 - hf) ((p ++ [.string ⟨key.toArray⟩, cv] ++ d).drop (hf * 2)) :: Res.row 92 2 (.slice (some ⟨b3, 0, none⟩) (m + 1) c3) (m + 1) (p ++ [.string ⟨key.toArray⟩, cv] ++ d) :: Res.cell b2 [.string ⟨key.toArray⟩, cv] 92 :: Res.cell p0 [.slice (some ⟨a, 0, none⟩) N ca, .int .i64 (n + 1)] 81 :: Res.row 93 1 (.slice (some ⟨a, 0, none⟩) N ca) N (List.take (i + 1) bvs ++ List.drop (i + 1) bvs) :: H) w, fun _ _ _ ⟨b4, c4, b43, h, hi⟩ he => ⟨b4, c4, b43, h, hi.ext he⟩⟩, ⟨fun vals w => ∃ b4 c4 b43 a5 ca5, vals = [.slice (some ⟨b4, 0, none⟩) (m + 1 - hf) c4, .slice (some ⟨b43, 0, none⟩) 1 1, .slice (some ⟨a5, 0, none⟩) (N + 1) ca5] ∧ Inv B (Res.row 93 1 (.slice (some ⟨a5, 0, none⟩) (N + 1) ca5) (N + 1) (List.take (i + 1) bvs ++ [Value.slice (some ⟨b4, 0, none⟩) (m + 1 - hf) c4] ++ List.drop (i + 1) bvs) :: Res.row 92 2 (.slice (some ⟨b4, 0, none⟩) (m + 1 - hf) c4) (m + 1 - hf) ((p ++ [.string ⟨key.toArray⟩, cv] ++ d).drop (hf * 2)) :: Res.row 92 2 (.slice (some ⟨b3, 0, none⟩) (m + 1) c3) (m + 1) (p ++ [.string ⟨key.toArray⟩, cv] ++ d) :: Res.cell b2 [.string ⟨key.toArray⟩, cv] 92 :: Res.cell p0 [.slice (some ⟨a, 0, none⟩) N ca, .int .i64 (n + 1)] 81 :: H) w, fun _ _ _ ⟨b4, c4, b43, a5, ca5, h, hi⟩ he => ⟨b4, c4, b43, a5, ca5, h, hi.ext he⟩⟩, ⟨fun vals w => ∃ b4 c4 b43 a5 ca5, vals = [.slice (some ⟨b4, 0, none⟩) (m + 1 - hf) c4, .slice (some ⟨b43, 0, none⟩) 1 1, .slice (some ⟨a5, 0, none⟩) (N + 1) ca5, undef] ∧ Inv B (Res.row 93 1 (.slice (some ⟨a5, 0, none⟩) (N + 1) ca5) (N + 1) (List.take (i + 1) bvs ++ [Value.slice (some ⟨b4, 0, none⟩) (m + 1 - hf) c4] ++ List.drop (i + 1) bvs) :: Res.row 92 2 (.slice (some ⟨b4, 0, none⟩) (m + 1 - hf) c4) (m + 1 - hf) ((p ++ [.string ⟨key.toArray⟩, cv] ++ d).drop (hf * 2)) :: Res.row 92 2 (.slice (some ⟨b3, 0, none⟩) (m + 1) c3) (m + 1) (p ++ [.string ⟨key.toArray⟩, cv] ++ d) :: Res.cell b2 [.string ⟨key.toArray⟩, cv] 92 :: Res.cell p0 [.slice (some ⟨a5, 0, none⟩) (N + 1) ca5, .int .i64 (n + 1)] 81 :: H) w, fun _ _ _ ⟨b4, c4, b43, a5, ca5, h, hi⟩ he => ⟨b4, c4, b43, a5, ca5, h, hi.ext he⟩⟩] 91 rfl (by kernel_rfl) ⟨rfl, hv⟩ ⟨?_, ?_, ?_, ?_, ?_, ?_, ?_, ?_, ?_, ?_, ?_, ?_, ?_, ?_, ?_, ?_, trivial⟩ ?_
    · intro aa ww vals hJ hR
      exact xD rfl (ex_move rfl (show aa.eval (.tmp 0) = _ from hR.keep 0 rfl)) rfl rfl
    · intro aa ww vals hJ hR
      exact xD rfl (ex_move rfl (show aa.eval (.tmp 0) = _ from hR.keep 0 rfl)) rfl rfl
    · intro aa ww vals hJ hR
      exact xD rfl (ex_nil rfl (hR.w 1 64 rfl rfl rfl rfl)) rfl rfl
    · intro aa ww vals hJ hR
      exact xD rfl (ex_field rfl (hR.w 2 65 rfl rfl rfl rfl) (s3fa81_0 _ _ _)) rfl rfl
    · intro aa ww vals hJ hR
      have h2 : vals.length ≤ 2 := hR.hi 12 (by simp) rfl
      rcases (show vals.length = 0 ∨ vals.length = 1 ∨ vals.length = 2 by omega) with hl | hl | hl
      · obtain ⟨hvals, hv⟩ := hJ.at0 hl
        exact xD rfl (ex_load rfl (hR.w 3 66 rfl rfl rfl rfl) (run_load1 s3na79 (hv.load 2 0 rfl rfl))) rfl rfl
      · obtain ⟨b4, c4, hvals, hv⟩ := hJ.at0 hl
        exact xD rfl (ex_load rfl (hR.w 3 66 rfl rfl rfl rfl) (run_load1 s3na79 (hv.load 3 0 rfl rfl))) rfl rfl
      obtain ⟨b4, c4, b43, hvals, hv⟩ := hJ.at0 hl
      exact xD rfl (ex_load rfl (hR.w 3 66 rfl rfl rfl rfl) (run_load1 s3na79 (hv.load 4 0 rfl rfl))) rfl rfl
    · intro aa ww vals hJ hR
      exact xD rfl (ex_move rfl (show aa.eval (.tmp 1) = _ from hR.keep 1 rfl)) rfl rfl
    · intro aa ww vals hJ hR
      exact xD rfl (ex_add (m := (i : Int)) (n := 1) rfl (hR.w 5 68 rfl rfl rfl rfl) rfl (by rw [i64_in (by omega)]; omega)) rfl rfl
    · intro aa ww vals hJ hR
      exact xD rfl (ex_move rfl (show aa.eval (.tmp 8) = _ from hR.keep 8 rfl)) rfl rfl
    · intro aa ww vals hJ hR
      exact xD rfl (ex_move rfl (show aa.eval (.tmp 9) = _ from hR.keep 9 rfl)) rfl rfl
    · intro aa ww vals hJ hR
      exact xD rfl (ex_slice (lo' := some (.int .i64 (hf : Int))) rfl (hR.w 7 70 rfl rfl rfl rfl) (congrArg some (hR.w 8 71 rfl rfl rfl rfl)) rfl rfl (run_from (size := 2) Try.underlying93 s3es93 (by omega) (by omega))) rfl rfl
    · intro aa ww vals hJ hR
      refine mem_step' rfl fun hvl => ?_
      have hl : vals.length = 0 := hvl
      obtain ⟨hvals, hv⟩ := hJ.at0 hl
      refine stepMem_calls s5callable59 (wn rfl) rfl (args := #[.slice (some ⟨b3, 0 + hf * 2, none⟩) ((m + 1 : Nat) - hf) (c3 - hf)]) (by simp only [yA, yB, yC]; rw [show aa.eval (.tmp 72) = .slice (some ⟨b3, 0 + hf * 2, none⟩) ((m + 1 : Nat) - hf) (c3 - hf) from hR.v 9 72 rfl rfl rfl rfl] <;> rfl) ((cloneEnt B _ _ _ (m + 1 - hf) (c3 - hf) ((p ++ [.string ⟨key.toArray⟩, cv] ++ d).drop (hf * 2)) [_] (fun r hr => by rw [List.mem_singleton.1 hr]; exact List.mem_of_getElem? (i := 0) rfl) ⟨by omega, by unfold maxLen at hc3m ⊢; omega, fun h => by cases h⟩ (by rw [List.length_drop, hesl]; omega) (fun u hu => hes1 u (List.mem_of_mem_drop hu)) (by omega) (by omega) (rdW_row.drop (hf * 2)) hv).mono ?_)
      rintro e w42 ⟨b4, c4, rfl, hv⟩
      refine ⟨_, rfl, JS.next hl ⟨b4, c4, by rw [hvals]; rfl, hv⟩⟩
    · intro aa ww vals hJ hR
      refine mem_step' rfl fun hvl => ?_
      have hl : vals.length = 1 := hvl
      obtain ⟨b4, c4, hvals, hv⟩ := hJ.at0 hl
      refine mem_row1 (v := .slice (some ⟨b4, 0, none⟩) (m + 1 - hf) c4) (wn rfl) rfl (show aa.eval (.tmp 73) = _ from (hR.val 10 73 rfl rfl rfl).trans (by rw [hvals] <;> rfl)) hv s5el79 rfl (fun b43 w44 hv => ?_)
      exact JS.next hl ⟨b4, c4, b43, by rw [hvals]; rfl, hv⟩
    · intro aa ww vals hJ hR
      refine mem_step' rfl fun hvl => ?_
      have hl : vals.length = 2 := hvl
      obtain ⟨b4, c4, b43, hvals, hv⟩ := hJ.at0 hl
      refine stepMem_calls s5callable58 (wn rfl) rfl (args := #[.slice (some ⟨a, 0, none⟩) N ca, .int .i64 ((i + 1 : Nat) : Int), .slice (some ⟨b43, 0, none⟩) 1 1]) (by simp only [yA, yB, yC]; rw [show aa.eval (.tmp 67) = .slice (some ⟨a, 0, none⟩) N ca from hR.v 4 67 rfl rfl rfl rfl, show aa.eval (.tmp 69) = .int .i64 ((i + 1 : Nat) : Int) from hR.v 6 69 rfl rfl rfl rfl, show aa.eval (.tmp 74) = .slice (some ⟨b43, 0, none⟩) 1 1 from (hR.val 11 74 rfl rfl rfl).trans (by rw [hvals] <;> rfl)] <;> rfl) ((insBlk B _ _ a ca N (i + 1) (N - (i + 1)) b43 _ _ [Value.slice (some ⟨b4, 0, none⟩) (m + 1 - hf) c4] (by omega) (by omega) hN (by rw [List.length_take, hbl]; omega) (by rw [List.length_drop, hbl]; omega) rfl (fun u hu => h1b u (List.mem_of_mem_take hu)) (fun u hu => h1b u (List.mem_of_mem_drop hu)) (one_cons rfl one_nil) (hv.front 5 rfl)).mono ?_)
      rintro e w45 ⟨a5, ca5, rfl, hv⟩
      refine ⟨_, rfl, JS.next hl ⟨b4, c4, b43, a5, ca5, by rw [hvals]; rfl, hv⟩⟩
    · intro aa ww vals hJ hR
      exact xD rfl (ex_nil rfl (hR.w 0 63 rfl rfl rfl rfl)) rfl rfl
    · intro aa ww vals hJ hR
      exact xD rfl (ex_field rfl (hR.w 13 76 rfl rfl rfl rfl) (s3fa81_0 _ _ _)) rfl rfl
    · intro aa ww vals hJ hR
      refine mem_step' rfl fun hvl => ?_
      have hl : vals.length = 3 := hvl
      obtain ⟨b4, c4, b43, a5, ca5, hvals, hv⟩ := hJ.at0 hl
      refine mem_storeAt 4 (v := .slice (some ⟨a5, 0, none⟩) (N + 1) ca5) (L' := [.slice (some ⟨a5, 0, none⟩) (N + 1) ca5, .int .i64 (n + 1)]) (wn rfl) rfl (hR.w 14 77 rfl rfl rfl rfl) (show aa.eval (.tmp 75) = _ from (hR.val 12 75 rfl rfl rfl).trans (by rw [hvals] <;> rfl)) hv rfl s5sz79 (by simp) rfl rfl rfl (fun w46 hv => ?_)
      exact JS.next hl ⟨b4, c4, b43, a5, ca5, by rw [hvals]; rfl, hv⟩
    rintro w47 vals ⟨b4, c4, b43, a5, ca5, rfl, hv⟩
    rw [show mixV [10, 11, 12, 15] [.slice (some ⟨b4, 0, none⟩) (m + 1 - hf) c4, .slice (some ⟨b43, 0, none⟩) 1 1, .slice (some ⟨a5, 0, none⟩) (N + 1) ca5, undef] 0 [.pointer (some ⟨p0, 0, none⟩), .pointer (some ⟨p0, 0, none⟩), .pointer (some ⟨p0, 0, none⟩), .pointer (some ⟨p0, 0, none⟩), .slice (some ⟨a, 0, none⟩) N ca, .int .i64 (i : Int), .int .i64 ((i + 1 : Nat) : Int), .slice (some ⟨b3, 0, none⟩) (m + 1 : Nat) c3, .int .i64 (hf : Int), .slice (some ⟨b3, 0 + hf * 2, none⟩) ((m + 1 : Nat) - hf) (c3 - hf), undef, undef, undef, .pointer (some ⟨p0, 0, none⟩), .pointer (some ⟨p0, 0, none⟩), undef] = [.pointer (some ⟨p0, 0, none⟩), .pointer (some ⟨p0, 0, none⟩), .pointer (some ⟨p0, 0, none⟩), .pointer (some ⟨p0, 0, none⟩), .slice (some ⟨a, 0, none⟩) N ca, .int .i64 (i : Int), .int .i64 ((i + 1 : Nat) : Int), .slice (some ⟨b3, 0, none⟩) (m + 1 : Nat) c3, .int .i64 (hf : Int), .slice (some ⟨b3, 0 + hf * 2, none⟩) ((m + 1 : Nat) - hf) (c3 - hf), .slice (some ⟨b4, 0, none⟩) (m + 1 - hf) c4, .slice (some ⟨b43, 0, none⟩) 1 1, .slice (some ⟨a5, 0, none⟩) (N + 1) ca5, .pointer (some ⟨p0, 0, none⟩), .pointer (some ⟨p0, 0, none⟩), undef] from rfl]
    simp only [putAll, zP, zN, zI, zS, zO]
    refine tN (hK41 _ _ ?_)
    clear hK41 K41
    refine sK fun K48 hK48 => ?_
    replace hv := hv.front 2 rfl
    simp only [List.eraseIdx_cons_succ, List.eraseIdx_cons_zero] at hv
    obtain ⟨L, hL1, hL2, hL3, hL4, hv⟩ := hv.rowCell
    obtain ⟨tl, hLe⟩ : ∃ tl, L = (p ++ [.string ⟨key.toArray⟩, cv] ++ d).take (hf * 2) ++ (p ++ [.string ⟨key.toArray⟩, cv] ++ d).drop (hf * 2) ++ tl := ⟨L.drop ((m + 1) * 2), by rw [List.take_append_drop, ← hL2, List.take_append_drop]⟩
    subst hLe
    refine rL ?_
    refine xM (.slice (some ⟨b3, 0, none⟩) (m + 1 : Nat) c3) rfl rfl rfl ?_
    refine xM (.int .i64 (hf : Int)) rfl rfl rfl ?_
    refine xG (.slice (some ⟨b3, 0 + hf * 2, none⟩) ((m + 1 : Nat) - hf) (c3 - hf)) rfl rfl (ex_slice (lo' := some (.int .i64 (hf : Int))) rfl rfl (congrArg some rfl) rfl rfl (run_from (size := 2) Try.underlying93 s3es93 (by omega) (by omega))) ?_
    simp only [zP, zI, zS, zO]
    refine sl_clearAt 0 (pre := (p ++ [.string ⟨key.toArray⟩, cv] ++ d).take (hf * 2)) (mid := (p ++ [.string ⟨key.toArray⟩, cv] ++ d).drop (hf * 2)) (post := tl) (m := m + 1 - hf) tV (wn rfl) rfl rfl s5el93 (one_cons rfl (one_cons rfl one_nil)) hv rfl rfl (by rw [List.length_take, hesl]; omega) (by rw [List.length_drop, hesl]; omega) (fun zs w49 hzs hv => ?_)
    simp only [List.set_cons_zero] at hv
    refine wL ?_
    simp only [zN]
    refine tN (hK48 _ _ ?_)
    clear hK48 K48
    refine rL ?_
    refine xM (.slice (some ⟨b3, 0, none⟩) (m + 1 : Nat) c3) rfl rfl rfl ?_
    refine xM (.int .i64 (hf : Int)) rfl rfl rfl ?_
    refine xG (.slice (some ⟨b3, 0, none⟩) hf c3) rfl rfl (ex_slice (hi' := some (.int .i64 (hf : Int))) rfl rfl rfl (congrArg some rfl) rfl (run_hi Try.underlying93 s3es93 (by omega))) ?_
    simp only [zP, zI, zS, zO]
    refine xA (.slice (some ⟨b3, 0, none⟩) hf c3) rfl rfl rfl ?_
    refine wL ?_
    simp only [zP, zI, zS, zO]
    refine tN (hK37 _ _ ?_)
    clear hK37 K37
    have h9 := hv.cellRow (n := hf) (c := c3) (size := 2) (by simp only [List.length_append, hzs] at hL1 ⊢; exact hL1) (by omega) hL4
    rw [List.append_assoc, List.take_left' (by rw [List.length_take, hesl]; omega)] at h9
    replace hv := h9
    clear h9
    refine rL ?_
    refine xM (.pointer (some ⟨p0, 0, none⟩)) rfl rfl rfl ?_
    refine xG (.pointer (some ⟨p0, 0, none⟩)) rfl rfl (ex_nil rfl rfl) ?_
    refine xF (.pointer (some ⟨p0, 0, none⟩)) rfl rfl rfl (s3fa81_0 _ _ _) ?_
    simp only [zP, zI, zS, zO]
    refine xL (.slice (some ⟨a5, 0, none⟩) (N + 1) ca5) rfl rfl rfl (run_load1 s3na79 (hv.load 4 0 rfl rfl)) ?_
    refine xM (.int .i64 (i : Int)) rfl rfl rfl ?_
    refine xM (.slice (some ⟨b3, 0, none⟩) hf c3) rfl rfl rfl ?_
    simp only [zP, zI, zS, zO]
    refine xG (.pointer (some ⟨a5, 0 + i, none⟩)) rfl rfl (ex_index rfl rfl rfl (run_idx1 (k := i) Try.underlying79 s3es79 (by omega))) ?_
    replace hv := hv.front 1 rfl
    simp only [List.eraseIdx_cons_succ, List.eraseIdx_cons_zero] at hv
    refine sl_storeRow (v := .slice (some ⟨b3, 0, none⟩) hf c3) tV (wn rfl) rfl rfl rfl hv s3sz93 (by first | (rw [hbl]; omega) | (simp only [List.length_append, List.length_take, List.length_drop, List.length_cons, List.length_nil, hbl]; omega)) rfl rfl (fun w50 hv => ?_)
    rw [Nat.zero_add] at hv
    refine wL ?_
    simp only [zP, zN, zI, zS, zO]
    go_end0
    subst hhf
    exact ⟨rfl, .inr ⟨by omega, b3, c3, b4, c4, a5, ca5, ((((hv.front 4 rfl).front 3 rfl).front 3 rfl).sub (List.Sublist.cons_cons _ (List.Sublist.cons_cons _ (List.Sublist.cons_cons _ (List.Sublist.cons_cons _ (List.Sublist.cons _ (List.Sublist.refl _)))))))⟩⟩
  refine xG (.bool false) rfl rfl (ex_gtr (k := .i64) (m := ((m + 1 : Nat) : Int)) (n := 128) rfl rfl rfl (decide_eq_false hb39)) ?_
  refine wL ?_
  simp only [zP, zI, zS, zO]
  refine tN (hK38 _ _ ?_)
  clear hK38 K38
  refine wpIn_cond_false rfl ?_
  refine wpIn_skip ?_
  refine tN (hK37 _ _ ?_)
  clear hK37 K37
  refine rL ?_
  refine xM (.pointer (some ⟨p0, 0, none⟩)) rfl rfl rfl ?_
  refine xG (.pointer (some ⟨p0, 0, none⟩)) rfl rfl (ex_nil rfl rfl) ?_
  refine xF (.pointer (some ⟨p0, 0, none⟩)) rfl rfl rfl (s3fa81_0 _ _ _) ?_
  simp only [zP, zI, zS, zO]
  refine xL (.slice (some ⟨a, 0, none⟩) N ca) rfl rfl rfl (run_load1 s3na79 (hv.load 2 0 rfl rfl)) ?_
  refine xM (.int .i64 (i : Int)) rfl rfl rfl ?_
  refine xM (.slice (some ⟨b3, 0, none⟩) (m + 1 : Nat) c3) rfl rfl rfl ?_
  simp only [zP, zI, zS, zO]
  refine xG (.pointer (some ⟨a, 0 + i, none⟩)) rfl rfl (ex_index rfl rfl rfl (run_idx1 (k := i) Try.underlying79 s3es79 (by omega))) ?_
  replace hv := hv.front 3 rfl
  simp only [List.eraseIdx_cons_succ, List.eraseIdx_cons_zero] at hv
  refine sl_storeRow (v := .slice (some ⟨b3, 0, none⟩) (m + 1 : Nat) c3) tV (wn rfl) rfl rfl rfl hv s3sz93 (by first | (rw [hbl]; omega) | (simp only [List.length_append, List.length_take, List.length_drop, List.length_cons, List.length_nil, hbl]; omega)) rfl rfl (fun w51 hv => ?_)
  rw [Nat.zero_add] at hv
  refine wL ?_
  simp only [zP, zN, zI, zS, zO]
  go_end0
  exact ⟨rfl, .inl ⟨by omega, b3, c3, (((hv.front 3 rfl).front 2 rfl).sub (List.Sublist.cons_cons _ (List.Sublist.cons_cons _ (List.Sublist.cons_cons _ (List.Sublist.cons _ (List.Sublist.refl _))))))⟩⟩
end Go.Proofs.Ytffmbdagjpdieaa
/- The index as a resource: its own block, the row of its blocks, and the blocks. -/
namespace Go.Pm
open Go.RowKit
def Res.star (K : List Res) : Res where
  fp := K.flatMap Res.fp
  holds w := (∀ r ∈ K, r.holds w) ∧ (K.flatMap Res.fp).Nodup
  stab w w' h hw := ⟨fun r hr => r.stab w w' (fun b hb => h b (List.mem_flatMap.2 ⟨r, hr, hb⟩)) (hw.1 r hr), hw.2⟩
theorem Inv.star {B : Base} {K H : List Res} {w : World} (hv : Inv B (K ++ H) w) : Inv B (Res.star K :: H) w := by
  have hd := hv.dis
  rw [List.flatMap_append, List.nodup_append] at hd
  refine ⟨hv.base, fun r hr => ?_, fun r hr b hb => ?_, ?_, fun r hr b hb => ?_⟩
  · rcases List.mem_cons.1 hr with rfl | hr
    · exact ⟨fun r hr => hv.own r (List.mem_append_left _ hr), hd.1⟩
    exact hv.own r (List.mem_append_right _ hr)
  · rcases List.mem_cons.1 hr with rfl | hr
    · obtain ⟨q, h1, h2⟩ := List.mem_flatMap.1 hb
      exact hv.lt q (List.mem_append_left _ h1) b h2
    exact hv.lt r (List.mem_append_right _ hr) b hb
  · rw [List.flatMap_cons]
    exact List.nodup_append.2 hd
  rcases List.mem_cons.1 hr with rfl | hr
  · obtain ⟨q, h1, h2⟩ := List.mem_flatMap.1 hb
    exact hv.out q (List.mem_append_left _ h1) b h2
  exact hv.out r (List.mem_append_right _ hr) b hb
theorem Inv.unstar {B : Base} {K H : List Res} {w : World} (hv : Inv B (Res.star K :: H) w) : Inv B (K ++ H) w := by
  have hd := hv.dis
  rw [List.flatMap_cons] at hd
  have hh := hv.head
  refine ⟨hv.base, fun r hr => ?_, fun r hr b hb => ?_, ?_, fun r hr b hb => ?_⟩
  · rcases List.mem_append.1 hr with hr | hr
    · exact hh.1 r hr
    exact hv.own r (List.mem_cons_of_mem _ hr)
  · rcases List.mem_append.1 hr with hr | hr
    · exact hv.lt _ List.mem_cons_self b (List.mem_flatMap.2 ⟨r, hr, hb⟩)
    exact hv.lt r (List.mem_cons_of_mem _ hr) b hb
  · rw [List.flatMap_append]
    exact hd
  rcases List.mem_append.1 hr with hr | hr
  · exact hv.out _ List.mem_cons_self b (List.mem_flatMap.2 ⟨r, hr, hb⟩)
  exact hv.out r (List.mem_cons_of_mem _ hr) b hb
def blkRes (te : TypeId) : List Value → List (List Ent) → List Res
  | v :: bvs, es :: X => Res.row te 2 v es.length (entCells es) :: blkRes te bvs X
  | _, _ => []
theorem blkRes_append (te : TypeId) : ∀ (b1 : List Value) (X1 : List (List Ent)) (b2 : List Value) (X2 : List (List Ent)), b1.length = X1.length → blkRes te (b1 ++ b2) (X1 ++ X2) = blkRes te b1 X1 ++ blkRes te b2 X2
  | [], [], _, _, _ => rfl
  | v :: b1, es :: X1, b2, X2, h => by
    show _ :: blkRes te (b1 ++ b2) (X1 ++ X2) = _ :: (blkRes te b1 X1 ++ blkRes te b2 X2)
    rw [blkRes_append te b1 X1 b2 X2 (by simpa using h)]
  | [], _ :: _, _, _, h => by cases h
  | _ :: _, [], _, _, h => by cases h
theorem split_at {α : Type} {l : List α} {i : Nat} {x : α} (h : l[i]? = some x) : l = l.take i ++ x :: l.drop (i + 1) := by
  obtain ⟨hi, rfl⟩ := List.getElem?_eq_some_iff.1 h
  have := (List.take_append_drop i l).symm
  rw [List.drop_eq_getElem_cons hi] at this
  exact this
theorem blkRes_split (te : TypeId) {bvs : List Value} {X : List (List Ent)} {i : Nat} {bv : Value} {es : List Ent} (hl : bvs.length = X.length) (hb : bvs[i]? = some bv) (hx : X[i]? = some es) :
    blkRes te bvs X = blkRes te (bvs.take i) (X.take i) ++ Res.row te 2 bv es.length (entCells es) :: blkRes te (bvs.drop (i + 1)) (X.drop (i + 1)) := by
  have h1 := split_at hb
  have h2 := split_at hx
  have h3 : (bvs.take i).length = (X.take i).length := by rw [List.length_take, List.length_take, hl]
  have h4 := blkRes_append te (bvs.take i) (X.take i) (bv :: bvs.drop (i + 1)) (es :: X.drop (i + 1)) h3
  rw [← h1, ← h2] at h4
  exact h4
def ixS (ti tb te : TypeId) (p : Nat) (v : Value) (n : Int) (X : List (List Ent)) (bvs : List Value) : Res := Res.star (Res.cell p [v, .int .i64 n] ti :: Res.row tb 1 v X.length bvs :: blkRes te bvs X)
section
variable {ti tb te : TypeId} {p : Nat} {v : Value} {n : Int} {X : List (List Ent)} {bvs : List Value} {B : Base} {H : List Res} {w : World}
theorem ixS_cell (h : (ixS ti tb te p v n X bvs).holds w) : Blk w p [v, .int .i64 n] ti := h.1 (Res.cell p [v, .int .i64 n] ti) List.mem_cons_self
theorem ixS_row (h : (ixS ti tb te p v n X bvs).holds w) : w.ownsRow 0 tb 1 v X.length bvs := h.1 (Res.row tb 1 v X.length bvs) (List.mem_cons_of_mem _ List.mem_cons_self)
theorem ixS_len (h : (ixS ti tb te p v n X bvs).holds w) : bvs.length = X.length := by have := (ixS_row h).1; omega
theorem ixS_blk (h : (ixS ti tb te p v n X bvs).holds w) {i : Nat} {es : List Ent} {bv : Value} (hx : X[i]? = some es) (hb : bvs[i]? = some bv) : w.ownsRow 0 te 2 bv es.length (entCells es) := by
  refine h.1 (Res.row te 2 bv es.length (entCells es)) (List.mem_cons_of_mem _ (List.mem_cons_of_mem _ ?_))
  rw [blkRes_split te (ixS_len h) hb hx]
  simp
theorem owns_ok {w : World} {e : TypeId} {size n c : Nat} {ad : Option Addr} {xs : List Value} (h : w.ownsRow 0 e size (.slice ad n c) n xs) : SliceOk ad n c := by
  rcases h.2 with ⟨h1, h2⟩ | ⟨g, cap, cur, h1, -, hg, h3, h4, -, -⟩
  · simp only [Value.slice.injEq] at h1
    obtain ⟨rfl, -, rfl⟩ := h1
    exact ⟨by omega, by simp, fun _ => rfl⟩
  simp only [Value.slice.injEq] at h1
  obtain ⟨rfl, -, rfl⟩ := h1
  exact ⟨h3, h4, fun h => by cases h⟩
theorem ixS_facts (hv : Inv B H w) (hm : ixS ti tb te p v n X bvs ∈ H) : ∃ ad c, v = .slice ad X.length c ∧ SliceOk ad X.length c ∧ Reads B [ixS ti tb te p v n X bvs] p 0 [v, .int .i64 n] ∧ RdW B [ixS ti tb te p v n X bvs] ad bvs ∧ BlksAt B [ixS ti tb te p v n X bvs] X bvs := by
  have hh := hv.own _ hm
  have hlen := ixS_len hh
  have hone : ∀ {K : List Res}, (∀ r ∈ [ixS ti tb te p v n X bvs], r ∈ K) → ixS ti tb te p v n X bvs ∈ K := fun h => h _ (List.mem_singleton.2 rfl)
  obtain ⟨ad, c, rfl⟩ := row_slice (ixS_row hh)
  refine ⟨ad, c, rfl, owns_ok (ixS_row hh), fun C K w' _ hR hv' j x hj => ?_, fun i hi => ?_, hlen, fun i es hes => ?_⟩
  · rw [Blk.cell (ixS_cell (hv'.own _ (hone hR))), Nat.zero_add]; exact hj
  · obtain ⟨b, rfl⟩ := row_some (ixS_row hh) (by omega)
    exact ⟨b, 0, rfl, fun C K w' _ hR hv' => row_load (ixS_row (hv'.own _ (hone hR))) (List.getElem?_eq_getElem hi)⟩
  have hi := (List.getElem?_eq_some_iff.1 hes).1
  obtain ⟨bv, hbv⟩ : ∃ bv, bvs[i]? = some bv := ⟨_, List.getElem?_eq_getElem (by omega)⟩
  obtain ⟨ad', c', rfl⟩ := row_slice (ixS_blk hh hes hbv)
  refine ⟨ad', c', hbv, owns_ok (ixS_blk hh hes hbv), fun k hk => ?_⟩
  have hk2 := hk
  rw [entCells_len] at hk2
  obtain ⟨b, rfl⟩ := row_some (ixS_blk hh hes hbv) (by omega)
  exact ⟨b, 0, rfl, fun C K w' _ hR hv' => row_load (ixS_blk (hv'.own _ (hone hR)) hes hbv) (List.getElem?_eq_getElem hk)⟩
theorem Inv.ixOpen (hv : Inv B (ixS ti tb te p v n X bvs :: H) w) {i : Nat} {es : List Ent} (hes : X[i]? = some es) (hne : es ≠ []) : ∃ a ca b c, v = .slice (some ⟨a, 0, none⟩) X.length ca ∧ bvs.length = X.length ∧ bvs[i]? = some (.slice (some ⟨b, 0, none⟩) es.length c) ∧
    Inv B (Res.row te 2 (.slice (some ⟨b, 0, none⟩) es.length c) es.length (entCells es) :: Res.cell p [v, .int .i64 n] ti :: Res.row tb 1 v X.length bvs :: (blkRes te (bvs.take i) (X.take i) ++ (blkRes te (bvs.drop (i + 1)) (X.drop (i + 1)) ++ H))) w := by
  have hh := hv.head
  have hlen := ixS_len hh
  have hi := (List.getElem?_eq_some_iff.1 hes).1
  obtain ⟨ad, ca, rfl⟩ := row_slice (ixS_row hh)
  obtain ⟨a, rfl⟩ := row_some (ixS_row hh) (by omega)
  obtain ⟨bv, hbv⟩ : ∃ bv, bvs[i]? = some bv := ⟨_, List.getElem?_eq_getElem (by omega)⟩
  obtain ⟨ad', c, rfl⟩ := row_slice (ixS_blk hh hes hbv)
  obtain ⟨b, rfl⟩ := row_some (ixS_blk hh hes hbv) (List.length_pos_iff.2 hne)
  refine ⟨a, ca, b, c, rfl, hlen, hbv, ?_⟩
  have h1 := hv.unstar
  rw [blkRes_split te hlen hbv hes] at h1
  refine h1.perm ?_
  have := (List.perm_append_comm (l₁ := [Res.row te 2 (.slice (some ⟨b, 0, none⟩) es.length c) es.length (entCells es)]) (l₂ := Res.cell p [.slice (some ⟨a, 0, none⟩) X.length ca, .int .i64 n] ti :: Res.row tb 1 (.slice (some ⟨a, 0, none⟩) X.length ca) X.length bvs :: blkRes te (bvs.take i) (X.take i))).append_right (blkRes te (bvs.drop (i + 1)) (X.drop (i + 1)) ++ H)
  simpa only [List.append_assoc, List.cons_append, List.nil_append] using this.symm
theorem Inv.ixClose1 {i : Nat} {es' : List Ent} {bv' v' : Value} {n' : Int} (hlen : bvs.length = X.length) (hi : i < X.length)
    (hv : Inv B (Res.row te 2 bv' es'.length (entCells es') :: Res.cell p [v', .int .i64 n'] ti :: Res.row tb 1 v' X.length (bvs.set i bv') :: (blkRes te (bvs.take i) (X.take i) ++ (blkRes te (bvs.drop (i + 1)) (X.drop (i + 1)) ++ H))) w) : Inv B (ixS ti tb te p v' n' (X.set i es') (bvs.set i bv') :: H) w := by
  refine Inv.star (hv.perm ?_)
  have := (List.perm_append_comm (l₁ := [Res.row te 2 bv' es'.length (entCells es')]) (l₂ := Res.cell p [v', .int .i64 n'] ti :: Res.row tb 1 v' X.length (bvs.set i bv') :: blkRes te (bvs.take i) (X.take i))).append_right (blkRes te (bvs.drop (i + 1)) (X.drop (i + 1)) ++ H)
  have hsp := blkRes_split te (bvs := bvs.set i bv') (X := X.set i es') (i := i) (bv := bv') (es := es') (by rw [List.length_set, List.length_set, hlen]) (by rw [List.getElem?_set_self (by omega)]) (by rw [List.getElem?_set_self hi])
  rw [List.take_set_of_le (Nat.le_refl _), List.take_set_of_le (Nat.le_refl _), List.drop_set_of_lt (by omega), List.drop_set_of_lt (by omega)] at hsp
  rw [hsp, List.length_set]
  simpa only [List.append_assoc, List.cons_append, List.nil_append] using this
theorem set_mid {α : Type} {l : List α} {i : Nat} (hi : i < l.length) (x y : α) : (l.take (i + 1) ++ [x] ++ l.drop (i + 1)).set i y = l.take i ++ y :: x :: l.drop (i + 1) := by
  have h1 : l.take (i + 1) = l.take i ++ [l[i]] := take_next (List.getElem?_eq_getElem hi)
  have h2 : (l.take i).length = i := by rw [List.length_take]; omega
  rw [h1, List.append_assoc, List.append_assoc, List.set_append_right _ _ (by omega), h2, Nat.sub_self]
  rfl
theorem Inv.ixClose2 {i : Nat} {e1 e2 : List Ent} {b1 b2 v' : Value} {n' : Int} (hlen : bvs.length = X.length) (hi : i < X.length)
    (hv : Inv B (Res.row te 2 b1 e1.length (entCells e1) :: Res.row te 2 b2 e2.length (entCells e2) :: Res.cell p [v', .int .i64 n'] ti :: Res.row tb 1 v' (X.length + 1) ((bvs.take (i + 1) ++ [b2] ++ bvs.drop (i + 1)).set i b1) :: (blkRes te (bvs.take i) (X.take i) ++ (blkRes te (bvs.drop (i + 1)) (X.drop (i + 1)) ++ H))) w) : Inv B (ixS ti tb te p v' n' (X.take i ++ e1 :: e2 :: X.drop (i + 1)) (bvs.take i ++ b1 :: b2 :: bvs.drop (i + 1)) :: H) w := by
  rw [set_mid (by omega)] at hv
  refine Inv.star (hv.perm ?_)
  have := (List.perm_append_comm (l₁ := [Res.row te 2 b1 e1.length (entCells e1), Res.row te 2 b2 e2.length (entCells e2)]) (l₂ := Res.cell p [v', .int .i64 n'] ti :: Res.row tb 1 v' (X.length + 1) (bvs.take i ++ b1 :: b2 :: bvs.drop (i + 1)) :: blkRes te (bvs.take i) (X.take i))).append_right (blkRes te (bvs.drop (i + 1)) (X.drop (i + 1)) ++ H)
  rw [blkRes_append te (bvs.take i) (X.take i) _ _ (by rw [List.length_take, List.length_take, hlen])]
  have hl : (X.take i ++ e1 :: e2 :: X.drop (i + 1)).length = X.length + 1 := by simp only [List.length_append, List.length_take, List.length_cons, List.length_drop]; omega
  rw [hl]
  simpa only [List.append_assoc, List.cons_append, List.nil_append, blkRes] using this
end
end Go.Pm
