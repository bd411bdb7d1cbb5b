/- append(nil, make([]T, n)...); slices.Compact over a row of one's own. -/
import Derived.Test.YtoljdfjnannakaaGreatDoorCsFauB
import Derived.Test.YtoljdfjnannakaaGreatDoorCsFauD
import Derived.Test.YtoljdfjnannakaaGreatDoorCsFauC
import Derived.Test.YtoljdfjnannakaaGreatDoorRows
set_option maxRecDepth 100000
set_option maxHeartbeats 16000000
namespace Go.Pm
open Go.RowKit
section
variable {F : Fence} {n : Nat} {P : Program} {ops : Array Oper} {Q : Exit → Act → World → Prop} {a : Act} {w : World} {rest : List Oper} {o : Oper} {zv : Value} {B : Base} {H : List Res} {t e u : TypeId} {x y : Operand} {bytes size : Nat}
theorem sl_appendZ0 {k : Nat} {kn : IntKind} (hF : ∀ f, F.fn f) (hg : Region.wanted o (yielded ops a.tmps) = true) (ho : o.op = .call { callee := .builtin .append, args := #[x, y], argTypes := #[t, u] }) (hx : a.eval x = .slice none 0 0) (hy : a.eval y = .int .i64 (k : Int)) (E : Elem P t e zv size bytes) (hu : P.underlying u = some (.int kn))
  (hv : Inv B H w) (h0 : 0 < k) (h63 : k ≤ 100000000) (hbytes : k * bytes ≤ 140737488355328)
  (h : ∀ b c' zs w', k ≤ c' → c' ≤ maxLen → zs.length = c' * size → Inv B (Res.cell b zs e :: H) w' → wpListIn F n P ops Q rest (a.put o.dst (.slice (some ⟨b, 0, none⟩) k c')) w') : wpListIn F n P ops Q (o :: rest) a w := by
 obtain ⟨ht, ⟨i, hi, hz, hs, hby⟩, hzs, hpos⟩ := E
 have hr := Lib.run_append_nil_zeros (P := P) w t u o.type e i zv .i64 kn ht hu hi hz k h0 (by omega) (by omega) (by rw [hby]; omega)
 have hex : Ex P a o w _ _ := show (execOp a.eval o).run P w = _ by
  simp only [execOp, ho, resolve, invoke, builtin, List.map_toArray, List.map_cons, List.map_nil, hx, hy, Sem.run_bind, Sem.run_pure, Result.andThen_ok, hr]
  rfl
 have hge := grownCap_ge w k 0 e
 refine wpi_exG hF hg (by unfold isDefer; rw [ho]) hex (h w.drew.heap.size (grownCap w k 0 e) ((Builtin.zeroCells zv.cells k).toList ++ (Builtin.zeroCells zv.cells (grownCap w k 0 e - k)).toList) _ hge (grownCap_le_maxLen w k 0 e (by unfold maxLen; omega)) ?_ ?_)
 ·simp only [List.length_append, Array.length_toList, size_zeroCells, hzs, ← Nat.add_mul]
  congr 1; omega
 have := hv.drew.alloc ((Builtin.zeroCells zv.cells k).toList ++ (Builtin.zeroCells zv.cells (grownCap w k 0 e - k)).toList) e
 rw [show ((Builtin.zeroCells zv.cells k).toList ++ (Builtin.zeroCells zv.cells (grownCap w k 0 e - k)).toList).toArray = Builtin.zeroCells zv.cells k ++ Builtin.zeroCells zv.cells (grownCap w k 0 e - k) from Array.ext' (by simp)] at this
 exact this
end
end Go.Pm
namespace Go.Proofs.YtoljdfjnannakaaGreatDoor
open Go.RowKit Go.Pm Go.Sort Go.Shelf
theorem compactSorted (B : Base) (H : List Res) (w : World) (v : Value) (l : List (List UInt8)) (hm : l.length ≤ 1000000) (hso : l.Pairwise (fun a b => leB a b = true)) (hv : Pm.Inv B (Res.row keyT 1 v l.length (textCells l) :: H) w) :
  Calls Tryz.prog 102 #[v] w fun e w' => ∃ C ad c out, B.Le C ∧ e = .returned (.slice ad out.length c) ∧ SliceOk ad out.length c ∧ RdV C [] ad (textCells out) ∧ SortedT out ∧ (∀ x, x ∈ out ↔ x ∈ l) ∧ out.length ≤ l.length ∧ Pm.Inv C H w' := by
 rcases (hv.head : w.ownsRow 0 keyT 1 v l.length (textCells l)).2 with ⟨rfl, hz⟩ | ⟨g, cap, cur, rfl, h0, hgb, r1, r2, r3, r4⟩
 ·have hl : l = [] := List.eq_nil_of_length_eq_zero hz
  subst hl
  refine (Any.slices_Compact_string_empty Tryz.laysCompact none 0 w).mono ?_
  rintro e w' ⟨rfl, rfl⟩
  exact ⟨B, none, 0, [], Base.Le.refl _, rfl, ⟨Nat.le_refl _, Nat.zero_le _, fun _ => rfl⟩, rdV_nil, List.Pairwise.nil, fun x => Iff.rfl, Nat.le_refl _, hv.drop⟩
 have hH : Holds encStr w g 0 l.toArray := holds_of_block hgb (by rw [Nat.mul_one] at r4; exact r4)
 refine (Any.slices_Compact_string_arr Tryz.laysCompact g 0 cap l.toArray w hH (by simp; omega) (by simpa using r1)).mono ?_
 rintro e w' ⟨rfl, q, rfl⟩
 obtain ⟨hs1, hs2⟩ := compact_sorted hso l.length (Nat.le_refl _)
 have hsz : l.toArray.size = l.length := by simp
 rw [hsz]
 have hle0 : (Lib.compactUpTo l.toArray l.length).length ≤ l.length := by
  unfold Lib.compactUpTo
  rw [List.length_map]
  exact Nat.le_trans (List.length_filter_le _ _) (by simp)
 obtain ⟨out, hout⟩ : ∃ o, Lib.compactUpTo l.toArray l.length = o := ⟨_, rfl⟩
 rw [hout] at hs1 hs2 hle0 ⊢
 obtain ⟨ts, hts⟩ : ∃ ts, ts = out ++ List.replicate (l.length - out.length) [] := ⟨_, rfl⟩
 have htl : ts.length = l.length := by rw [hts, List.length_append, List.length_replicate]; omega
 rw [← hts, ← grow_empty (putRow encStr (Sort.ahead w q) g 0 ts.toArray)]
 have hgr := grownBy_sorted (w := w) (g := g) (n := q) (os := #[]) ts.toArray
 have hr := ownsRow_sorted (n := q) (os := #[]) (ss := l) (ts := ts) htl h0 hgb r1 r2 r3
 have hr2 : (grow (putRow encStr (Sort.ahead w q) g 0 ts.toArray) #[]).ownsRow 0 keyT 1 (.slice (some ⟨g, 0, none⟩) out.length cap) out.length (textCells out) := by
  rcases hr.2 with ⟨h, -⟩ | ⟨g', cap', cur', h1, h2, h3, h4, h5, h6, h7⟩
  ·cases h
  simp only [Value.slice.injEq, Option.some.injEq, Addr.mk.injEq] at h1
  obtain ⟨⟨rfl, -, -⟩, -, rfl⟩ := h1
  refine ⟨by simp [textCells], .inr ⟨g, cap, cur', rfl, h2, h3, by omega, h5, h6, ?_⟩⟩
  have h8 := congrArg (List.take out.length) h7
  rw [List.take_take, Nat.mul_one, Nat.min_eq_left hle0, hts, List.map_append, List.take_left' (by simp)] at h8
  rw [Nat.mul_one]; exact h8
 have hv2 := hv.upd (Res.row keyT 1 (.slice (some ⟨g, 0, none⟩) out.length cap) out.length (textCells out)) ⟨hgr.os, hgr.tape, hgr.output, hgr.size, fun k hk hn => hgr.block k hk (fun e => hn (by cases e; simp [Value.ownBlock]))⟩ hr2 (fun b hb => .inl hb) (fun b hb => Nat.lt_of_lt_of_le (hv.headLt b hb) hgr.size) (by simp [Value.ownBlock])
 obtain ⟨C, hC, hv3, hrd, hok, -⟩ := hv2.rowBy
 exact ⟨C, _, _, out, hC, rfl, hok, hrd, hs1, fun x => by rw [hs2, List.take_length], hle0, hv3⟩
end Go.Proofs.YtoljdfjnannakaaGreatDoor
namespace Go.Pm
open Go.RowKit
structure KeyR where
 name : List UInt8
 val : Val
 exp : Int
abbrev krCells (v : KeyR) (p t z : Value) : List Value := [strV v.name, .int .i64 v.val.kind, strV v.val.text, p, t, z, .int .i64 v.exp]
theorem krCells_one {B : Base} {v : KeyR} {p t z : Value} (h : ValAt B v.val p t z) : ∀ u ∈ krCells v p t z, u.oneCell' = true := by
 intro u hu
 simp only [List.mem_cons, List.not_mem_nil, or_false] at hu
 rcases hu with rfl | rfl | rfl | rfl | rfl | rfl | rfl
 ·rfl
 ·rfl
 ·rfl
 ·exact h.p.one
 ·exact h.t.one
 ·exact h.z.one
 rfl
def KeysAt (B : Base) : List KeyR → List Value → Prop
 | [], xs => xs = []
 | v :: l, xs => ∃ p t z r, xs = krCells v p t z ++ r ∧ ValAt B v.val p t z ∧ KeysAt B l r
theorem KeysAt.more {B C : Base} (hB : B.Le C) : ∀ {l : List KeyR} {xs : List Value}, KeysAt B l xs → KeysAt C l xs
 | [], _, h => h
 | _ :: _, _, ⟨p, t, z, r, h1, h2, h3⟩ => ⟨p, t, z, r, h1, h2.more hB, KeysAt.more hB h3⟩
theorem KeysAt.append {B : Base} {k : List KeyR} {ys : List Value} (hk : KeysAt B k ys) : ∀ {l : List KeyR} {xs : List Value}, KeysAt B l xs → KeysAt B (l ++ k) (xs ++ ys)
 | [], xs, h => by
  cases (show xs = [] from h)
  exact hk
 | v :: l, xs, ⟨p, t, z, r, h1, h2, h3⟩ => by
  subst h1
  exact ⟨p, t, z, r ++ ys, by rw [List.append_assoc], h2, KeysAt.append hk h3⟩
theorem KeysAt.single {B : Base} {v : KeyR} {p t z : Value} (h : ValAt B v.val p t z) : KeysAt B [v] (krCells v p t z) := ⟨p, t, z, [], by simp, h, rfl⟩
theorem KeysAt.len {B : Base} : ∀ {l : List KeyR} {xs : List Value}, KeysAt B l xs → xs.length = l.length * 7
 | [], xs, h => by cases (show xs = [] from h); rfl
 | v :: l, xs, ⟨p, t, z, r, h1, h2, h3⟩ => by
  subst h1
  rw [List.length_append, KeysAt.len h3]
  show 7 + l.length * 7 = (l.length + 1) * 7
  omega
theorem KeysAt.one {B : Base} : ∀ {l : List KeyR} {xs : List Value}, KeysAt B l xs → ∀ u ∈ xs, u.oneCell' = true
 | [], xs, h, u, hu => by cases (show xs = [] from h); cases hu
 | v :: l, xs, ⟨p, t, z, r, h1, h2, h3⟩, u, hu => by
  subst h1
  rcases List.mem_append.1 hu with h | h
  ·exact krCells_one h2 u h
  exact KeysAt.one h3 u h
theorem KeysAt.get {B : Base} : ∀ {l : List KeyR} {xs : List Value}, KeysAt B l xs → ∀ i (hi : i < l.length), ∃ p t z, ValAt B l[i].val p t z ∧ ∀ j, j < 7 → (krCells l[i] p t z)[j]? = (xs.drop (i * 7))[j]?
 | [], xs, h, i, hi => by simp at hi
 | v :: l, xs, ⟨p, t, z, r, h1, h2, h3⟩, i, hi => by
  subst h1
  cases i with
  | zero => exact ⟨p, t, z, h2, fun j hj => by rw [Nat.zero_mul, List.drop_zero, List.getElem?_append_left hj]; rfl⟩
  | succ i =>
   obtain ⟨p', t', z', e1, e2⟩ := KeysAt.get h3 i (by simpa using hi)
   refine ⟨p', t', z', e1, fun j hj => (e2 j hj).trans ?_⟩
   rw [show (i + 1) * 7 = i * 7 + 7 by rw [Nat.succ_mul], Nat.add_comm, ← List.drop_drop]
   rfl
theorem KeysAt.take {B : Base} : ∀ {l : List KeyR} {xs : List Value}, KeysAt B l xs → ∀ i, KeysAt B (l.take i) (xs.take (i * 7))
 | [], xs, h, i => by cases (show xs = [] from h); simp [KeysAt]
 | v :: l, xs, ⟨p, t, z, r, h1, h2, h3⟩, i => by
  subst h1
  cases i with
  | zero => simp [KeysAt]
  | succ i =>
   refine ⟨p, t, z, r.take (i * 7), ?_, h2, KeysAt.take h3 i⟩
   rw [show (i + 1) * 7 = i * 7 + 7 by rw [Nat.succ_mul], List.take_append]
   show List.take (i * 7 + 7) (krCells v p t z) ++ List.take (i * 7 + 7- 7) r = _
   rw [List.take_of_length_le (by show 7 ≤ _; omega), Nat.add_sub_cancel]
theorem KeysAt.drop {B : Base} : ∀ {l : List KeyR} {xs : List Value}, KeysAt B l xs → ∀ i, KeysAt B (l.drop i) (xs.drop (i * 7))
 | [], xs, h, i => by cases (show xs = [] from h); simp [KeysAt]
 | v :: l, xs, ⟨p, t, z, r, h1, h2, h3⟩, i => by
  subst h1
  cases i with
  | zero => exact ⟨p, t, z, r, by simp, h2, h3⟩
  | succ i =>
   rw [show (i + 1) * 7 = i * 7 + 7 by rw [Nat.succ_mul], Nat.add_comm, ← List.drop_drop]
   exact KeysAt.drop h3 i
theorem KeysAt.reads {B : Base} {l : List KeyR} {xs : List Value} {ad : Option Addr} {i : Nat} {x : KeyR} (h : KeysAt B l xs) (hr : RdV B [] ad xs) (hx : l[i]? = some x) : ∃ b off p t z, ad = some ⟨b, off, none⟩ ∧ ValAt B x.val p t z ∧ Reads B [] b (off + i * 7) (krCells x p t z) := by
 obtain ⟨hi, rfl⟩ := List.getElem?_eq_some_iff.1 hx
 obtain ⟨p, t, z, h1, h2⟩ := h.get i hi
 have hl := h.len
 have hle : i * 7 + 7 ≤ xs.length := by rw [hl]; have := Nat.mul_le_mul_right 7 (show i + 1 ≤ l.length by omega); rw [Nat.succ_mul] at this; exact this
 obtain ⟨b, off, h3, h4⟩ := rdW_reads (cs := krCells l[i] p t z) (k := i * 7) (m := 7) (hr.rdW []) hle (by decide) rfl (fun j hj => by
  rw [h2 j hj, List.getElem?_drop])
 exact ⟨b, off, p, t, z, h3, h1, h4⟩
theorem KeysAt.reads2 {B : Base} {l : List KeyR} {xs : List Value} {ad : Option Addr} {i : Nat} {x : KeyR} (h : KeysAt B l xs) (hr : RdV B [] ad xs) (hx : l[i]? = some x) : ∃ b off p t z, ad = some ⟨b, off, none⟩ ∧ ValAt B x.val p t z ∧ Reads B [] b (off + i * 7) (krCells x p t z) ∧ (xs.drop (i * 7)).take 7 = krCells x p t z := by
 obtain ⟨hi, rfl⟩ := List.getElem?_eq_some_iff.1 hx
 obtain ⟨p, t, z, h1, h2⟩ := h.get i hi
 have hl := h.len
 have hle : i * 7 + 7 ≤ xs.length := by rw [hl]; have := Nat.mul_le_mul_right 7 (show i + 1 ≤ l.length by omega); rw [Nat.succ_mul] at this; exact this
 obtain ⟨b, off, h3, h4⟩ := rdW_reads (cs := krCells l[i] p t z) (k := i * 7) (m := 7) (hr.rdW []) hle (by decide) rfl (fun j hj => by
  rw [h2 j hj, List.getElem?_drop])
 refine ⟨b, off, p, t, z, h3, h1, h4, List.ext_getElem? fun j => ?_⟩
 rcases Nat.lt_or_ge j 7 with hj | hj
 ·rw [List.getElem?_take_of_lt hj, h2 j hj]
 rw [List.getElem?_eq_none (by rw [List.length_take, List.length_drop]; omega), List.getElem?_eq_none (by show 7 ≤ j; omega)]
theorem KeysAt.next {B : Base} {l : List KeyR} {i : Nat} {x : KeyR} {ys : List Value} {p t z : Value} (h : KeysAt B (l.take i) ys) (hx : l[i]? = some x) (hv : ValAt B x.val p t z) : KeysAt B (l.take (i + 1)) (ys ++ krCells x p t z) := by
 rw [take_next hx]
 exact KeysAt.append (KeysAt.single hv) h
inductive Rp where
 | mk (kind : Int) (s : List UInt8) (n : Int) (l : List Rp)
def Rp.kind : Rp → Int
 | .mk k _ _ _ => k
abbrev rpCells (k : Int) (s : List UInt8) (n : Int) (v : Value) : List Value := [.int .i64 k, strV s, .int .i64 n, v]
mutual
def RpAt (B : Base) : Rp → List Value → Prop
 | .mk k s n l, cs => ∃ v xs, cs = rpCells k s n v ∧ RowB B v l.length xs ∧ RpsAt B l xs
def RpsAt (B : Base) : List Rp → List Value → Prop
 | [], xs => xs = []
 | r :: l, xs => ∃ cs ys, xs = cs ++ ys ∧ RpAt B r cs ∧ RpsAt B l ys
end
mutual
theorem RpAt.more {B C : Base} (hB : B.Le C) : ∀ {r : Rp} {cs : List Value}, RpAt B r cs → RpAt C r cs
 | .mk _ _ _ _, _, h => by
  simp only [RpAt] at h ⊢
  obtain ⟨v, xs, h1, h2, h3⟩ := h
  exact ⟨v, xs, h1, h2.more hB, RpsAt.more hB h3⟩
theorem RpsAt.more {B C : Base} (hB : B.Le C) : ∀ {l : List Rp} {xs : List Value}, RpsAt B l xs → RpsAt C l xs
 | [], _, h => by simp only [RpsAt] at h ⊢; exact h
 | _ :: _, _, h => by
  simp only [RpsAt] at h ⊢
  obtain ⟨cs, ys, h1, h2, h3⟩ := h
  exact ⟨cs, ys, h1, RpAt.more hB h2, RpsAt.more hB h3⟩
end
theorem RpAt.len {B : Base} {r : Rp} {cs : List Value} (h : RpAt B r cs) : cs.length = 4 := by
 cases r; simp only [RpAt] at h
 obtain ⟨v, xs, rfl, -⟩ := h; rfl
theorem RpsAt.nil {B : Base} : RpsAt B [] [] := by simp only [RpsAt]
theorem RpsAt.cons {B : Base} {r : Rp} {l : List Rp} {cs ys : List Value} (h1 : RpAt B r cs) (h2 : RpsAt B l ys) : RpsAt B (r :: l) (cs ++ ys) := by
 simp only [RpsAt]; exact ⟨cs, ys, rfl, h1, h2⟩
theorem RpsAt.uncons {B : Base} {r : Rp} {l : List Rp} {xs : List Value} (h : RpsAt B (r :: l) xs) : ∃ cs ys, xs = cs ++ ys ∧ RpAt B r cs ∧ RpsAt B l ys := by
 simp only [RpsAt] at h; exact h
theorem RpsAt.append {B : Base} {k : List Rp} {ys : List Value} (hk : RpsAt B k ys) : ∀ {l : List Rp} {xs : List Value}, RpsAt B l xs → RpsAt B (l ++ k) (xs ++ ys)
 | [], xs, h => by
  simp only [RpsAt] at h; subst h; exact hk
 | r :: l, xs, h => by
  obtain ⟨cs, zs, rfl, h1, h2⟩ := h.uncons
  rw [List.append_assoc]
  exact RpsAt.cons h1 (RpsAt.append hk h2)
theorem RpsAt.single {B : Base} {r : Rp} {cs : List Value} (h : RpAt B r cs) : RpsAt B [r] cs := by
 have := RpsAt.cons h (RpsAt.nil (B := B))
 rwa [List.append_nil] at this
theorem RpsAt.len {B : Base} : ∀ {l : List Rp} {xs : List Value}, RpsAt B l xs → xs.length = l.length * 4
 | [], xs, h => by simp only [RpsAt] at h; subst h; rfl
 | r :: l, xs, h => by
  obtain ⟨cs, zs, rfl, h1, h2⟩ := h.uncons
  rw [List.length_append, RpsAt.len h2, h1.len, List.length_cons]; omega
theorem RpsAt.get {B : Base} : ∀ {l : List Rp} {xs : List Value}, RpsAt B l xs → ∀ i (hi : i < l.length), ∃ cs, RpAt B l[i] cs ∧ ∀ j, j < 4 → cs[j]? = (xs.drop (i * 4))[j]?
 | [], _, _, i, hi => by simp at hi
 | r :: l, xs, h, i, hi => by
  obtain ⟨cs, zs, rfl, h1, h2⟩ := h.uncons
  cases i with
  | zero => exact ⟨cs, h1, fun j hj => by rw [Nat.zero_mul, List.drop_zero, List.getElem?_append_left (by rw [h1.len]; exact hj)]⟩
  | succ i =>
   obtain ⟨cs', e1, e2⟩ := RpsAt.get h2 i (by simpa using hi)
   refine ⟨cs', e1, fun j hj => (e2 j hj).trans ?_⟩
   rw [show (i + 1) * 4 = cs.length + i * 4 by rw [h1.len, Nat.succ_mul]; omega, ← List.drop_drop, List.drop_left]
theorem RpsAt.reads {B : Base} {l : List Rp} {xs : List Value} {ad : Option Addr} {i : Nat} {k : Int} {s : List UInt8} {n : Int} {q : List Rp} (h : RpsAt B l xs) (hr : RdV B [] ad xs) (hx : l[i]? = some (.mk k s n q)) :
  ∃ b off v ys, ad = some ⟨b, off, none⟩ ∧ RowB B v q.length ys ∧ RpsAt B q ys ∧ Reads B [] b (off + i * 4) (rpCells k s n v) := by
 obtain ⟨hi, hx⟩ := List.getElem?_eq_some_iff.1 hx
 obtain ⟨cs, h1, h2⟩ := h.get i hi
 rw [hx] at h1
 simp only [RpAt] at h1
 obtain ⟨v, ys, rfl, h3, h4⟩ := h1
 have hl := h.len
 have hle : i * 4 + 4 ≤ xs.length := by rw [hl]; have := Nat.mul_le_mul_right 4 (show i + 1 ≤ l.length by omega); rw [Nat.succ_mul] at this; exact this
 obtain ⟨b, off, h5, h6⟩ := rdW_reads (cs := rpCells k s n v) (k := i * 4) (m := 4) (hr.rdW []) hle (by decide) rfl (fun j hj => by
  rw [h2 j hj, List.getElem?_drop])
 exact ⟨b, off, v, ys, h5, h3, h4, h6⟩
def rInt (n : Int) : Rp := .mk 2 [] n []
def rStr (s : List UInt8) : Rp := .mk 3 s 0 []
def rText (s : List UInt8) : Rp := .mk 0 s 0 []
def rFault (s : List UInt8) : Rp := .mk 1 s 0 []
def rList (l : List Rp) : Rp := .mk 5 [] 0 l
def rStrs (l : List (List UInt8)) : Rp := rList (l.map rStr)
theorem RpAt.lv {B : Base} {r : Rp} {k : Int} {s : List UInt8} {n : Int} {v : Value} (h : RpAt B r (rpCells k s n v)) : v.cells = #[v] ∧ v.oneCell' = true := by
 cases r; simp only [RpAt] at h
 obtain ⟨v2, xs, h1, h2, -⟩ := h
 simp only [List.cons.injEq, and_true] at h1
 obtain ⟨-, -, -, rfl⟩ := h1
 exact ⟨h2.cells, h2.one⟩
theorem rpAt_leaf {B : Base} {k : Int} {s : List UInt8} {n : Int} : RpAt B (.mk k s n []) (rpCells k s n (.slice none 0 0)) := by
 simp only [RpAt]
 exact ⟨_, [], rfl, ⟨none, 0, rfl, ⟨Nat.le_refl _, Nat.zero_le _, fun _ => rfl⟩, rdV_nil⟩, RpsAt.nil⟩
theorem rpAt_of {B : Base} {k : Int} {s : List UInt8} {n : Int} {l : List Rp} {v : Value} {xs : List Value} (h1 : RowB B v l.length xs) (h2 : RpsAt B l xs) : RpAt B (.mk k s n l) (rpCells k s n v) := by
 simp only [RpAt]; exact ⟨v, xs, rfl, h1, h2⟩
def strsCells (l : List (List UInt8)) : List Value := l.flatMap fun s => rpCells 3 s 0 (.slice none 0 0)
theorem strsCells_at {B : Base} : ∀ (l : List (List UInt8)), RpsAt B (l.map rStr) (strsCells l)
 | [] => RpsAt.nil
 | s :: l => RpsAt.cons (rpAt_leaf (k := 3) (s := s) (n := 0)) (strsCells_at l)
theorem strsCells_next {l : List (List UInt8)} {i : Nat} {x : List UInt8} (h : l[i]? = some x) : strsCells (l.take (i + 1)) = strsCells (l.take i) ++ rpCells 3 x 0 (.slice none 0 0) := by
 rw [take_next h]; unfold strsCells; rw [List.flatMap_append]; rfl
section
variable {α : Type} {f : α → List Value} {k : Nat}
theorem rowk_len (hk : ∀ x, (f x).length = k) (l : List α) : (l.flatMap f).length = l.length * k := by
 induction l with
 | nil => simp
 | cons a l ih => rw [List.flatMap_cons, List.length_append, ih, hk, List.length_cons, Nat.succ_mul]; omega
theorem rowk_get (hk : ∀ x, (f x).length = k) {l : List α} {i j : Nat} {x : α} (hx : l[i]? = some x) (hj : j < k) : (l.flatMap f)[i * k + j]? = (f x)[j]? := by
 have hi := (List.getElem?_eq_some_iff.1 hx).1
 have h : l = l.take i ++ x :: l.drop (i + 1) := by
  have h9 := (List.take_append_drop i l).symm
  rw [List.drop_eq_getElem_cons hi, (List.getElem?_eq_some_iff.1 hx).2] at h9
  exact h9
 rw [h, List.flatMap_append, List.flatMap_cons, List.getElem?_append_right (by rw [rowk_len hk, List.length_take, Nat.min_eq_left (by omega)]; omega),
  rowk_len hk, List.length_take, Nat.min_eq_left (by omega), Nat.add_sub_cancel_left, List.getElem?_append_left (by rw [hk]; exact hj)]
theorem rowk_reads (hk : ∀ x, (f x).length = k) (h0 : 0 < k) {B : Base} {l : List α} {ad : Option Addr} {i : Nat} {x : α} (hr : RdV B [] ad (l.flatMap f)) (hx : l[i]? = some x) : ∃ b off, ad = some ⟨b, off, none⟩ ∧ Reads B [] b (off + i * k) (f x) := by
 have hi := (List.getElem?_eq_some_iff.1 hx).1
 have hle : i * k + k ≤ l.length * k := by have := Nat.mul_le_mul_right k (show i + 1 ≤ l.length by omega); rw [Nat.succ_mul] at this; exact this
 exact rdW_reads (k := i * k) (m := k) (hr.rdW []) (by rw [rowk_len hk]; exact hle) h0 (hk x) (fun j hj => (rowk_get hk hx hj).symm)
end
def TxsAt (B : Base) : List (List (List UInt8)) → List Value → Prop
 | [], xs => xs = []
 | s :: l, xs => ∃ v ys, xs = v :: ys ∧ RowB B v s.length (textCells s) ∧ TxsAt B l ys
theorem TxsAt.more {B C : Base} (hB : B.Le C) : ∀ {l : List (List (List UInt8))} {xs : List Value}, TxsAt B l xs → TxsAt C l xs
 | [], _, h => h
 | _ :: _, _, ⟨v, ys, h1, h2, h3⟩ => ⟨v, ys, h1, h2.more hB, TxsAt.more hB h3⟩
theorem TxsAt.append {B : Base} {k : List (List (List UInt8))} {ys : List Value} (hk : TxsAt B k ys) : ∀ {l : List (List (List UInt8))} {xs : List Value}, TxsAt B l xs → TxsAt B (l ++ k) (xs ++ ys)
 | [], xs, h => by
  cases (show xs = [] from h)
  exact hk
 | s :: l, xs, ⟨v, zs, h1, h2, h3⟩ => by
  subst h1
  exact ⟨v, zs ++ ys, rfl, h2, TxsAt.append hk h3⟩
theorem TxsAt.single {B : Base} {s : List (List UInt8)} {v : Value} (h : RowB B v s.length (textCells s)) : TxsAt B [s] [v] := ⟨v, [], rfl, h, rfl⟩
theorem TxsAt.len {B : Base} : ∀ {l : List (List (List UInt8))} {xs : List Value}, TxsAt B l xs → xs.length = l.length
 | [], xs, h => by cases (show xs = [] from h); rfl
 | s :: l, xs, ⟨v, zs, h1, h2, h3⟩ => by subst h1; rw [List.length_cons, List.length_cons, TxsAt.len h3]
theorem TxsAt.get {B : Base} : ∀ {l : List (List (List UInt8))} {xs : List Value}, TxsAt B l xs → ∀ {i : Nat} {s : List (List UInt8)}, l[i]? = some s → ∃ v, xs[i]? = some v ∧ RowB B v s.length (textCells s)
 | [], _, _, i, s, h => by simp at h
 | s :: l, xs, ⟨v, zs, h1, h2, h3⟩, i, s', h => by
  subst h1
  cases i with
  | zero => simp at h; subst h; exact ⟨v, rfl, h2⟩
  | succ i => exact TxsAt.get h3 (by simpa using h)
theorem TxsAt.drop {B : Base} : ∀ {l : List (List (List UInt8))} {xs : List Value}, TxsAt B l xs → ∀ i, TxsAt B (l.drop i) (xs.drop i)
 | [], xs, h, i => by cases (show xs = [] from h); simp [TxsAt]
 | s :: l, xs, ⟨v, zs, h1, h2, h3⟩, i => by
  subst h1
  cases i with
  | zero => exact ⟨v, zs, rfl, h2, h3⟩
  | succ i => exact TxsAt.drop h3 i
theorem TxsAt.reads {B : Base} {l : List (List (List UInt8))} {xs : List Value} {ad : Option Addr} {i : Nat} {s : List (List UInt8)} (h : TxsAt B l xs) (hr : RdV B [] ad xs) (hx : l[i]? = some s) : ∃ b off a c, ad = some ⟨b, off, none⟩ ∧ SliceOk a s.length c ∧ RdV B [] a (textCells s) ∧ Reads B [] b (off + i) [.slice a s.length c] := by
 obtain ⟨v, hv, a, c, rfl, hok, hrd⟩ := h.get hx
 have hi := (List.getElem?_eq_some_iff.1 hv).1
 obtain ⟨b, off, h1, h2⟩ := rdW_reads (cs := [.slice a s.length c]) (k := i) (m := 1) (hr.rdW []) (by omega) (by decide) rfl (fun j hj => by
  obtain rfl : j = 0 := by omega
  rw [Nat.add_zero, hv]; rfl)
 exact ⟨b, off, a, c, h1, hok, hrd, h2⟩
end Go.Pm
namespace Go.Proofs.YtoljdfjnannakaaGreatDoor
open Go.RowKit Go.Pm Go.Sort
theorem cmpNan (B : Base) (H : List Res) (w : World) (s : List UInt8) (hv : Inv B H w) :
  Calls Tryz.prog 113 #[vS s] w fun e w' => e = .returned (.bool false) ∧ Inv B H w' := by
 refine cW Tryz.func113 rfl Tryz.ntmps113 ?_
 simp only [al]
 refine sK fun _ k1 => rL (uA rfl ?_)
 refine uW k1 (sK fun _ k2 => ?_)
 refine rL (uM rfl ?_)
 refine uM rfl ?_
 refine uG (.bool false) rfl (ex_sneq rfl rfl rfl (qF (fun h => h rfl))) (uA rfl ?_)
 refine uW k2 (rR ?_)
 refine bR rfl rfl (⟨rfl, hv⟩)
theorem slNan (B : Base) (H : List Res) (w : World) (s : List UInt8) (hv : Inv B H w) :
  Calls Tryz.prog 104 #[vS s] w fun e w' => e = .returned (.bool false) ∧ Inv B H w' := by
 refine cW Tryz.func104 rfl Tryz.ntmps104 ?_
 simp only [al]
 refine sK fun _ k1 => rL (uA rfl ?_)
 refine uW k1 (sK fun _ k2 => ?_)
 refine rL (uM rfl ?_)
 refine uM rfl ?_
 refine uG (.bool false) rfl (ex_sneq rfl rfl rfl (qF (fun h => h rfl))) (uA rfl ?_)
 refine uW k2 (rR ?_)
 refine bR rfl rfl (⟨rfl, hv⟩)
theorem t1callable113 : Callable Tryz.prog 113 := cb Tryz.func113 (by kernel_rfl)
theorem cmpLess (B : Base) (H : List Res) (w : World) (s t : List UInt8) (hv : Inv B H w) :
  Calls Tryz.prog 103 #[vS s, vS t] w fun e w' => e = .returned (.bool (Op.bytesLess s t)) ∧ Inv B H w' := by
 refine cW Tryz.func103 rfl Tryz.ntmps103 ?_
 simp only [al]
 refine sK fun _ k1 => rL (uA rfl ?_)
 refine uW k1 (sK fun _ k2 => ?_)
 refine rL (uM rfl ?_)
 refine xC t1callable113 rfl ((cmpNan B _ _ s hv).mono ?_) rfl
 rintro e w3 ⟨rfl, hv⟩
 refine ⟨_, rfl, uM rfl ?_⟩
 iterate 3 refine uP rfl ?_
 refine uK rfl (uM rfl ?_)
 refine uM rfl ?_
 refine uM rfl ?_
 refine uG (.bool (Op.bytesLess s t)) rfl (ex_slss rfl rfl rfl rfl) (uK rfl ?_)
 refine uA rfl (uW k2 ?_)
 refine rR (bR rfl rfl ?_)
 exact ⟨rfl, hv⟩
theorem t1callable103 : Callable Tryz.prog 103 := cb Tryz.func103 (by kernel_rfl)
theorem t1callable104 : Callable Tryz.prog 104 := cb Tryz.func104 (by kernel_rfl)
theorem binSearch (B : Base) (H : List Res) (w : World) (ad : Option Addr) (c : Nat) (l : List (List UInt8)) (t : List UInt8) (hr : RdV B [] ad (textCells l)) (hm : l.length ≤ 1000000) (hs : SortedT l) (hv : Inv B H w) :
  Calls Tryz.prog 89 #[.slice ad l.length c, vS t] w fun e w' => ∃ (i : Nat) (b : Bool), i ≤ l.length ∧ (∀ (j : Nat) z, j < i → l[j]? = some z → Op.bytesLess z t = true) ∧ (∀ (j : Nat) z, i ≤ j → l[j]? = some z → Op.bytesLess z t = false) ∧ e = .returned (.tuple #[vI i, .bool b]) ∧ (b = true ↔ l[i]? = some t) ∧ Inv B H w' := by
 refine cW Tryz.func89 rfl Tryz.ntmps89 ?_
 simp only [al]
 refine sK fun _ k1 => rL (uA rfl ?_)
 refine uA rfl (uW k1 ?_)
 refine sK fun _ k2 => rL (uM rfl ?_)
 refine uG (vI (l.length : Int)) rfl (ex_len0 Tryz.underlying22 rfl rfl) (uA rfl ?_)
 refine uW k2 (sK fun _ k3 => ?_)
 refine rL (uM rfl ?_)
 refine uA rfl (uA rfl ?_)
 refine uW k3 (sK fun _ k4 => ?_)
 refine bB ?_
 gi_loopw [7, 8] (fun x7 x8 wr => ∃ (lo hi : Nat), x7 = vI lo ∧ x8 = vI hi ∧ lo ≤ hi ∧ hi ≤ l.length ∧ (∀ (j : Nat) z, j < lo → l[j]? = some z → Op.bytesLess z t = true) ∧ (∀ (j : Nat) z, hi ≤ j → l[j]? = some z → Op.bytesLess z t = false) ∧ Inv B H wr) (fun x7 x8 _ => (intOf x8).toNat - (intOf x7).toNat)
 case atStart => exact ⟨0, l.length, rfl, rfl, Nat.zero_le _, Nat.le_refl _, fun j z h => by omega, fun j z h hz => by have := (List.getElem?_eq_some_iff.1 hz).1; omega, hv⟩
 case round =>
  obtain ⟨lo, hi, rfl, rfl, hle, hhi, hlt, hge, hv⟩ := hrel
  refine sK fun _ k6 => sK fun _ k7 => rL (uM rfl ?_)
  refine uM rfl ?_
  by_cases hb8 : (lo : Int) < (hi : Int)
  ·refine uG (.bool true) rfl (ex_lss rfl rfl rfl (qT hb8)) (uW k7 ?_)
   refine cT rfl (kS ?_)
   refine tK k6 (bB ?_)
   refine sK fun _ k9 => rL (uM rfl ?_)
   refine uM rfl ?_
   refine uG (vI ((lo + hi : Nat) : Int)) rfl (ex_add rfl rfl rfl (by rw [i64_in (by omega)]; omega)) ?_
   refine uG (.int .u64 ((lo + hi : Nat) : Int)) rfl (ex_int Tryz.underlying3 Tryz.underlying186 rfl rfl (u64_in (by omega))) ?_
   refine uG (.int .u64 (((lo + hi) / 2 : Nat) : Int)) rfl (ex_shr (m := ((lo + hi : Nat) : Int)) (n := 1) rfl rfl rfl (by decide) (shr1 (lo + hi))) ?_
   refine uG (vI (((lo + hi) / 2 : Nat) : Int)) rfl (ex_int Tryz.underlying186 Tryz.underlying3 rfl rfl (i64_in (by omega))) (uA rfl ?_)
   refine uW k9 (sK fun _ k10 => ?_)
   obtain ⟨y, hy⟩ : ∃ x, l[((lo + hi) / 2 : Nat)]? = some x := ⟨_, List.getElem?_eq_getElem (show ((lo + hi) / 2 : Nat) < l.length by omega)⟩
   obtain ⟨bb, bo, had, hrdy⟩ := text_reads hr hy
   subst had
   refine rL (uM rfl ?_)
   refine uM rfl ?_
   refine uG (.pointer (some ⟨bb, bo + ((lo + hi) / 2 : Nat), none⟩)) rfl (ex_index rfl rfl rfl (run_idx1 (k := ((lo + hi) / 2 : Nat)) Tryz.underlying22 s9es22 (by omega))) ?_
   refine uL _ rfl (run_load1 s9na9 (hrdy _ _ _ (Base.Le.refl _) no_res hv 0 _ rfl)) (uM rfl ?_)
   refine xC t1callable103 rfl ((cmpLess B _ _ y t hv).mono ?_) rfl
   rintro e w11 ⟨rfl, hv⟩
   refine ⟨_, rfl, uW k10 ?_⟩
   refine wpIn_cond_split (t := Op.bytesLess y t) rfl (fun hc12 => ?_) (fun hc12 => ?_)
   ·refine rL (uM rfl ?_)
    refine uG (vI (((lo + hi) / 2 + 1 : Nat) : Int)) rfl (ex_add rfl rfl rfl (by rw [i64_in (by omega)]; omega)) (uA rfl ?_)
    refine uZ (bN ?_)
    refine then_normal ?_
    go_roundw
    case rel => exact ⟨(lo + hi) / 2 + 1, hi, rfl, rfl, by omega, by omega, fun j z hj hz => (by
       rcases Nat.lt_or_ge j ((lo + hi) / 2) with h | h
       ·exact lt_trans _ _ _ (pair_at hs h hz hy) hc12
       obtain rfl : j = (lo + hi) / 2 := by omega
       rw [hy] at hz; cases hz; exact hc12), hge, hv⟩
    case measure => show (((hi : Int)).toNat - ((((lo + hi) / 2 + 1 : Nat) : Int)).toNat) < ((hi : Int)).toNat - ((lo : Int)).toNat; omega
   refine rL (uM rfl ?_)
   refine uA rfl (uZ ?_)
   refine bN (then_normal ?_)
   go_roundw
   case rel => exact ⟨lo, (lo + hi) / 2, rfl, rfl, by omega, by omega, hlt, fun j z hj hz => (by
      rcases Nat.eq_or_lt_of_le hj with h | h
      ·subst h; rw [hy] at hz; cases hz; exact hc12
      exact ge_trans hc12 (pair_at hs h hy hz)), hv⟩
   case measure => show (((((lo + hi) / 2 : Nat) : Int)).toNat - ((lo : Int)).toNat) < ((hi : Int)).toNat - ((lo : Int)).toNat; omega
  refine uG (.bool false) rfl (ex_lss rfl rfl rfl (qF hb8)) (uW k7 ?_)
  refine cF rfl (xE ?_)
  refine tX (tX ?_)
  refine bH (tK k4 ?_)
  refine sK fun _ k13 => ?_
  obtain rfl : hi = lo := by omega
  by_cases hin : hi < l.length
  ·obtain ⟨z, hz⟩ : ∃ x, l[hi]? = some x := ⟨_, List.getElem?_eq_getElem (show hi < l.length by omega)⟩
   obtain ⟨bb, bo, had, hrdz⟩ := text_reads hr hz
   subst had
   refine rL (uM rfl ?_)
   refine uM rfl (uM rfl ?_)
   refine uG (.bool true) rfl (ex_lss rfl rfl rfl (qT (by omega))) (uM rfl ?_)
   refine uM rfl ?_
   refine uM rfl ?_
   refine uG (.pointer (some ⟨bb, bo + hi, none⟩)) rfl (ex_index rfl rfl rfl (run_idx1 (k := hi) Tryz.underlying22 s9es22 (by omega))) ?_
   refine uL _ rfl (run_load1 s9na9 (hrdz _ _ _ (Base.Le.refl _) no_res hv 0 _ rfl)) ?_
   refine uM rfl ?_
   by_cases hb14 : z = t
   ·refine uG (.bool true) rfl (ex_seql rfl rfl rfl (qT hb14)) ?_
    refine uM rfl ?_
    iterate 9 refine uP rfl ?_
    refine uK rfl (uK rfl ?_)
    refine uA rfl (uA rfl ?_)
    refine uW k13 (rR ?_)
    refine bodyPost_ret (results_tmp2 rfl _ _ _) rfl (⟨hi, _, by omega, hlt, hge, rfl, ⟨fun _ => by rw [hz, hb14], fun _ => rfl⟩, hv⟩)
   refine uG (.bool false) rfl (ex_seql rfl rfl rfl (qF hb14)) ?_
   refine uM rfl ?_
   refine uM rfl ?_
   refine uM rfl ?_
   refine uG (.pointer (some ⟨bb, bo + hi, none⟩)) rfl (ex_index rfl rfl rfl (run_idx1 (k := hi) Tryz.underlying22 s9es22 (by omega))) ?_
   refine uL _ rfl (run_load1 s9na9 (hrdz _ _ _ (Base.Le.refl _) no_res hv 0 _ rfl)) ?_
   refine xC t1callable104 rfl ((slNan B _ _ z hv).mono ?_) rfl
   rintro e w15 ⟨rfl, hv⟩
   refine ⟨_, rfl, ?_⟩
   refine uM rfl ?_
   refine uP rfl ?_
   refine uP rfl ?_
   refine uK rfl ?_
   refine uK rfl (uK rfl ?_)
   refine uA rfl (uA rfl ?_)
   refine uW k13 (rR ?_)
   refine bodyPost_ret (results_tmp2 rfl _ _ _) rfl (⟨hi, _, by omega, hlt, hge, rfl, ⟨fun h => (by cases h), fun h => by rw [hz] at h; cases h; exact absurd rfl hb14⟩, hv⟩)
  refine rL (uM rfl ?_)
  refine uM rfl (uM rfl ?_)
  refine uG (.bool false) rfl (ex_lss rfl rfl rfl (qF (by omega))) (uM rfl ?_)
  iterate 17 refine uP rfl ?_
  refine uK rfl (uA rfl ?_)
  refine uA rfl (uW k13 ?_)
  refine rR (bodyPost_ret (results_tmp2 rfl _ _ _) rfl ?_)
  exact ⟨hi, _, by omega, hlt, hge, rfl, ⟨fun h => (by cases h), fun h => by rw [List.getElem?_eq_none (by omega)] at h; cases h⟩, hv⟩
theorem mem_at {l : List (List UInt8)} {t : List UInt8} {i : Nat} {b : Bool} (hlt : ∀ (j : Nat) z, j < i → l[j]? = some z → Op.bytesLess z t = true) (hge : ∀ (j : Nat) z, i ≤ j → l[j]? = some z → Op.bytesLess z t = false) (hs : SortedT l) (hb : b = true ↔ l[i]? = some t) : b = decide (t ∈ l) := by
 rw [Bool.eq_iff_iff, decide_eq_true_iff, hb]
 constructor
 ·intro h; exact List.mem_of_getElem? h
 intro h
 obtain ⟨j, hj⟩ := List.mem_iff_getElem?.1 h
 rcases Nat.lt_or_ge j i with h1 | h1
 ·have := hlt j t h1 hj; rw [lt_irrefl] at this; cases this
 rcases Nat.eq_or_lt_of_le h1 with rfl | h2
 ·exact hj
 obtain ⟨z, hz⟩ : ∃ z, l[i]? = some z := ⟨_, List.getElem?_eq_getElem (by have := (List.getElem?_eq_some_iff.1 hj).1; omega)⟩
 have h3 := hge i z (Nat.le_refl _) hz
 rw [pair_at hs h2 hz hj] at h3; cases h3
theorem t1callable89 : Callable Tryz.prog 89 := cb Tryz.func89 (by kernel_rfl)
theorem setHas (B : Base) (H : List Res) (w : World) (ad : Option Addr) (c : Nat) (l : List (List UInt8)) (t : List UInt8) (hr : RdV B [] ad (textCells l)) (hm : l.length ≤ 1000000) (hs : SortedT l) (hv : Inv B H w) :
  Calls Tryz.prog 67 #[.slice ad l.length c, vS t] w fun e w' => e = .returned (.bool (decide (t ∈ l))) ∧ Inv B H w' := by
 refine cW Tryz.func67 rfl Tryz.ntmps67 ?_
 simp only [al]
 refine sK fun _ k1 => rL (uA rfl ?_)
 refine uW k1 (sK fun _ k2 => ?_)
 refine rL (uM rfl ?_)
 refine uM rfl ?_
 refine xC t1callable89 rfl ((binSearch B _ _ ad c l t hr hm hs hv).mono ?_) rfl
 rintro e w3 ⟨i, b, -, hlt, hge, rfl, hb, hv⟩
 refine ⟨_, rfl, uM rfl ?_⟩
 refine uE rfl (uE rfl ?_)
 refine uA rfl (uA rfl ?_)
 refine uW k2 (sK fun _ k4 => ?_)
 refine rL (uM rfl ?_)
 refine uA rfl (uW k4 ?_)
 refine rR (bR rfl rfl ?_)
 exact ⟨congrArg (fun b => Ending.returned (Value.bool b)) (mem_at hlt hge hs hb), hv⟩
theorem t1mk9 : (Tryz.prog.info? 9).map (fun i => (i.zero, i.size, i.bytes)) = some (some (vS []), 1, 16) := by kernel_rfl
theorem t1el22 : Elem Tryz.prog 22 9 (vS []) 1 16 := elem_of Tryz.underlying22 t1mk9 (by rfl) (by decide)
theorem cloneOwn1 (B : Base) (H : List Res) (w : World) (a : Addr) (n c : Nat) (xs : List Value) (hok : SliceOk (some a) n c) (hl : xs.length = n * 1) (h1 : ∀ u ∈ xs, u.oneCell' = true) (hn : n ≤ 1000000) (hr : RdV B [] (some a) xs) (hv : Inv B H w) :
  Calls Tryz.prog 83 #[.slice (some a) n c] w fun e w' => ∃ v, e = .returned v ∧ Inv B (Res.row 9 1 v n xs :: H) w' := by
 refine cW Tryz.func83 rfl Tryz.ntmps83 ?_
 simp only [al]
 refine sK fun _ k1 => rL (uA rfl ?_)
 refine uW k1 (sK fun _ k2 => ?_)
 refine sK fun _ k3 => rL (uM rfl ?_)
 refine uG (.bool false) rfl (ex_slnil Tryz.underlying22 rfl rfl rfl rfl) (uW k3 ?_)
 refine cF rfl (kS ?_)
 refine tK k2 (sK fun _ k4 => ?_)
 refine rL (sl_row0 (size := 1) tV (wn rfl) rfl hv (e := 9) (fun w => by kernel_rfl) (fun b5 w6 hv => ?_))
 refine uM rfl ?_
 refine sl_append (news := xs) tV (wn rfl) rfl rfl rfl t1el22 hv hok hl ((hr.more (Base.Le.refl _) (fun _ h => by cases h)).src hv) (h1) (by unfold maxLen; omega) (by omega) (fun rv7 w10 hv => ?_)
 obtain ⟨ra8, rc9, rfl⟩ := row_slice hv.head
 refine uA rfl (uW k4 ?_)
 refine rR (bR rfl rfl ?_)
 rw [Nat.zero_add, List.nil_append] at hv
 exact ⟨_, by rw [Nat.zero_add]; rfl, hv⟩
theorem cloneOwn (B : Base) (H : List Res) (w : World) (ad : Option Addr) (n c : Nat) (xs : List Value) (hok : SliceOk ad n c) (hl : xs.length = n * 1) (h1 : ∀ u ∈ xs, u.oneCell' = true) (hn : n ≤ 1000000) (hr : RdV B [] ad xs) (hv : Inv B H w) :
  Calls Tryz.prog 83 #[.slice ad n c] w fun e w' => ∃ v, e = .returned v ∧ Inv B (Res.row 9 1 v n xs :: H) w' := by
 cases ad with
 | none =>
  have hc0 : c = 0 := hok.nil rfl
  have hn0 : n = 0 := by have := hok.le; omega
  subst hc0 hn0
  have hx : xs = [] := List.eq_nil_of_length_eq_zero (by simpa using hl)
  subst hx
  refine (cloneTexts0 B H w hv).mono ?_
  rintro e w' ⟨rfl, hv⟩
  exact ⟨_, rfl, hv.rowNil _ _⟩
 | some a => exact cloneOwn1 B H w a n c xs hok hl h1 hn hr hv
theorem t1callable101 : Callable Tryz.prog 101 := cb Tryz.func101 (by kernel_rfl)
theorem t1callable102 : Callable Tryz.prog 102 := cb Tryz.func102 (by kernel_rfl)
theorem setOrdered (B : Base) (H : List Res) (w : World) (ad : Option Addr) (c : Nat) (l : List (List UInt8)) (hok : SliceOk ad l.length c) (hr : RdV B [] ad (textCells l)) (hm : l.length ≤ 1000000) (hv : Inv B H w) :
  Calls Tryz.prog 88 #[.slice ad l.length c] w fun e w' => ∃ C oa oc out, B.Le C ∧ e = .returned (.slice oa out.length oc) ∧ SliceOk oa out.length oc ∧ RdV C [] oa (textCells out) ∧ SortedT out ∧ (∀ x, x ∈ out ↔ x ∈ l) ∧ out.length ≤ l.length ∧ Inv C H w' := by
 refine cW Tryz.func88 rfl Tryz.ntmps88 ?_
 simp only [al]
 refine sK fun _ k1 => rL (uA rfl ?_)
 refine uW k1 (sK fun _ k2 => ?_)
 refine rL (uM rfl ?_)
 refine xC s1callable83 rfl ((cloneOwn B _ _ ad l.length c (textCells l) hok (textCells_len _) (textCells_one _) hm hr hv).mono ?_) rfl
 rintro e w3 ⟨v, rfl, hv⟩
 refine ⟨_, rfl, ?_⟩
 obtain ⟨va, vc, rfl⟩ := row_slice hv.head
 refine uA rfl (uW k2 ?_)
 refine sK fun _ k4 => rL (uM rfl ?_)
 refine xC t1callable101 rfl ((sortTexts B _ _ _ l hm hv).mono ?_) rfl
 rintro e w5 ⟨rfl, hv⟩
 refine ⟨_, rfl, uW k4 ?_⟩
 refine sK fun _ k6 => rL (uM rfl ?_)
 have hms : (l.mergeSort leB).Pairwise (fun a b => leB a b = true) := List.pairwise_mergeSort (fun a b c h1 h2 => by simp only [leB, decide_eq_true_eq] at *; exact List.le_trans h1 h2) (fun a b => by simp only [leB, Bool.or_eq_true, decide_eq_true_eq]; exact List.le_total a b) _
 have hml : (l.mergeSort leB).length = l.length := by simp
 rw [← hml] at hv
 refine xC t1callable102 rfl ((compactSorted B _ _ _ (l.mergeSort leB) (by omega) hms (by rw [hml] at hv ⊢; exact hv)).mono ?_) rfl
 rintro e w7 ⟨C, oa, oc, out, hC, rfl, hok2, hrd, hso, hmem, hle, hv⟩
 refine ⟨_, rfl, uA rfl ?_⟩
 refine uW k6 (rR ?_)
 refine bR rfl rfl (⟨C, oa, oc, out, hC, rfl, hok2, hrd, hso, fun x => by rw [hmem, List.mem_mergeSort], by omega, hv⟩)
end Go.Proofs.YtoljdfjnannakaaGreatDoor
namespace Go.Pm
open Go.RowKit
theorem RdV.shift {B : Base} {H : List Res} {b off : Nat} {xs : List Value} (h : RdV B H (some ⟨b, off, none⟩) xs) (k : Nat) : RdV B H (some ⟨b, off + k, none⟩) (xs.drop k) := fun i hi => by
 rw [List.length_drop] at hi
 obtain ⟨b', off', h1, h2⟩ := h (k + i) (by omega)
 cases h1
 refine ⟨b, off + k, rfl, ?_⟩
 rw [List.getElem_drop, Nat.add_assoc]
 exact h2
theorem rdV_nil_any (B : Base) (ad : Option Addr) : RdV B [] ad [] := fun i hi => by simp at hi
theorem sliced_rdV {B : Base} {ad : Option Addr} {n c k : Nat} {xs : List Value} (size : Nat) (hr : RdV B [] ad xs) (hl : xs.length = n * size) (hn : n ≤ c) (hk : k ≤ n) (hz : 0 < size) : ∃ a2, sliced ad k n c size = .slice a2 (n - k) (c - k) ∧ RdV B [] a2 (xs.drop (k * size)) := by
 rcases Nat.lt_or_ge k n with h | h
 ·have h1 : 0 < xs.length := by rw [hl]; exact Nat.mul_pos (by omega) hz
  obtain ⟨b, off, rfl, -⟩ := hr 0 h1
  refine ⟨some ⟨b, off + k * size, none⟩, ?_, hr.shift _⟩
  unfold sliced
  rw [if_neg (by omega), Option.map_some, addr_add]
 obtain rfl : k = n := by omega
 have hd : xs.drop (k * size) = [] := List.drop_of_length_le (by omega)
 refine ⟨_, rfl, ?_⟩
 rw [hd]
 exact rdV_nil_any _ _
theorem le_of {B : Base} {H : List Res} {w : World} (hv : Inv B H w) : B.Le (Base.of w) := ⟨hv.base.blk, hv.base.lo, hv.base.os, hv.base.tape, hv.base.output⟩
section
variable {M : Model} {key : List UInt8} {l : List Ver} {k : Nat} {ok : Bool}
end
theorem sliced_hiV {B : Base} {ad : Option Addr} {n c h : Nat} {xs : List Value} (size : Nat) (hok : SliceOk ad n c) (hr : RdV B [] ad xs) (hl : xs.length = n * size) (hh : h ≤ n) : ∃ a2, sliced ad 0 h c size = .slice a2 h c ∧ SliceOk a2 h c ∧ RdV B [] a2 (xs.take (h * size)) := by
 have hle := hok.le
 unfold sliced
 by_cases hc : c = 0
 ·rw [if_pos hc]
  refine ⟨ad, by simp, ⟨by omega, hok.max, hok.nil⟩, ?_⟩
  have : xs = [] := List.eq_nil_of_length_eq_zero (by rw [hl, show n = 0 by omega, Nat.zero_mul])
  rw [this, List.take_nil]
  exact rdV_nil_any _ _
 rw [if_neg hc]
 refine ⟨ad, ?_, ⟨by omega, hok.max, hok.nil⟩, fun i hi => ?_⟩
 ·cases ad with
  | none => exact absurd (hok.nil rfl) hc
  | some a =>
   obtain ⟨b, o, p⟩ := a
   simp only [Nat.zero_mul, Option.map_some, Nat.sub_zero]
   rfl
 rw [List.length_take] at hi
 obtain ⟨b, off, h1, h2⟩ := hr i (by omega)
 refine ⟨b, off, h1, ?_⟩
 rw [List.getElem_take]
 exact h2
theorem sliced_fromV {B : Base} {ad : Option Addr} {n c k : Nat} {xs : List Value} (size : Nat) (hok : SliceOk ad n c) (hr : RdV B [] ad xs) (hl : xs.length = n * size) (hk : k ≤ n) (hz : 0 < size) : ∃ a2 c2, sliced ad k n c size = .slice a2 (n - k) c2 ∧ SliceOk a2 (n - k) c2 ∧ RdV B [] a2 (xs.drop (k * size)) := by
 have hle := hok.le
 have hmx := hok.max
 rcases Nat.lt_or_ge k n with h | h
 ·obtain ⟨a2, h1, h2⟩ := sliced_rdV size hr hl hle hk hz
  refine ⟨a2, c - k, h1, ⟨by omega, by unfold maxLen at hmx ⊢; omega, fun e => ?_⟩, h2⟩
  subst e
  have hlt : 0 < (xs.drop (k * size)).length := by
   rw [List.length_drop, hl]
   have := Nat.mul_lt_mul_of_pos_right h hz
   omega
  obtain ⟨b, off, h3, -⟩ := h2 0 hlt
  cases h3
 obtain rfl : k = n := by omega
 have hd : xs.drop (k * size) = [] := List.drop_of_length_le (by omega)
 rw [hd]
 unfold sliced
 by_cases hc : c = k
 ·rw [if_pos hc]
  exact ⟨ad, c - k, rfl, ⟨by omega, by unfold maxLen at hmx ⊢; omega, fun _ => by omega⟩, rdV_nil_any _ _⟩
 rw [if_neg hc]
 refine ⟨_, c - k, rfl, ⟨by omega, by unfold maxLen at hmx ⊢; omega, fun e => ?_⟩, rdV_nil_any _ _⟩
 cases ad with
 | none => have := hok.nil rfl; omega
 | some a => cases e
section
variable {P : Program} {t : TypeId} {w : World}
theorem run_hiAny {ad : Option Addr} {n c h size : Nat} (ht : P.underlying t = some (.slice (P.elem t))) (hs : ∀ w, (sizeOf (P.elem t)).run P w = .ok size w) (h1 : h ≤ c) :
  (Instr.sliceAt t (.slice ad n c) none (some (.int .i64 (h : Int))) none).run P w = .ok (sliced ad 0 h c size) w := by
 rw [run_sliceAt_slice w t _ _ _ _ ht, run_slice_h w t _ n c ht .i64 h (by omega) (by omega), hs]
 simp only [Result.andThen, Int.toNat_natCast]
end
end Go.Pm
namespace Go.Proofs.YtoljdfjnannakaaGreatDoor
open Go.RowKit Go.Pm Go.Sort
theorem text_snoc (l : List (List UInt8)) (x : List UInt8) : textCells l ++ [strV x] = textCells (l ++ [x]) := by simp [textCells]
theorem text_app (l k : List (List UInt8)) : textCells l ++ textCells k = textCells (l ++ k) := by simp [textCells]
theorem row_snoc {B : Base} {H : List Res} {w : World} {out : List (List UInt8)} {x : List UInt8} {ra : Option Addr} {rc : Nat} (h : Inv B (Res.row 9 1 (.slice ra (out.length + 1) rc) (out.length + 1) (textCells out ++ [strV x]) :: H) w) : Inv B (Res.row 9 1 (.slice ra (out ++ [x]).length rc) (out ++ [x]).length (textCells (out ++ [x])) :: H) w := by
 rw [text_snoc] at h
 rw [List.length_append, List.length_singleton]; exact h
def diffS (s : List (List UInt8)) (ss : List (List (List UInt8))) : List (List UInt8) := s.filter fun x => !(ss.any fun l => decide (x ∈ l))
def interS (s : List (List UInt8)) (ss : List (List (List UInt8))) : List (List UInt8) := s.filter fun x => ss.all fun l => decide (x ∈ l)
def JoinAll (ss : List (List (List UInt8))) (out : List (List UInt8)) : Prop := SortedT out ∧ ∀ x, x ∈ out ↔ ∃ s ∈ ss, x ∈ s
def AddR (s xs out : List (List UInt8)) (n ec : Int) : Prop :=
 (ec = 12 ∧ n = 0 ∧ out = [] ∧ ∃ x ∈ xs, 4096 < x.length) ∨ ((∀ x ∈ xs, x.length ≤ 4096) ∧ ∃ j, JoinS s xs j ∧ ((ec = 22 ∧ n = 0 ∧ out = [] ∧ 512 < j.length) ∨ (ec = 0 ∧ j.length ≤ 512 ∧ out = j ∧ n = (j.length : Int) - s.length)))
theorem filter_next {α : Type} {l : List α} {i : Nat} {x : α} {p : α → Bool} (h : l[i]? = some x) : (l.take (i + 1)).filter p = (l.take i).filter p ++ (if p x then [x] else []) := by
 rw [take_next h, List.filter_append]
 by_cases hp : p x <;> simp [hp]
theorem filter_yes {α : Type} {l : List α} {i : Nat} {x : α} {p : α → Bool} (h : l[i]? = some x) (hp : p x = true) : (l.take (i + 1)).filter p = (l.take i).filter p ++ [x] := by rw [filter_next h, if_pos hp]
theorem filter_no {α : Type} {l : List α} {i : Nat} {x : α} {p : α → Bool} (h : l[i]? = some x) (hp : ¬ p x = true) : (l.take (i + 1)).filter p = (l.take i).filter p := by rw [filter_next h, if_neg hp, List.append_nil]
theorem any_long {xs : List (List UInt8)} (h : (xs.any fun s => decide (s.length > 4096)) = true) : ∃ x ∈ xs, 4096 < x.length := by
 obtain ⟨x, h1, h2⟩ := List.any_eq_true.1 h
 exact ⟨x, h1, of_decide_eq_true h2⟩
theorem no_long {xs : List (List UInt8)} (h : (xs.any fun s => decide (s.length > 4096)) = false) : ∀ x ∈ xs, x.length ≤ 4096 := fun x hx => by
 have := List.any_eq_false.1 h x hx
 simp at this; exact this
theorem join_of {s fr xs out : List (List UInt8)} (h : JoinS s fr out) (hm : ∀ x, x ∈ fr ↔ x ∈ xs) : JoinS s xs out := ⟨h.1, fun x => by rw [h.2, hm]⟩
theorem text_drop (l : List (List UInt8)) (i : Nat) : (textCells l).drop i = textCells (l.drop i) := by simp [textCells]
theorem ok_nil : SliceOk none 0 0 := ⟨Nat.le_refl _, Nat.zero_le _, fun _ => rfl⟩
theorem t2callable88 : Callable Tryz.prog 88 := cb Tryz.func88 (by kernel_rfl)
theorem t2mk9 : (Tryz.prog.info? 9).map (fun i => (i.zero, i.size, i.bytes)) = some (some (vS []), 1, 16) := by kernel_rfl
theorem t2el22 : Elem Tryz.prog 22 9 (vS []) 1 16 := elem_of Tryz.underlying22 t2mk9 (by rfl) (by decide)
theorem setAdd (B : Base) (H : List Res) (w : World) (sa xa : Option Addr) (sc xc : Nat) (s xs : List (List UInt8)) (hoks : SliceOk sa s.length sc) (hrs : RdV B [] sa (textCells s)) (hs : SortedT s) (hms : s.length ≤ 10000) (hokx : SliceOk xa xs.length xc) (hrx : RdV B [] xa (textCells xs)) (hmx0 : xs.length ≤ 10000) (hv : Inv B H w) :
  Calls Tryz.prog 64 #[.slice sa s.length sc, .slice xa xs.length xc] w fun e w' => ∃ C oa oc out n ec, B.Le C ∧ e = .returned (.tuple #[.slice oa out.length oc, vI n, vI ec]) ∧ SliceOk oa out.length oc ∧ RdV C [] oa (textCells out) ∧ AddR s xs out n ec ∧ Inv C H w' := by
 have hmx : xs.length ≤ 1000000 := by omega
 refine cW Tryz.func64 rfl Tryz.ntmps64 ?_
 simp only [al]
 refine sK fun _ k1 => rL (uA rfl ?_)
 refine uA rfl (uA rfl ?_)
 refine uW k1 (sK fun _ k2 => ?_)
 refine sK fun _ k3 => rL (uM rfl ?_)
 refine xC s9callable86 rfl ((containsFuncText B _ _ 87 #[] xa xc xs (fun s : List UInt8 => decide (s.length > 4096)) hrx hmx s10callable87 (fun x _ w hv => setLong B _ w x hv) hv).mono ?_) rfl
 rintro e w4 ⟨rfl, hv⟩
 refine ⟨_, rfl, uW k3 ?_⟩
 refine wpIn_cond_split (t := xs.any (fun s : List UInt8 => decide (s.length > 4096))) rfl (fun hc5 => ?_) (fun hc5 => ?_)
 ·refine sK fun _ k6 => rL (uA rfl ?_)
  refine uA rfl (uA rfl ?_)
  refine uW k6 (rR ?_)
  refine tR (bodyPost_ret (results_tmp3 rfl _ _ _) rfl ?_)
  exact ⟨B, none, 0, [], 0, 12, Base.Le.refl _, rfl, ok_nil, rdV_nil, .inl ⟨rfl, rfl, rfl, any_long hc5⟩, hv⟩
 refine kS (tK k2 ?_)
 refine sK fun _ k7 => rL (uM rfl ?_)
 refine xC t2callable88 rfl ((setOrdered B _ _ xa xc xs hokx hrx hmx hv).mono ?_) rfl
 rintro e w8 ⟨C, fa, fc, fr, hC, rfl, hokf, hrf, hsf, hmf, hlf, hv⟩
 refine ⟨_, rfl, uA rfl ?_⟩
 refine uW k7 (sK fun _ k9 => ?_)
 refine rL (uM rfl ?_)
 refine uG (vI (s.length : Int)) rfl (ex_len0 Tryz.underlying22 rfl rfl) (uM rfl ?_)
 refine uG (vI (fr.length : Int)) rfl (ex_len0 Tryz.underlying22 rfl rfl) ?_
 refine uG (vI ((s.length + fr.length : Nat) : Int)) rfl (ex_add rfl rfl rfl (by rw [i64_in (by omega)]; omega)) ?_
 refine sl_makeRow (cap := (s.length + fr.length : Nat)) tV (wn rfl) rfl rfl rfl t2el22 (by unfold maxLen; omega) (by omega) hv (fun b10 w11 hv => ?_)
 refine uA rfl (uW k9 ?_)
 refine sK fun _ k12 => rL (uA rfl ?_)
 refine uW k12 (sK fun _ k13 => ?_)
 refine sK fun _ k14 => rL (uM rfl ?_)
 refine uG (vI (fr.length : Int)) rfl (ex_len0 Tryz.underlying22 rfl rfl) (uM rfl ?_)
 refine uW k14 (bB ?_)
 gi_loopw [24, 9, 8] (fun x24 x9 x8 wr => ∃ (j i : Nat) (out : List (List UInt8)) (ra : Option Addr) (rc : Nat), x24 = vI j ∧ x9 = vI i ∧ x8 = .slice ra out.length rc ∧ j ≤ fr.length ∧ i ≤ s.length ∧ AddI s fr i j out ∧ Inv C (Res.row 9 1 (.slice ra out.length rc) out.length (textCells out) :: H) wr) (fun x24 x9 x8 _ => fr.length - (intOf x24).toNat)
 case atStart => exact ⟨0, 0, [], _, _, rfl, rfl, rfl, Nat.zero_le _, Nat.zero_le _, AddI.nil, hv⟩
 case round =>
  obtain ⟨j, i, out, ra, rc, rfl, rfl, rfl, hj, hi, hA, hv⟩ := hrel
  refine sK fun _ k16 => rL ?_
  by_cases hb17 : (j : Int) < (fr.length : Int)
  ·refine uG (.bool true) rfl (ex_lss rfl rfl rfl (qT hb17)) (uW k16 ?_)
   refine sK fun _ k18 => cT rfl (kS ?_)
   refine tK k18 (sK fun _ k19 => ?_)
   refine bB (sK fun _ k20 => ?_)
   obtain ⟨x, hx⟩ : ∃ x, fr[j]? = some x := ⟨_, List.getElem?_eq_getElem (show j < fr.length by omega)⟩
   obtain ⟨fb, fo, had, hrdx⟩ := text_reads hrf hx
   subst had
   refine rL (uG (.pointer (some ⟨fb, fo + j, none⟩)) rfl (ex_index rfl rfl rfl (run_idx1 (k := j) Tryz.underlying22 s9es22 (by omega))) ?_)
   refine uL _ rfl (run_load1 s9na9 (hrdx _ _ _ (Base.Le.refl _) no_res hv 0 _ rfl)) (uA rfl ?_)
   refine uW k20 (sK fun _ k21 => ?_)
   refine bB ?_
   gi_loopw [9, 8] (fun x9 x8 wr => ∃ (i : Nat) (out : List (List UInt8)) (ra : Option Addr) (rc : Nat), x9 = vI i ∧ x8 = .slice ra out.length rc ∧ i ≤ s.length ∧ AddI s fr i j out ∧ Inv C (Res.row 9 1 (.slice ra out.length rc) out.length (textCells out) :: H) wr) (fun x9 x8 _ => s.length - (intOf x9).toNat)
   case atStart => exact ⟨i, out, _, _, rfl, rfl, hi, hA, hv⟩
   case round =>
    obtain ⟨i, out, ra, rc, rfl, rfl, hi, hA, hv⟩ := hrel
    refine sK fun _ k23 => sK fun _ k24 => rL (uM rfl ?_)
    refine uM rfl ?_
    refine uG (vI (s.length : Int)) rfl (ex_len0 Tryz.underlying22 rfl rfl) ?_
    by_cases hb25 : (i : Int) < (s.length : Int)
    ·obtain ⟨z, hz⟩ : ∃ x, s[i]? = some x := ⟨_, List.getElem?_eq_getElem (show i < s.length by omega)⟩
     obtain ⟨sb, so, had, hrdz⟩ := text_reads hrs hz
     subst had
     skip
     refine uG (.bool true) rfl (ex_lss rfl rfl rfl (qT hb25)) (uM rfl ?_)
     refine uM rfl ?_
     refine uM rfl ?_
     refine uG (.pointer (some ⟨sb, so + i, none⟩)) rfl (ex_index rfl rfl rfl (run_idx1 (k := i) Tryz.underlying22 s9es22 (by omega))) ?_
     refine uL _ rfl (run_load1 s9na9 (hrdz _ _ _ hC no_res hv 0 _ rfl)) ?_
     refine uM rfl ?_
     refine uG (.bool (Op.bytesLess z x)) rfl (ex_slss rfl rfl rfl rfl) (uK rfl ?_)
     refine uW k24 (wpIn_cond_split (t := Op.bytesLess z x) rfl (fun hc26 => ?_) (fun hc26 => ?_))
     ·refine kS (tK k23 ?_)
      refine bB (sK fun _ k27 => ?_)
      refine rL (uM rfl ?_)
      refine uM rfl (uM rfl ?_)
      refine uG (.pointer (some ⟨sb, so + i, none⟩)) rfl (ex_index rfl rfl rfl (run_idx1 (k := i) Tryz.underlying22 s9es22 (by omega))) ?_
      refine uL _ rfl (run_load1 s9na9 (hrdz _ _ _ hC no_res hv 0 _ rfl)) ?_
      refine sl_rowOne (v := vS z) tV (wn rfl) rfl rfl hv t2el22 rfl (fun b28 w29 hv => ?_)
      simp only [zP, po]
      replace hv := hv.front 1 rfl
      simp only [eS, eZ] at hv
      refine sl_append (news := [vS z]) tV (wn rfl) rfl rfl rfl t2el22 hv (ok_full (by omega)) rfl (rd_all (hv.get 1 rfl)) (by intro u hu; simp only [List.mem_cons, List.not_mem_nil, or_false] at hu; rcases hu with rfl <;> rfl) (by have := hA.len; unfold maxLen; omega) (by have := hA.len; omega) (fun rv30 w33 hv => ?_)
      obtain ⟨ra31, rc32, rfl⟩ := row_slice hv.head
      refine uA rfl (uW k27 ?_)
      refine rL (uM rfl ?_)
      refine uG (vI ((i + 1 : Nat) : Int)) rfl (ex_add rfl rfl rfl (by rw [i64_in (by omega)]; omega)) (uA rfl ?_)
      refine uZ (bN ?_)
      refine then_normal ?_
      go_roundw
      case rel => exact ⟨i + 1, out ++ [z], _, _, rfl, by rw [List.length_append, List.length_singleton], by omega, hA.low hs hsf hz hx hc26, row_snoc (hv.kp [] 1 1)⟩
      case measure => show s.length - (((i + 1 : Nat) : Int)).toNat < s.length - ((i : Int)).toNat; omega
     refine xE (tX ?_)
     refine tX (bH ?_)
     refine tK k21 (sK fun _ k34 => ?_)
     refine sK fun _ k35 => rL (uM rfl ?_)
     refine uM rfl ?_
     refine uG (vI (s.length : Int)) rfl (ex_len0 Tryz.underlying22 rfl rfl) ?_
     refine uG (.bool true) rfl (ex_lss rfl rfl rfl (qT hb25)) (uM rfl ?_)
     refine uM rfl ?_
     refine uM rfl ?_
     refine uG (.pointer (some ⟨sb, so + i, none⟩)) rfl (ex_index rfl rfl rfl (run_idx1 (k := i) Tryz.underlying22 s9es22 (by omega))) ?_
     refine uL _ rfl (run_load1 s9na9 (hrdz _ _ _ hC no_res hv 0 _ rfl)) ?_
     refine uM rfl ?_
     by_cases hb36 : z = x
     ·refine uG (.bool true) rfl (ex_seql rfl rfl rfl (qT hb36)) (uK rfl ?_)
      refine uW k35 (cT rfl ?_)
      refine rL (uM rfl ?_)
      refine uG (vI ((i + 1 : Nat) : Int)) rfl (ex_add rfl rfl rfl (by rw [i64_in (by omega)]; omega)) (uA rfl ?_)
      refine uW k34 (rL ?_)
      refine uM rfl (uM rfl ?_)
      refine sl_rowOne (v := vS x) tV (wn rfl) rfl rfl hv t2el22 rfl (fun b37 w38 hv => ?_)
      simp only [zP, po]
      replace hv := hv.front 1 rfl
      simp only [eS, eZ] at hv
      refine sl_append (news := [vS x]) tV (wn rfl) rfl rfl rfl t2el22 hv (ok_full (by omega)) rfl (rd_all (hv.get 1 rfl)) (by intro u hu; simp only [List.mem_cons, List.not_mem_nil, or_false] at hu; rcases hu with rfl <;> rfl) (by have := hA.len; unfold maxLen; omega) (by have := hA.len; omega) (fun rv39 w42 hv => ?_)
      obtain ⟨ra40, rc41, rfl⟩ := row_slice hv.head
      refine uA rfl (uZ ?_)
      refine bN (tK k19 ?_)
      refine rL (uG (vI ((j + 1 : Nat) : Int)) rfl (ex_add rfl rfl rfl (by rw [i64_in (by omega)]; omega)) ?_)
      refine uM rfl (uZ ?_)
      refine then_normal ?_
      go_roundw
      case rel => exact ⟨j + 1, _, out ++ [x], _, _, rfl, rfl, by rw [List.length_append, List.length_singleton], by omega, by omega, hA.put hs hsf hx (.inr ⟨rfl, by rw [hz, hb36]⟩), row_snoc (hv.kp [] 1 1)⟩
      case measure => show fr.length - (((j + 1 : Nat) : Int)).toNat < fr.length - ((j : Int)).toNat; omega
     refine uG (.bool false) rfl (ex_seql rfl rfl rfl (qF hb36)) (uK rfl ?_)
     refine uW k35 (cF rfl ?_)
     refine kS (tK k34 ?_)
     refine rL (uM rfl ?_)
     refine uM rfl ?_
     refine sl_rowOne (v := vS x) tV (wn rfl) rfl rfl hv t2el22 rfl (fun b43 w44 hv => ?_)
     simp only [zP, po]
     replace hv := hv.front 1 rfl
     simp only [eS, eZ] at hv
     refine sl_append (news := [vS x]) tV (wn rfl) rfl rfl rfl t2el22 hv (ok_full (by omega)) rfl (rd_all (hv.get 1 rfl)) (by intro u hu; simp only [List.mem_cons, List.not_mem_nil, or_false] at hu; rcases hu with rfl <;> rfl) (by have := hA.len; unfold maxLen; omega) (by have := hA.len; omega) (fun rv45 w48 hv => ?_)
     obtain ⟨ra46, rc47, rfl⟩ := row_slice hv.head
     refine uA rfl (uZ ?_)
     refine bN (tK k19 ?_)
     refine rL (uG (vI ((j + 1 : Nat) : Int)) rfl (ex_add rfl rfl rfl (by rw [i64_in (by omega)]; omega)) ?_)
     refine uM rfl (uZ ?_)
     refine then_normal ?_
     go_roundw
     case rel => exact ⟨j + 1, _, out ++ [x], _, _, rfl, rfl, by rw [List.length_append, List.length_singleton], by omega, by omega, hA.put hs hsf hx (.inl ⟨rfl, fun z9 hz9 => by rw [hz] at hz9; cases hz9; exact ⟨hc26, hb36⟩⟩), row_snoc (hv.kp [] 1 1)⟩
     case measure => show fr.length - (((j + 1 : Nat) : Int)).toNat < fr.length - ((j : Int)).toNat; omega
    refine uG (.bool false) rfl (ex_lss rfl rfl rfl (qF hb25)) (uM rfl ?_)
    iterate 6 refine uP rfl ?_
    refine uK rfl (uW k24 ?_)
    refine cF rfl (xE ?_)
    refine tX (tX ?_)
    refine bH (tK k21 ?_)
    refine sK fun _ k49 => sK fun _ k50 => rL (uM rfl ?_)
    refine uM rfl ?_
    refine uG (vI (s.length : Int)) rfl (ex_len0 Tryz.underlying22 rfl rfl) ?_
    refine uG (.bool false) rfl (ex_lss rfl rfl rfl (qF hb25)) (uM rfl ?_)
    iterate 6 refine uP rfl ?_
    refine uK rfl (uW k50 ?_)
    refine cF rfl (kS ?_)
    refine tK k49 (rL ?_)
    refine uM rfl (uM rfl ?_)
    refine sl_rowOne (v := vS x) tV (wn rfl) rfl rfl hv t2el22 rfl (fun b51 w52 hv => ?_)
    simp only [zP, po]
    replace hv := hv.front 1 rfl
    simp only [eS, eZ] at hv
    refine sl_append (news := [vS x]) tV (wn rfl) rfl rfl rfl t2el22 hv (ok_full (by omega)) rfl (rd_all (hv.get 1 rfl)) (by intro u hu; simp only [List.mem_cons, List.not_mem_nil, or_false] at hu; rcases hu with rfl <;> rfl) (by have := hA.len; unfold maxLen; omega) (by have := hA.len; omega) (fun rv53 w56 hv => ?_)
    obtain ⟨ra54, rc55, rfl⟩ := row_slice hv.head
    refine uA rfl (uZ ?_)
    refine bN (tK k19 ?_)
    refine rL (uG (vI ((j + 1 : Nat) : Int)) rfl (ex_add rfl rfl rfl (by rw [i64_in (by omega)]; omega)) ?_)
    refine uM rfl (uZ ?_)
    refine then_normal ?_
    go_roundw
    case rel => exact ⟨j + 1, _, out ++ [x], _, _, rfl, rfl, by rw [List.length_append, List.length_singleton], by omega, by omega, hA.put hs hsf hx (.inl ⟨rfl, fun z9 hz9 => by rw [List.getElem?_eq_none (by omega)] at hz9; cases hz9⟩), row_snoc (hv.kp [] 1 1)⟩
    case measure => show fr.length - (((j + 1 : Nat) : Int)).toNat < fr.length - ((j : Int)).toNat; omega
  refine uG (.bool false) rfl (ex_lss rfl rfl rfl (qF hb17)) (uW k16 ?_)
  refine sK fun _ k57 => cF rfl (xE ?_)
  refine tX (tX ?_)
  refine bH (tK k13 ?_)
  refine sK fun _ k58 => ?_
  obtain rfl : j = fr.length := by omega
  obtain ⟨a3, c3, ha3, ok3, hr3⟩ := sliced_fromV 1 hoks hrs (textCells_len s) hi (by decide)
  refine rL (uM rfl ?_)
  refine uM rfl (uM rfl ?_)
  refine uG (.slice a3 (s.length - i) c3) rfl (ex_slice (lo' := some (vI i)) rfl rfl (congrArg some rfl) rfl rfl ((run_fromAny Tryz.underlying22 s9es22 (by omega)).trans (by rw [ha3]))) ?_
  refine sl_append (news := (textCells s).drop (i * 1)) tV (wn rfl) rfl rfl rfl t2el22 hv ok3 (by rw [List.length_drop, textCells_len]; omega) ((hr3.more hC (fun _ h => by cases h) : RdV C _ _ _).src hv) (fun u hu => textCells_one _ u (List.mem_of_mem_drop hu)) (by have := hA.len; unfold maxLen; omega) (by have := hA.len; omega) (fun rv59 w62 hv => ?_)
  obtain ⟨ra60, rc61, rfl⟩ := row_slice hv.head
  refine uA rfl (uW k58 ?_)
  refine sK fun _ k63 => sK fun _ k64 => ?_
  obtain ⟨D, hD, hv, hrj, hokj, -⟩ := (hv).rowBy
  have hJ := join_of (hA.fin hs) hmf
  have hjl : (out ++ s.drop i).length = out.length + (s.length - i) := by rw [List.length_append, List.length_drop]
  rw [Nat.mul_one, text_drop, text_app] at hrj
  have hAl := hA.len
  refine rL (uM rfl ?_)
  refine uG (vI ((out.length + (s.length - i) : Nat) : Int)) rfl (ex_len0 Tryz.underlying22 rfl rfl) ?_
  by_cases hb65 : ((out.length + (s.length - i) : Nat) : Int) > 512
  ·refine uG (.bool true) rfl (ex_gtr rfl rfl rfl (qT hb65)) (uW k64 ?_)
   refine cT rfl (sK fun _ k66 => ?_)
   refine rL (uA rfl ?_)
   refine uA rfl (uA rfl ?_)
   refine uW k66 (rR ?_)
   refine tR (bodyPost_ret (results_tmp3 rfl _ _ _) rfl ?_)
   exact ⟨D, none, 0, [], 0, 22, (hC.trans hD), rfl, ok_nil, rdV_nil, .inr ⟨no_long hc5, _, hJ, .inl ⟨rfl, rfl, rfl, by rw [hjl]; omega⟩⟩, hv⟩
  refine uG (.bool false) rfl (ex_gtr rfl rfl rfl (qF hb65)) (uW k64 ?_)
  refine cF rfl (kS ?_)
  refine tK k63 (sK fun _ k67 => ?_)
  refine rL (uM rfl ?_)
  refine uM rfl ?_
  refine uG (vI ((out.length + (s.length - i) : Nat) : Int)) rfl (ex_len0 Tryz.underlying22 rfl rfl) (uM rfl ?_)
  refine uG (vI (s.length : Int)) rfl (ex_len0 Tryz.underlying22 rfl rfl) ?_
  refine uG (vI (((out.length + (s.length - i) : Nat) : Int) - (s.length : Int))) rfl (ex_sub rfl rfl rfl (i64_in (by omega))) (uA rfl ?_)
  refine uA rfl (uA rfl ?_)
  refine uW k67 (rR ?_)
  refine bodyPost_ret (results_tmp3 rfl _ _ _) rfl (⟨D, _, _, out ++ s.drop i, _, 0, (hC.trans hD), by rw [hjl]; rfl, by rw [hjl]; exact hokj, hrj, .inr ⟨no_long hc5, _, hJ, .inr ⟨rfl, by rw [hjl]; omega, rfl, by rw [hjl]⟩⟩, hv⟩)
theorem t3es143 (w : World) : (sizeOf (Tryz.prog.elem 143)).run Tryz.prog w = .ok 1 w := by kernel_rfl
theorem t3callable67 : Callable Tryz.prog 67 := cb Tryz.func67 (by kernel_rfl)
theorem setAnywhere (B : Base) (H : List Res) (w : World) (x : List UInt8) (ta : Option Addr) (tc : Nat) (ss : List (List (List UInt8))) (txs : List Value) (htx : TxsAt B ss txs) (hrt : RdV B [] ta txs) (hmt : ss.length ≤ 10000) (hso : ∀ s ∈ ss, SortedT s ∧ s.length ≤ 1000000) (hv : Inv B H w) :
  Calls Tryz.prog 92 #[vS x, .slice ta ss.length tc] w fun e w' => e = .returned (.bool (ss.any fun l => decide (x ∈ l))) ∧ Inv B H w' := by
 refine cW Tryz.func92 rfl Tryz.ntmps92 ?_
 simp only [al]
 refine sK fun _ k1 => rL (uA rfl ?_)
 refine uW k1 (sK fun _ k2 => ?_)
 refine sK fun _ k3 => rL (uM rfl ?_)
 refine uG (vI (ss.length : Int)) rfl (ex_len0 Tryz.underlying143 rfl rfl) (uM rfl ?_)
 refine uW k3 (bB ?_)
 gi_loopw [9] (fun x9 wr => ∃ (i : Nat), x9 = vI i ∧ i ≤ ss.length ∧ (∀ j q, j < i → ss[j]? = some q → ¬ x ∈ q) ∧ Inv B H wr) (fun x9 _ => ss.length - (intOf x9).toNat)
 case atStart => exact ⟨0, rfl, Nat.zero_le _, fun j x h => by omega, hv⟩
 case round =>
  obtain ⟨i, rfl, hi, hno, hv⟩ := hrel
  refine sK fun _ k5 => rL ?_
  by_cases hb6 : (i : Int) < (ss.length : Int)
  ·refine uG (.bool true) rfl (ex_lss rfl rfl rfl (qT hb6)) (uW k5 ?_)
   refine sK fun _ k7 => cT rfl (kS ?_)
   refine tK k7 (sK fun _ k8 => ?_)
   refine bB (sK fun _ k9 => ?_)
   obtain ⟨q, hq⟩ : ∃ x, ss[i]? = some x := ⟨_, List.getElem?_eq_getElem (show i < ss.length by omega)⟩
   obtain ⟨tb, to, qa, qc, had, hokq, hrq, hrdq⟩ := TxsAt.reads htx hrt hq
   subst had
   refine rL (uG (.pointer (some ⟨tb, to + i, none⟩)) rfl (ex_index rfl rfl rfl (run_idx1 (k := i) Tryz.underlying143 t3es143 (by omega))) ?_)
   refine uL _ rfl (run_load1 s1na22 (hrdq _ _ _ (Base.Le.refl _) no_res hv 0 _ rfl)) (uA rfl ?_)
   refine uW k9 (sK fun _ k10 => ?_)
   refine rL (uM rfl ?_)
   refine uM rfl ?_
   by_cases hq11 : x ∈ q
   ·refine xC t3callable67 rfl ((calls_bool (setHas B _ _ qa qc q x hrq (hso q (List.mem_of_getElem? hq)).2 (hso q (List.mem_of_getElem? hq)).1 hv) (qT hq11)).mono ?_) rfl
    rintro e w12 ⟨rfl, hv⟩
    refine ⟨_, rfl, uW k10 ?_⟩
    refine cT rfl (sK fun _ k13 => ?_)
    refine rL (uA rfl ?_)
    refine uW k13 (rR ?_)
    refine bZ (tR ?_)
    refine tR (bZ ?_)
    refine tR (bR rfl rfl ?_)
    exact ⟨congrArg (fun b => Ending.returned (Value.bool b)) (any_of hq (qT hq11)).symm, hv⟩
   refine xC t3callable67 rfl ((calls_bool (setHas B _ _ qa qc q x hrq (hso q (List.mem_of_getElem? hq)).2 (hso q (List.mem_of_getElem? hq)).1 hv) (qF hq11)).mono ?_) rfl
   rintro e w14 ⟨rfl, hv⟩
   refine ⟨_, rfl, uW k10 ?_⟩
   refine cF rfl (kS ?_)
   refine bN (tK k8 ?_)
   refine rL (uG (vI ((i + 1 : Nat) : Int)) rfl (ex_add rfl rfl rfl (by rw [i64_in (by omega)]; omega)) ?_)
   refine uM rfl (uZ ?_)
   refine then_normal ?_
   go_roundw
   case rel => exact ⟨i + 1, rfl, by omega, fun j q' hj hq' => (by
      rcases Nat.lt_or_ge j i with h | h
      ·exact hno j q' h hq'
      obtain rfl : j = i := by omega
      rw [hq] at hq'; cases hq'; exact hq11), hv⟩
   case measure => show ss.length - (((i + 1 : Nat) : Int)).toNat < ss.length - ((i : Int)).toNat; omega
  refine uG (.bool false) rfl (ex_lss rfl rfl rfl (qF hb6)) (uW k5 ?_)
  refine sK fun _ k15 => cF rfl (xE ?_)
  refine tX (tX ?_)
  refine bH (tK k2 ?_)
  refine sK fun _ k16 => rL (uA rfl ?_)
  refine uW k16 (rR ?_)
  refine bR rfl rfl ?_
  obtain rfl : i = ss.length := by omega
  exact ⟨congrArg (fun b => Ending.returned (Value.bool b)) (any_none fun j q hq => qF (hno j q (List.getElem?_eq_some_iff.1 hq).1 hq)).symm, hv⟩
theorem setEverywhere (B : Base) (H : List Res) (w : World) (x : List UInt8) (ta : Option Addr) (tc : Nat) (ss : List (List (List UInt8))) (txs : List Value) (htx : TxsAt B ss txs) (hrt : RdV B [] ta txs) (hmt : ss.length ≤ 10000) (hso : ∀ s ∈ ss, SortedT s ∧ s.length ≤ 1000000) (hv : Inv B H w) :
  Calls Tryz.prog 93 #[vS x, .slice ta ss.length tc] w fun e w' => e = .returned (.bool (ss.all fun l => decide (x ∈ l))) ∧ Inv B H w' := by
 refine cW Tryz.func93 rfl Tryz.ntmps93 ?_
 simp only [al]
 refine sK fun _ k1 => rL (uA rfl ?_)
 refine uW k1 (sK fun _ k2 => ?_)
 refine sK fun _ k3 => rL (uM rfl ?_)
 refine uG (vI (ss.length : Int)) rfl (ex_len0 Tryz.underlying143 rfl rfl) (uM rfl ?_)
 refine uW k3 (bB ?_)
 gi_loopw [9] (fun x9 wr => ∃ (i : Nat), x9 = vI i ∧ i ≤ ss.length ∧ (∀ j q, j < i → ss[j]? = some q → x ∈ q) ∧ Inv B H wr) (fun x9 _ => ss.length - (intOf x9).toNat)
 case atStart => exact ⟨0, rfl, Nat.zero_le _, fun j x h => by omega, hv⟩
 case round =>
  obtain ⟨i, rfl, hi, hno, hv⟩ := hrel
  refine sK fun _ k5 => rL ?_
  by_cases hb6 : (i : Int) < (ss.length : Int)
  ·refine uG (.bool true) rfl (ex_lss rfl rfl rfl (qT hb6)) (uW k5 ?_)
   refine sK fun _ k7 => cT rfl (kS ?_)
   refine tK k7 (sK fun _ k8 => ?_)
   refine bB (sK fun _ k9 => ?_)
   obtain ⟨q, hq⟩ : ∃ x, ss[i]? = some x := ⟨_, List.getElem?_eq_getElem (show i < ss.length by omega)⟩
   obtain ⟨tb, to, qa, qc, had, hokq, hrq, hrdq⟩ := TxsAt.reads htx hrt hq
   subst had
   refine rL (uG (.pointer (some ⟨tb, to + i, none⟩)) rfl (ex_index rfl rfl rfl (run_idx1 (k := i) Tryz.underlying143 t3es143 (by omega))) ?_)
   refine uL _ rfl (run_load1 s1na22 (hrdq _ _ _ (Base.Le.refl _) no_res hv 0 _ rfl)) (uA rfl ?_)
   refine uW k9 (sK fun _ k10 => ?_)
   refine rL (uM rfl ?_)
   refine uM rfl ?_
   by_cases hq11 : x ∈ q
   ·refine xC t3callable67 rfl ((calls_bool (setHas B _ _ qa qc q x hrq (hso q (List.mem_of_getElem? hq)).2 (hso q (List.mem_of_getElem? hq)).1 hv) (qT hq11)).mono ?_) rfl
    rintro e w12 ⟨rfl, hv⟩
    refine ⟨_, rfl, uG (.bool false) rfl (ex_not rfl rfl rfl) ?_⟩
    refine uW k10 (cF rfl ?_)
    refine kS (bN ?_)
    refine tK k8 (rL ?_)
    refine uG (vI ((i + 1 : Nat) : Int)) rfl (ex_add rfl rfl rfl (by rw [i64_in (by omega)]; omega)) (uM rfl ?_)
    refine uZ (then_normal ?_)
    go_roundw
    case rel => exact ⟨i + 1, rfl, by omega, fun j q' hj hq' => (by
       rcases Nat.lt_or_ge j i with h | h
       ·exact hno j q' h hq'
       obtain rfl : j = i := by omega
       rw [hq] at hq'; cases hq'; exact hq11), hv⟩
    case measure => show ss.length - (((i + 1 : Nat) : Int)).toNat < ss.length - ((i : Int)).toNat; omega
   refine xC t3callable67 rfl ((calls_bool (setHas B _ _ qa qc q x hrq (hso q (List.mem_of_getElem? hq)).2 (hso q (List.mem_of_getElem? hq)).1 hv) (qF hq11)).mono ?_) rfl
   rintro e w13 ⟨rfl, hv⟩
   refine ⟨_, rfl, uG (.bool true) rfl (ex_not rfl rfl rfl) ?_⟩
   refine uW k10 (cT rfl ?_)
   refine sK fun _ k14 => rL (uA rfl ?_)
   refine uW k14 (rR ?_)
   refine bZ (tR ?_)
   refine tR (bZ ?_)
   refine tR (bR rfl rfl ?_)
   exact ⟨congrArg (fun b => Ending.returned (Value.bool b)) (List.all_eq_false.2 ⟨q, List.mem_of_getElem? hq, by simpa using hq11⟩).symm, hv⟩
  refine uG (.bool false) rfl (ex_lss rfl rfl rfl (qF hb6)) (uW k5 ?_)
  refine sK fun _ k15 => cF rfl (xE ?_)
  refine tX (tX ?_)
  refine bH (tK k2 ?_)
  refine sK fun _ k16 => rL (uA rfl ?_)
  refine uW k16 (rR ?_)
  refine bR rfl rfl ?_
  obtain rfl : i = ss.length := by omega
  exact ⟨congrArg (fun b => Ending.returned (Value.bool b)) (List.all_eq_true.2 fun q hq => (by
   obtain ⟨j, hj⟩ := List.mem_iff_getElem?.1 hq
   exact qT (hno j q (List.getElem?_eq_some_iff.1 hj).1 hj))).symm, hv⟩
theorem t3callable92 : Callable Tryz.prog 92 := cb Tryz.func92 (by kernel_rfl)
theorem t3mk9 : (Tryz.prog.info? 9).map (fun i => (i.zero, i.size, i.bytes)) = some (some (vS []), 1, 16) := by kernel_rfl
theorem t3el22 : Elem Tryz.prog 22 9 (vS []) 1 16 := elem_of Tryz.underlying22 t3mk9 (by rfl) (by decide)
theorem setDiff (B : Base) (H : List Res) (w : World) (sa : Option Addr) (sc : Nat) (s : List (List UInt8)) (hrs : RdV B [] sa (textCells s)) (hms : s.length ≤ 1000000) (ta : Option Addr) (tc : Nat) (ss : List (List (List UInt8))) (txs : List Value) (htx : TxsAt B ss txs) (hrt : RdV B [] ta txs) (hmt : ss.length ≤ 10000) (hso : ∀ s ∈ ss, SortedT s ∧ s.length ≤ 1000000) (hv : Inv B H w) :
  Calls Tryz.prog 70 #[.slice sa s.length sc, .slice ta ss.length tc] w fun e w' => ∃ C oa oc out, B.Le C ∧ e = .returned (.slice oa out.length oc) ∧ SliceOk oa out.length oc ∧ RdV C [] oa (textCells out) ∧ out = diffS s ss ∧ Inv C H w' := by
 refine cW Tryz.func70 rfl Tryz.ntmps70 ?_
 simp only [al]
 refine sK fun _ k1 => rL (uA rfl ?_)
 refine uW k1 (sK fun _ k2 => ?_)
 refine rL (uA rfl ?_)
 refine uW k2 (sK fun _ k3 => ?_)
 refine sK fun _ k4 => rL (uM rfl ?_)
 refine uG (vI (s.length : Int)) rfl (ex_len0 Tryz.underlying22 rfl rfl) (uM rfl ?_)
 refine uW k4 (bB ?_)
 gi_loopw [10, 5] (fun x10 x5 wr => ∃ (i : Nat) (out : List (List UInt8)) (ra : Option Addr) (rc : Nat), x10 = vI i ∧ x5 = .slice ra out.length rc ∧ i ≤ s.length ∧ out = (s.take i).filter (fun x => !(ss.any fun l => decide (x ∈ l))) ∧ Inv B (Res.row 9 1 (.slice ra out.length rc) out.length (textCells out) :: H) wr) (fun x10 x5 _ => s.length - (intOf x10).toNat)
 case atStart => exact ⟨0, [], none, 0, rfl, rfl, Nat.zero_le _, rfl, hv.rowNil 9 1⟩
 case round =>
  obtain ⟨i, out, ra, rc, rfl, rfl, hi, hout, hv⟩ := hrel
  have hle9 : out.length ≤ s.length := by rw [hout]; exact Nat.le_trans (List.length_filter_le _ _) (by rw [List.length_take]; omega)
  refine sK fun _ k6 => rL ?_
  by_cases hb7 : (i : Int) < (s.length : Int)
  ·refine uG (.bool true) rfl (ex_lss rfl rfl rfl (qT hb7)) (uW k6 ?_)
   refine sK fun _ k8 => cT rfl (kS ?_)
   refine tK k8 (sK fun _ k9 => ?_)
   refine bB (sK fun _ k10 => ?_)
   obtain ⟨x, hx⟩ : ∃ x, s[i]? = some x := ⟨_, List.getElem?_eq_getElem (show i < s.length by omega)⟩
   obtain ⟨bb, bo, had, hrdx⟩ := text_reads hrs hx
   subst had
   refine rL (uG (.pointer (some ⟨bb, bo + i, none⟩)) rfl (ex_index rfl rfl rfl (run_idx1 (k := i) Tryz.underlying22 s9es22 (by omega))) ?_)
   refine uL _ rfl (run_load1 s9na9 (hrdx _ _ _ (Base.Le.refl _) no_res hv 0 _ rfl)) (uA rfl ?_)
   refine uW k10 (sK fun _ k11 => ?_)
   refine rL (uM rfl ?_)
   refine uM rfl ?_
   refine xC t3callable92 rfl ((setAnywhere B _ _ x ta tc ss txs htx hrt hmt hso hv).mono ?_) rfl
   rintro e w12 ⟨rfl, hv⟩
   refine ⟨_, rfl, uG (.bool (!(ss.any fun l => decide (x ∈ l)))) rfl (ex_not rfl rfl rfl) ?_⟩
   refine uW k11 (wpIn_cond_split (t := !(ss.any fun l => decide (x ∈ l))) rfl (fun hc13 => ?_) (fun hc13 => ?_))
   ·refine rL (uM rfl ?_)
    refine uM rfl ?_
    refine sl_rowOne (v := vS x) tV (wn rfl) rfl rfl hv t3el22 rfl (fun b14 w15 hv => ?_)
    simp only [zP, po]
    replace hv := hv.front 1 rfl
    simp only [eS, eZ] at hv
    refine sl_append (news := [vS x]) tV (wn rfl) rfl rfl rfl t3el22 hv (ok_full (by omega)) rfl (rd_all (hv.get 1 rfl)) (by intro u hu; simp only [List.mem_cons, List.not_mem_nil, or_false] at hu; rcases hu with rfl <;> rfl) (by unfold maxLen; omega) (by omega) (fun rv16 w19 hv => ?_)
    obtain ⟨ra17, rc18, rfl⟩ := row_slice hv.head
    refine uA rfl (uZ ?_)
    refine bN (tK k9 ?_)
    refine rL (uG (vI ((i + 1 : Nat) : Int)) rfl (ex_add rfl rfl rfl (by rw [i64_in (by omega)]; omega)) ?_)
    refine uM rfl (uZ ?_)
    refine then_normal ?_
    go_roundw
    case rel => exact ⟨i + 1, out ++ [x], _, _, rfl, by rw [List.length_append, List.length_singleton], by omega, by rw [hout]; exact (filter_yes (p := fun x => !(ss.any fun l => decide (x ∈ l))) hx hc13).symm, row_snoc (hv.kp [] 1 1)⟩
    case measure => show s.length - (((i + 1 : Nat) : Int)).toNat < s.length - ((i : Int)).toNat; omega
   refine kS (bN ?_)
   refine tK k9 (rL ?_)
   refine uG (vI ((i + 1 : Nat) : Int)) rfl (ex_add rfl rfl rfl (by rw [i64_in (by omega)]; omega)) (uM rfl ?_)
   refine uZ (then_normal ?_)
   go_roundw
   case rel => exact ⟨i + 1, out, _, _, rfl, rfl, by omega, by rw [hout]; exact (filter_no (p := fun x => !(ss.any fun l => decide (x ∈ l))) hx (by rw [hc13]; decide)).symm, hv⟩
   case measure => show s.length - (((i + 1 : Nat) : Int)).toNat < s.length - ((i : Int)).toNat; omega
  refine uG (.bool false) rfl (ex_lss rfl rfl rfl (qF hb7)) (uW k6 ?_)
  refine sK fun _ k20 => cF rfl (xE ?_)
  refine tX (tX ?_)
  refine bH (tK k3 ?_)
  refine sK fun _ k21 => rL (uM rfl ?_)
  refine uA rfl (uW k21 ?_)
  refine rR (bR rfl rfl ?_)
  obtain rfl : i = s.length := by omega
  rw [List.take_length] at hout
  obtain ⟨D, hD, hv, hro, hoko, -⟩ := (hv).rowBy
  exact ⟨D, ra, rc, out, hD, rfl, hoko, hro, hout, hv⟩
theorem t3callable93 : Callable Tryz.prog 93 := cb Tryz.func93 (by kernel_rfl)
theorem setInter (B : Base) (H : List Res) (w : World) (ta : Option Addr) (tc : Nat) (ss : List (List (List UInt8))) (txs : List Value) (htx : TxsAt B ss txs) (hrt : RdV B [] ta txs) (hmt : ss.length ≤ 10000) (hso : ∀ s ∈ ss, SortedT s ∧ s.length ≤ 1000000) (hokt : SliceOk ta ss.length tc) (hv : Inv B H w) :
  Calls Tryz.prog 71 #[.slice ta ss.length tc] w fun e w' => ∃ C oa oc out, B.Le C ∧ e = .returned (.slice oa out.length oc) ∧ SliceOk oa out.length oc ∧ RdV C [] oa (textCells out) ∧ ((ss = [] ∧ out = []) ∨ ∃ q, ss[0]? = some q ∧ out = interS q (ss.drop 1)) ∧ Inv C H w' := by
 refine cW Tryz.func71 rfl Tryz.ntmps71 ?_
 simp only [al]
 refine sK fun _ k1 => rL (uA rfl ?_)
 refine uW k1 (sK fun _ k2 => ?_)
 refine sK fun _ k3 => rL (uM rfl ?_)
 refine uG (vI (ss.length : Int)) rfl (ex_len0 Tryz.underlying143 rfl rfl) ?_
 by_cases hb4 : (ss.length : Int) = 0
 ·refine uG (.bool true) rfl (ex_eql rfl rfl rfl (qT hb4)) (uW k3 ?_)
  refine cT rfl (sK fun _ k5 => ?_)
  refine rL (uA rfl ?_)
  refine uW k5 (rR ?_)
  refine tR (bR rfl rfl ?_)
  obtain rfl : ss = [] := List.eq_nil_of_length_eq_zero (by omega)
  exact ⟨B, none, 0, [], Base.Le.refl _, rfl, ok_nil, rdV_nil, .inl ⟨rfl, rfl⟩, hv⟩
 refine uG (.bool false) rfl (ex_eql rfl rfl rfl (qF hb4)) (uW k3 ?_)
 refine cF rfl (kS ?_)
 refine tK k2 (sK fun _ k6 => ?_)
 obtain ⟨a3, c3, ha3, ok3, hr3⟩ := sliced_fromV 1 hokt hrt (by rw [htx.len, Nat.mul_one]) (show 1 ≤ ss.length by omega) (by decide)
 have hd1 : (ss.drop 1).length = ss.length - 1 := List.length_drop
 refine rL (uA rfl ?_)
 refine uW k6 (sK fun _ k7 => ?_)
 refine sK fun _ k8 => ?_
 obtain ⟨q, hq⟩ : ∃ x, ss[0]? = some x := ⟨_, List.getElem?_eq_getElem (show 0 < ss.length by omega)⟩
 obtain ⟨tb, to, qa, qc, had, hokq, hrq, hrdq⟩ := TxsAt.reads htx hrt hq
 subst had
 have hms := (hso q (List.mem_of_getElem? hq)).2
 refine rL (uM rfl ?_)
 refine uG (.pointer (some ⟨tb, to + 0, none⟩)) rfl (ex_index rfl rfl rfl (run_idx1 (k := 0) Tryz.underlying143 t3es143 (by omega))) ?_
 refine uL _ rfl (run_load1 s1na22 (hrdq _ _ _ (Base.Le.refl _) no_res hv 0 _ rfl)) ?_
 refine uG (vI (q.length : Int)) rfl (ex_len0 Tryz.underlying22 rfl rfl) (uM rfl ?_)
 refine uW k8 (bB ?_)
 gi_loopw [13, 3] (fun x13 x3 wr => ∃ (i : Nat) (out : List (List UInt8)) (ra : Option Addr) (rc : Nat), x13 = vI i ∧ x3 = .slice ra out.length rc ∧ i ≤ q.length ∧ out = (q.take i).filter (fun x => (ss.drop 1).all fun l => decide (x ∈ l)) ∧ Inv B (Res.row 9 1 (.slice ra out.length rc) out.length (textCells out) :: H) wr) (fun x13 x3 _ => q.length - (intOf x13).toNat)
 case atStart => exact ⟨0, [], none, 0, rfl, rfl, Nat.zero_le _, rfl, hv.rowNil 9 1⟩
 case round =>
  obtain ⟨i, out, ra, rc, rfl, rfl, hi, hout, hv⟩ := hrel
  have hle9 : out.length ≤ q.length := by rw [hout]; exact Nat.le_trans (List.length_filter_le _ _) (by rw [List.length_take]; omega)
  refine sK fun _ k10 => rL ?_
  by_cases hb11 : (i : Int) < (q.length : Int)
  ·refine uG (.bool true) rfl (ex_lss rfl rfl rfl (qT hb11)) (uW k10 ?_)
   refine sK fun _ k12 => cT rfl (kS ?_)
   refine tK k12 (sK fun _ k13 => ?_)
   refine bB (sK fun _ k14 => ?_)
   obtain ⟨x, hx⟩ : ∃ x, q[i]? = some x := ⟨_, List.getElem?_eq_getElem (show i < q.length by omega)⟩
   obtain ⟨qb, qo, had, hrdx⟩ := text_reads hrq hx
   subst had
   refine rL (uG (.pointer (some ⟨qb, qo + i, none⟩)) rfl (ex_index rfl rfl rfl (run_idx1 (k := i) Tryz.underlying22 s9es22 (by omega))) ?_)
   refine uL _ rfl (run_load1 s9na9 (hrdx _ _ _ (Base.Le.refl _) no_res hv 0 _ rfl)) (uA rfl ?_)
   refine uW k14 (sK fun _ k15 => ?_)
   refine rL (uM rfl ?_)
   refine uM rfl ?_
   skip
   refine uG (.slice a3 ((ss.drop 1).length) c3) rfl (ex_slice (lo' := some (vI ((1 : Nat) : Int))) rfl rfl (congrArg some rfl) rfl rfl ((run_fromAny Tryz.underlying143 t3es143 (by omega)).trans (by rw [ha3, hd1]))) ?_
   refine xC t3callable93 rfl ((setEverywhere B _ _ x a3 c3 (ss.drop 1) (txs.drop 1) (htx.drop 1) (by rw [Nat.mul_one] at hr3; exact hr3) (by rw [List.length_drop]; omega) (fun s hs => hso s (List.mem_of_mem_drop hs)) (by first | exact hv | (rw [List.length_drop]; exact hv))).mono ?_) rfl
   rintro e w16 ⟨rfl, hv⟩
   refine ⟨_, rfl, uW k15 ?_⟩
   refine wpIn_cond_split (t := (ss.drop 1).all fun l => decide (x ∈ l)) rfl (fun hc17 => ?_) (fun hc17 => ?_)
   ·refine rL (uM rfl ?_)
    refine uM rfl ?_
    refine sl_rowOne (v := vS x) tV (wn rfl) rfl rfl hv t3el22 rfl (fun b18 w19 hv => ?_)
    simp only [zP, po]
    replace hv := hv.front 1 rfl
    simp only [eS, eZ] at hv
    refine sl_append (news := [vS x]) tV (wn rfl) rfl rfl rfl t3el22 hv (ok_full (by omega)) rfl (rd_all (hv.get 1 rfl)) (by intro u hu; simp only [List.mem_cons, List.not_mem_nil, or_false] at hu; rcases hu with rfl <;> rfl) (by unfold maxLen; omega) (by omega) (fun rv20 w23 hv => ?_)
    obtain ⟨ra21, rc22, rfl⟩ := row_slice hv.head
    refine uA rfl (uZ ?_)
    refine bN (tK k13 ?_)
    refine rL (uG (vI ((i + 1 : Nat) : Int)) rfl (ex_add rfl rfl rfl (by rw [i64_in (by omega)]; omega)) ?_)
    refine uM rfl (uZ ?_)
    refine then_normal ?_
    go_roundw
    case rel => exact ⟨i + 1, out ++ [x], _, _, rfl, by rw [List.length_append, List.length_singleton], by omega, by rw [hout]; exact (filter_yes (p := fun x => (ss.drop 1).all fun l => decide (x ∈ l)) hx hc17).symm, row_snoc (hv.kp [] 1 1)⟩
    case measure => show q.length - (((i + 1 : Nat) : Int)).toNat < q.length - ((i : Int)).toNat; omega
   refine kS (bN ?_)
   refine tK k13 (rL ?_)
   refine uG (vI ((i + 1 : Nat) : Int)) rfl (ex_add rfl rfl rfl (by rw [i64_in (by omega)]; omega)) (uM rfl ?_)
   refine uZ (then_normal ?_)
   go_roundw
   case rel => exact ⟨i + 1, out, _, _, rfl, rfl, by omega, by rw [hout]; exact (filter_no (p := fun x => (ss.drop 1).all fun l => decide (x ∈ l)) hx (by rw [hc17]; decide)).symm, hv⟩
   case measure => show q.length - (((i + 1 : Nat) : Int)).toNat < q.length - ((i : Int)).toNat; omega
  refine uG (.bool false) rfl (ex_lss rfl rfl rfl (qF hb11)) (uW k10 ?_)
  refine sK fun _ k24 => cF rfl (xE ?_)
  refine tX (tX ?_)
  refine bH (tK k7 ?_)
  refine sK fun _ k25 => rL (uM rfl ?_)
  refine uA rfl (uW k25 ?_)
  refine rR (bR rfl rfl ?_)
  obtain rfl : i = q.length := by omega
  rw [List.take_length] at hout
  obtain ⟨D, hD, hv, hro, hoko, -⟩ := (hv).rowBy
  exact ⟨D, ra, rc, out, hD, rfl, hoko, hro, .inr ⟨q, hq, hout⟩, hv⟩
theorem t3mk22 : (Tryz.prog.info? 22).map (fun i => (i.zero, i.size, i.bytes)) = some (some (vN), 1, 24) := by kernel_rfl
theorem t3el143 : Elem Tryz.prog 143 22 (vN) 1 24 := elem_of Tryz.underlying143 t3mk22 (by rfl) (by decide)
theorem t3callable70 : Callable Tryz.prog 70 := cb Tryz.func70 (by kernel_rfl)
theorem setDel (B : Base) (H : List Res) (w : World) (sa : Option Addr) (sc : Nat) (s : List (List UInt8)) (hrs : RdV B [] sa (textCells s)) (hms : s.length ≤ 1000000) (xa : Option Addr) (xc : Nat) (xs : List (List UInt8)) (hokx : SliceOk xa xs.length xc) (hrx : RdV B [] xa (textCells xs)) (hmx : xs.length ≤ 1000000) (hv : Inv B H w) :
  Calls Tryz.prog 65 #[.slice sa s.length sc, .slice xa xs.length xc] w fun e w' => ∃ C oa oc out, B.Le C ∧ e = .returned (.tuple #[.slice oa out.length oc, vI ((s.length : Int) - (out.length : Int))]) ∧ SliceOk oa out.length oc ∧ RdV C [] oa (textCells out) ∧ out = diffS s [xs] ∧ Inv C H w' := by
 refine cW Tryz.func65 rfl Tryz.ntmps65 ?_
 simp only [al]
 refine sK fun _ k1 => rL (uA rfl ?_)
 refine uA rfl (uW k1 ?_)
 refine sK fun _ k2 => rL (uM rfl ?_)
 refine uM rfl ?_
 refine xC t2callable88 rfl ((setOrdered B _ _ xa xc xs hokx hrx hmx hv).mono ?_) rfl
 rintro e w3 ⟨C, fa, fc, fr, hC, rfl, hokf, hrf, hsf, hmf, hlf, hv⟩
 refine ⟨_, rfl, ?_⟩
 simp only [zP, po]
 refine sl_rowOne (v := .slice fa fr.length fc) tV (wn rfl) rfl rfl hv t3el143 rfl (fun b4 w5 hv => ?_)
 obtain ⟨D, hD, hv, hrk, -, -⟩ := (hv.cellRow (n := 1) (c := 1) (size := 1) rfl (by decide) (by decide)).rowBy
 refine xC t3callable70 rfl ((setDiff D _ _ sa sc s (hrs.more (hC.trans hD) (fun _ h => h)) hms (some ⟨b4, 0, none⟩) 1 [fr] _ (TxsAt.single ⟨fa, fc, rfl, hokf, hrf.more hD (fun _ h => h)⟩) hrk (by simp) (fun s hs => by rw [List.mem_singleton.1 hs]; exact ⟨hsf, by omega⟩) hv).mono ?_) rfl
 rintro e w6 ⟨E, oa, oc, out, hE, rfl, hoko, hro, hout, hv⟩
 refine ⟨_, rfl, ?_⟩
 have hde : diffS s [fr] = diffS s [xs] := by unfold diffS; congr 1; funext x; simp [hmf]
 rw [hde] at hout
 have hle : out.length ≤ s.length := by rw [hout]; exact List.length_filter_le _ _
 refine uA rfl (uW k2 ?_)
 refine sK fun _ k7 => rL (uM rfl ?_)
 refine uM rfl ?_
 refine uG (vI (s.length : Int)) rfl (ex_len0 Tryz.underlying22 rfl rfl) (uM rfl ?_)
 refine uG (vI (out.length : Int)) rfl (ex_len0 Tryz.underlying22 rfl rfl) ?_
 refine uG (vI ((s.length : Int) - (out.length : Int))) rfl (ex_sub rfl rfl rfl (i64_in (by omega))) (uA rfl ?_)
 refine uA rfl (uW k7 ?_)
 refine rR (bodyPost_ret (results_tmp2 rfl _ _ _) rfl ?_)
 exact ⟨E, oa, oc, out, ((hC.trans hD).trans hE), rfl, hoko, hro, hout, hv⟩
theorem t4mk9 : (Tryz.prog.info? 9).map (fun i => (i.zero, i.size, i.bytes)) = some (some (vS []), 1, 16) := by kernel_rfl
theorem t4el22 : Elem Tryz.prog 22 9 (vS []) 1 16 := elem_of Tryz.underlying22 t4mk9 (by rfl) (by decide)
theorem growTexts (B : Base) (H : List Res) (w : World) (n : Nat) (hn : n ≤ 1000000) (hv : Inv B H w) :
  Calls Tryz.prog 106 #[vN, vI n] w fun e w' => ∃ v, e = .returned v ∧ Inv B (Res.row 9 1 v 0 [] :: H) w' := by
 refine cW Tryz.func106 rfl Tryz.ntmps106 ?_
 simp only [al]
 refine sK fun _ k1 => rL (uA rfl ?_)
 refine uW k1 (sK fun _ k2 => ?_)
 refine sK fun _ k3 => rL (uM rfl ?_)
 refine uG (.bool false) rfl (ex_lss rfl rfl rfl (qF (by omega))) (uW k3 ?_)
 refine cF rfl (kS ?_)
 refine tK k2 (sK fun _ k4 => ?_)
 refine sK fun _ k5 => rL (uM rfl ?_)
 refine uM rfl ?_
 refine uG (vI 0) rfl (ex_cap0 Tryz.underlying22 rfl rfl) (uM rfl ?_)
 refine uG (vI 0) rfl (ex_len0 Tryz.underlying22 rfl rfl) ?_
 refine uG (vI 0) rfl (ex_sub rfl rfl rfl (i64_in (by omega))) ?_
 refine uG (vI n) rfl (ex_sub rfl rfl rfl (by rw [i64_in (by omega)]; omega)) (uA rfl ?_)
 refine uW k5 (sK fun _ k6 => ?_)
 refine rL (uM rfl ?_)
 by_cases hb7 : (n : Int) > 0
 ·refine uG (.bool true) rfl (ex_gtr rfl rfl rfl (qT hb7)) (uW k6 ?_)
  refine cT rfl (rL ?_)
  refine uM rfl (uM rfl ?_)
  refine uG (vI 0) rfl (ex_cap0 Tryz.underlying22 rfl rfl) ?_
  refine uG (vN) rfl (ex_slice (hi' := some (vI ((0 : Nat) : Int))) rfl rfl rfl (congrArg some rfl) rfl (run_hiAny (n := 0) (c := 0) (h := 0) Tryz.underlying22 s9es22 (Nat.le_refl _))) (uM rfl ?_)
  refine sl_appendZ0 (k := n) tV (wn rfl) rfl rfl rfl t4el22 Tryz.underlying3 hv (by omega) (by omega) (by omega) (fun b8 c' zs w9 hc1 hc2 hz hv => ?_)
  refine uM rfl ?_
  refine uG (vI 0) rfl (ex_len0 Tryz.underlying22 rfl rfl) ?_
  refine uG (.slice (some ⟨b8, 0, none⟩) 0 c') rfl (ex_slice (hi' := some (vI 0)) rfl rfl rfl (congrArg some rfl) rfl (run_hi Tryz.underlying22 s9es22 (Nat.zero_le _))) (uA rfl ?_)
  refine uW k4 (sK fun _ k10 => ?_)
  refine rL (uM rfl ?_)
  refine uA rfl (uW k10 ?_)
  refine rR (bR rfl rfl ?_)
  have hv2 := hv.cellRow (n := 0) (c := c') (size := 1) hz (Nat.zero_le _) hc2
  rw [Nat.zero_mul, List.take_zero] at hv2
  exact ⟨_, rfl, hv2⟩
 refine uG (.bool false) rfl (ex_gtr rfl rfl rfl (qF hb7)) (uW k6 ?_)
 refine cF rfl (kS ?_)
 refine tK k4 (sK fun _ k11 => ?_)
 refine rL (uM rfl ?_)
 refine uA rfl (uW k11 ?_)
 refine rR (bR rfl rfl ?_)
 exact ⟨_, rfl, hv.rowNil 9 1⟩
theorem sum_next {ss : List (List (List UInt8))} {i : Nat} {q : List (List UInt8)} (h : ss[i]? = some q) : (ss.take (i + 1)).flatten = (ss.take i).flatten ++ q := by
 rw [take_next h, List.flatten_append]; simp
theorem flat_le {ss : List (List (List UInt8))} (h : ∀ s ∈ ss, s.length ≤ 512) : ss.flatten.length ≤ ss.length * 512 := by
 induction ss with
 | nil => simp
 | cons a l ih =>
  rw [List.flatten_cons, List.length_append, List.length_cons, Nat.succ_mul]
  have := ih fun s hs => h s (List.mem_cons_of_mem _ hs)
  have := h a List.mem_cons_self
  omega
theorem flat_take_le {ss : List (List (List UInt8))} (h : ∀ s ∈ ss, s.length ≤ 512) (hm : ss.length ≤ 1000) (i : Nat) : (ss.take i).flatten.length ≤ 512000 := by
 have h1 := flat_le (ss := ss.take i) (fun s hs => h s (List.mem_of_mem_take hs))
 rw [List.length_take] at h1
 have h2 : min i ss.length * 512 ≤ 1000 * 512 := Nat.mul_le_mul_right _ (by omega)
 omega
theorem t4callable106 : Callable Tryz.prog 106 := cb Tryz.func106 (by kernel_rfl)
theorem concatTexts (B : Base) (H : List Res) (w : World) (ta : Option Addr) (tc : Nat) (ss : List (List (List UInt8))) (txs : List Value) (htx : TxsAt B ss txs) (hrt : RdV B [] ta txs) (hmt : ss.length ≤ 1000) (hsm : ∀ s ∈ ss, s.length ≤ 512) (hv : Inv B H w) :
  Calls Tryz.prog 94 #[.slice ta ss.length tc] w fun e w' => ∃ C oa oc out, B.Le C ∧ e = .returned (.slice oa out.length oc) ∧ SliceOk oa out.length oc ∧ RdV C [] oa (textCells out) ∧ out = ss.flatten ∧ Inv C H w' := by
 refine cW Tryz.func94 rfl Tryz.ntmps94 ?_
 simp only [al]
 refine sK fun _ k1 => rL (uA rfl ?_)
 refine uW k1 (sK fun _ k2 => ?_)
 refine rL (uA rfl ?_)
 refine uW k2 (sK fun _ k3 => ?_)
 refine sK fun _ k4 => rL (uM rfl ?_)
 refine uG (vI (ss.length : Int)) rfl (ex_len0 Tryz.underlying143 rfl rfl) (uM rfl ?_)
 refine uW k4 (bB ?_)
 gi_loopw [11, 3] (fun x11 x3 wr => ∃ (i : Nat), x11 = vI i ∧ x3 = vI (((ss.take i).flatten.length : Nat) : Int) ∧ i ≤ ss.length ∧ Inv B H wr) (fun x11 x3 _ => ss.length - (intOf x11).toNat)
 case atStart => exact ⟨0, rfl, rfl, Nat.zero_le _, hv⟩
 case round =>
  obtain ⟨i, rfl, rfl, hi, hv⟩ := hrel
  have hf0 := flat_take_le hsm hmt i
  refine sK fun _ k6 => rL ?_
  by_cases hb7 : (i : Int) < (ss.length : Int)
  ·refine uG (.bool true) rfl (ex_lss rfl rfl rfl (qT hb7)) (uW k6 ?_)
   refine sK fun _ k8 => cT rfl (kS ?_)
   refine tK k8 (sK fun _ k9 => ?_)
   refine bB (sK fun _ k10 => ?_)
   obtain ⟨q, hq⟩ : ∃ x, ss[i]? = some x := ⟨_, List.getElem?_eq_getElem (show i < ss.length by omega)⟩
   obtain ⟨tb, to, qa, qc, had, hokq, hrq, hrdq⟩ := TxsAt.reads htx hrt hq
   subst had
   have hql := hsm q (List.mem_of_getElem? hq)
   refine rL (uG (.pointer (some ⟨tb, to + i, none⟩)) rfl (ex_index rfl rfl rfl (run_idx1 (k := i) Tryz.underlying143 t3es143 (by omega))) ?_)
   refine uL _ rfl (run_load1 s1na22 (hrdq _ _ _ (Base.Le.refl _) no_res hv 0 _ rfl)) (uA rfl ?_)
   refine uW k10 (sK fun _ k11 => ?_)
   refine rL (uM rfl ?_)
   refine uM rfl ?_
   refine uG (vI (q.length : Int)) rfl (ex_len0 Tryz.underlying22 rfl rfl) ?_
   refine uG (vI (((ss.take i).flatten.length + q.length : Nat) : Int)) rfl (ex_add rfl rfl rfl (by rw [i64_in (by omega)]; omega)) (uA rfl ?_)
   refine uW k11 (sK fun _ k12 => ?_)
   refine rL (uM rfl ?_)
   refine uG (.bool false) rfl (ex_lss rfl rfl rfl (qF (by omega))) (uW k12 ?_)
   refine cF rfl (kS ?_)
   refine bN (tK k9 ?_)
   refine rL (uG (vI ((i + 1 : Nat) : Int)) rfl (ex_add rfl rfl rfl (by rw [i64_in (by omega)]; omega)) ?_)
   refine uM rfl (uZ ?_)
   refine then_normal ?_
   go_roundw
   case rel => exact ⟨i + 1, rfl, by rw [sum_next hq, List.length_append], by omega, hv⟩
   case measure => show ss.length - (((i + 1 : Nat) : Int)).toNat < ss.length - ((i : Int)).toNat; omega
  refine uG (.bool false) rfl (ex_lss rfl rfl rfl (qF hb7)) (uW k6 ?_)
  refine sK fun _ k13 => cF rfl (xE ?_)
  refine tX (tX ?_)
  refine bH (tK k3 ?_)
  refine sK fun _ k14 => rL (uM rfl ?_)
  obtain rfl : i = ss.length := by omega
  rw [List.take_length] at hf0
  have htl : (ss.take ss.length).flatten.length = ss.flatten.length := by rw [List.take_length]
  refine xC t4callable106 rfl ((growTexts B _ _ (ss.take ss.length).flatten.length (by omega) hv).mono ?_) rfl
  rintro e w15 ⟨v, rfl, hv⟩
  refine ⟨_, rfl, ?_⟩
  obtain ⟨ra0, rc0, rfl⟩ := row_slice hv.head
  refine uA rfl (uW k14 ?_)
  refine sK fun _ k16 => sK fun _ k17 => rL (uM rfl ?_)
  refine uG (vI (ss.length : Int)) rfl (ex_len0 Tryz.underlying143 rfl rfl) (uM rfl ?_)
  refine uW k17 (bB ?_)
  gi_loopw [27, 6] (fun x27 x6 wr => ∃ (i : Nat) (out : List (List UInt8)) (ra : Option Addr) (rc : Nat), x27 = vI i ∧ x6 = .slice ra out.length rc ∧ i ≤ ss.length ∧ out = (ss.take i).flatten ∧ Inv B (Res.row 9 1 (.slice ra out.length rc) out.length (textCells out) :: H) wr) (fun x27 x6 _ => ss.length - (intOf x27).toNat)
  case atStart => exact ⟨0, [], ra0, rc0, rfl, rfl, Nat.zero_le _, rfl, hv⟩
  case round =>
   obtain ⟨i, out, ra, rc, rfl, rfl, hi, hout, hv⟩ := hrel
   have hf0 := flat_take_le hsm hmt i
   rw [← hout] at hf0
   refine sK fun _ k19 => rL ?_
   by_cases hb20 : (i : Int) < (ss.length : Int)
   ·refine uG (.bool true) rfl (ex_lss rfl rfl rfl (qT hb20)) (uW k19 ?_)
    refine sK fun _ k21 => cT rfl (kS ?_)
    refine tK k21 (sK fun _ k22 => ?_)
    refine bB (sK fun _ k23 => ?_)
    obtain ⟨q, hq⟩ : ∃ x, ss[i]? = some x := ⟨_, List.getElem?_eq_getElem (show i < ss.length by omega)⟩
    obtain ⟨tb, to, qa, qc, had, hokq, hrq, hrdq⟩ := TxsAt.reads htx hrt hq
    subst had
    have hql := hsm q (List.mem_of_getElem? hq)
    refine rL (uG (.pointer (some ⟨tb, to + i, none⟩)) rfl (ex_index rfl rfl rfl (run_idx1 (k := i) Tryz.underlying143 t3es143 (by omega))) ?_)
    refine uL _ rfl (run_load1 s1na22 (hrdq _ _ _ (Base.Le.refl _) no_res hv 0 _ rfl)) (uA rfl ?_)
    refine uW k23 (rL ?_)
    refine uM rfl (uM rfl ?_)
    refine sl_append (news := textCells q) tV (wn rfl) rfl rfl rfl t4el22 hv hokq (textCells_len q) ((hrq.more (Base.Le.refl _) (fun _ h => by cases h) : RdV B _ _ _).src hv) (textCells_one q) (by unfold maxLen; omega) (by omega) (fun rv24 w27 hv => ?_)
    obtain ⟨ra25, rc26, rfl⟩ := row_slice hv.head
    refine uA rfl (uZ ?_)
    refine bN (tK k22 ?_)
    refine rL (uG (vI ((i + 1 : Nat) : Int)) rfl (ex_add rfl rfl rfl (by rw [i64_in (by omega)]; omega)) ?_)
    refine uM rfl (uZ ?_)
    refine then_normal ?_
    go_roundw
    case rel => exact ⟨i + 1, out ++ q, _, _, rfl, by rw [List.length_append], by omega, by rw [sum_next hq, hout], by rw [List.length_append, ← text_app]; exact hv⟩
    case measure => show ss.length - (((i + 1 : Nat) : Int)).toNat < ss.length - ((i : Int)).toNat; omega
   refine uG (.bool false) rfl (ex_lss rfl rfl rfl (qF hb20)) (uW k19 ?_)
   refine sK fun _ k28 => cF rfl (xE ?_)
   refine tX (tX ?_)
   refine bH (tK k16 ?_)
   refine sK fun _ k29 => rL (uM rfl ?_)
   refine uA rfl (uW k29 ?_)
   refine rR (bR rfl rfl ?_)
   obtain rfl : i = ss.length := by omega
   rw [List.take_length] at hout
   obtain ⟨D, hD, hv, hro, hoko, -⟩ := (hv).rowBy
   exact ⟨D, ra, rc, out, hD, rfl, hoko, hro, hout, hv⟩
theorem t4callable94 : Callable Tryz.prog 94 := cb Tryz.func94 (by kernel_rfl)
theorem setUnion (B : Base) (H : List Res) (w : World) (ta : Option Addr) (tc : Nat) (ss : List (List (List UInt8))) (txs : List Value) (htx : TxsAt B ss txs) (hrt : RdV B [] ta txs) (hmt : ss.length ≤ 1000) (hsm : ∀ s ∈ ss, s.length ≤ 512) (hv : Inv B H w) :
  Calls Tryz.prog 72 #[.slice ta ss.length tc] w fun e w' => ∃ C oa oc out ec, B.Le C ∧ e = .returned (.tuple #[.slice oa out.length oc, vI ec]) ∧ SliceOk oa out.length oc ∧ RdV C [] oa (textCells out) ∧ (∃ j, JoinAll ss j ∧ ((ec = 22 ∧ out = [] ∧ 512 < j.length) ∨ (ec = 0 ∧ j.length ≤ 512 ∧ out = j))) ∧ Inv C H w' := by
 refine cW Tryz.func72 rfl Tryz.ntmps72 ?_
 simp only [al]
 refine sK fun _ k1 => rL (uA rfl ?_)
 refine uA rfl (uW k1 ?_)
 refine sK fun _ k2 => rL (uM rfl ?_)
 refine xC t4callable94 rfl ((concatTexts B _ _ ta tc ss txs htx hrt hmt hsm hv).mono ?_) rfl
 rintro e w3 ⟨C, ca, cc, fl, hC, rfl, hokc, hrc, hfl, hv⟩
 refine ⟨_, rfl, ?_⟩
 have hfle : fl.length ≤ 512000 := by have h9 := flat_take_le hsm hmt ss.length; rw [List.take_length, ← hfl] at h9; exact h9
 refine xC t2callable88 rfl ((setOrdered C _ _ ca cc fl hokc hrc (by omega) hv).mono ?_) rfl
 rintro e w4 ⟨D, fa, fc, fr, hD, rfl, hokf, hrf, hsf, hmf, hlf, hv⟩
 refine ⟨_, rfl, uA rfl ?_⟩
 refine uW k2 (sK fun _ k5 => ?_)
 refine sK fun _ k6 => rL (uM rfl ?_)
 refine uG (vI (fr.length : Int)) rfl (ex_len0 Tryz.underlying22 rfl rfl) ?_
 by_cases hb7 : (fr.length : Int) > 512
 ·refine uG (.bool true) rfl (ex_gtr rfl rfl rfl (qT hb7)) (uW k6 ?_)
  refine cT rfl (sK fun _ k8 => ?_)
  refine rL (uA rfl ?_)
  refine uA rfl (uW k8 ?_)
  refine rR (tR ?_)
  refine bodyPost_ret (results_tmp2 rfl _ _ _) rfl (⟨D, none, 0, [], 22, (hC.trans hD), rfl, ok_nil, rdV_nil, ⟨fr, ⟨hsf, fun x => by rw [hmf, hfl]; simp⟩, .inl ⟨rfl, rfl, by omega⟩⟩, hv⟩)
 refine uG (.bool false) rfl (ex_gtr rfl rfl rfl (qF hb7)) (uW k6 ?_)
 refine cF rfl (kS ?_)
 refine tK k5 (sK fun _ k9 => ?_)
 refine rL (uM rfl ?_)
 refine uA rfl (uA rfl ?_)
 refine uW k9 (rR ?_)
 refine bodyPost_ret (results_tmp2 rfl _ _ _) rfl (⟨D, fa, fc, fr, 0, (hC.trans hD), rfl, hokf, hrf, ⟨fr, ⟨hsf, fun x => by rw [hmf, hfl]; simp⟩, .inr ⟨rfl, by omega, rfl⟩⟩, hv⟩)
theorem setOk_iff {l : List (List UInt8)} : SetOk l ↔ l.length ≤ 512 ∧ (∀ x ∈ l, x.length ≤ 4096) ∧ SortedT l := by
 constructor
 ·rintro ⟨h1, h2⟩
  refine ⟨h1, fun x hx => ?_, ?_⟩
  ·obtain ⟨i, hi⟩ := List.mem_iff_getElem?.1 hx
   exact (h2 i x hi).1
  have step : ∀ (i : Nat) x y, l[i]? = some x → l[i + 1]? = some y → Op.bytesLess x y = true := fun i x y hx hy => (h2 (i + 1) y hy).2 i x rfl hx
  have far : ∀ (d i : Nat) x y, l[i]? = some x → l[i + d + 1]? = some y → Op.bytesLess x y = true := by
   intro d
   induction d with
   | zero => intro i x y hx hy; exact step i x y hx hy
   | succ d ih =>
    intro i x y hx hy
    obtain ⟨z, hz⟩ : ∃ z, l[i + d + 1]? = some z := ⟨_, List.getElem?_eq_getElem (by have := (List.getElem?_eq_some_iff.1 hy).1; omega)⟩
    exact lt_trans _ _ _ (ih i x z hx hz) (step (i + d + 1) z y hz hy)
  refine List.pairwise_iff_getElem.2 fun i j hi hj hij => far (j - i - 1) i _ _ (List.getElem?_eq_getElem hi) ?_
  rw [show i + (j - i - 1) + 1 = j by omega]; exact List.getElem?_eq_getElem hj
 rintro ⟨h1, h2, h3⟩
 refine ⟨h1, fun i x hx => ⟨h2 x (List.mem_of_getElem? hx), fun j y hj hy => ?_⟩⟩
 exact pair_at h3 (show j < i by omega) hy hx
def OkM (M : List (List UInt8 × Ver)) : Prop := ∀ k y, lookA M k = some y → y.gone = true ∨ PutOk k y.val y.expire
section
variable {M M' : List (List UInt8 × Ver)} {clk exp ec : Int} {key : List UInt8} {x : Val} {y : Ver}
theorem OkM.nil : OkM [] := fun k y h => by cases h
theorem OkM.upd (h : OkM M) {k : List UInt8} {y : Ver} (hy : y.gone = true ∨ PutOk k y.val y.expire) : OkM (updA M k y) := fun k2 y2 h2 => by
 rw [look_upd] at h2
 split at h2
 ·rename_i e; cases h2; subst e; exact hy
 exact h k2 y2 h2
theorem OkM.keep (h : OkM M) (hk : KeepI M clk key x exp ec M') : OkM M' := by
 rcases hk with ⟨-, h1, -, rfl⟩ | ⟨-, -, -, rfl⟩ | ⟨-, -, -, rfl⟩ | ⟨-, -, ⟨-, -, rfl⟩ | ⟨-, -, rfl⟩⟩
 ·exact h.upd (.inr h1)
 ·exact h
 ·exact h
 ·exact h.upd (.inl rfl)
 exact h
theorem keep_not (hk : KeepI M clk key x exp ec M') (he : ec ≠ 0) : M' = M := by
 rcases hk with ⟨-, -, h, -⟩ | ⟨-, -, -, rfl⟩ | ⟨-, -, -, rfl⟩ | ⟨-, -, ⟨-, h, -⟩ | ⟨-, -, rfl⟩⟩
 ·exact absurd h he
 ·rfl
 ·rfl
 ·exact absurd h he
 rfl
theorem alive_gone {y : Ver} (h : aliveB y clk = true) : y.gone = false := by
 unfold aliveB at h
 cases hy : y.gone <;> simp [hy] at h ⊢
theorem OkM.alive (h : OkM M) (hl : lookA M key = some y) (ha : aliveB y clk = true) : PutOk key y.val y.expire := by
 rcases h key y hl with h1 | h1
 ·rw [alive_gone ha] at h1; cases h1
 exact h1
theorem valOk4 {v : Val} (h : ValOk v) (hk : v.kind = 4) : SetOk v.texts ∧ 0 < v.texts.length := by
 rcases h with ⟨h1, -⟩ | ⟨h1, -⟩ | ⟨h1, -⟩ | ⟨h1, h2, h3, -⟩ | ⟨h1, -⟩
 ·omega
 ·omega
 ·omega
 ·exact ⟨h3, h2⟩
 omega
theorem OkM.set (h : OkM M) (ho : OfI M clk key 4 y ec) : SetOk y.val.texts := by
 rcases ho with ⟨-, rfl, -⟩ | ⟨-, rfl, -⟩ | ⟨-, h1, h2, h3⟩
 ·exact ⟨Nat.zero_le _, fun i x hx => by simp [zver0] at hx⟩
 ·exact ⟨Nat.zero_le _, fun i x hx => by simp [zver0] at hx⟩
 exact (valOk4 (h.alive h1 h2).2.1 h3).1
theorem OkM.sorted (h : OkM M) (ho : OfI M clk key 4 y ec) : SortedT y.val.texts := (setOk_iff.1 (h.set ho)).2.2
end
def setV (l : List (List UInt8)) : Val := ⟨4, [], [], l, []⟩
def IsF (r : Rp) : Prop := r.kind = 1
def DoneR (ec : Int) (r0 r : Rp) : Prop := (ec = 0 ∧ r = r0) ∨ (ec ≠ 0 ∧ IsF r)
def ChangeR (M : List (List UInt8 × Ver)) (clk : Int) (key : List UInt8) (add : Bool) (xs : List (List UInt8)) (M' : List (List UInt8 × Ver)) (r : Rp) : Prop :=
 ∃ y ec, OfI M clk key 4 y ec ∧ ((ec ≠ 0 ∧ M' = M ∧ IsF r) ∨ (ec = 0 ∧ ∃ out n ec2, (if add then AddR y.val.texts xs out n ec2 else (out = diffS y.val.texts [xs] ∧ n = (y.val.texts.length : Int) - out.length ∧ ec2 = 0)) ∧
  ((ec2 = 0 ∧ 0 < n ∧ ∃ ec3, KeepI M clk key (setV out) y.expire ec3 M' ∧ DoneR ec3 (rInt n) r) ∨ (¬ (ec2 = 0 ∧ 0 < n) ∧ M' = M ∧ DoneR ec2 (rInt n) r))))
def CmdR (M M' : List (List UInt8 × Ver)) (r : Rp) : Prop := OkM M' ∧ (IsF r → M' = M)
theorem isF_int {n : Int} : ¬ IsF (rInt n) := fun h => absurd (show (2 : Int) = 1 from h) (by decide)
theorem DoneR.keep {M M' : List (List UInt8 × Ver)} {clk exp ec : Int} {key : List UInt8} {x : Val} {r0 r : Rp} (hM : OkM M) (hk : KeepI M clk key x exp ec M') (hd : DoneR ec r0 r) (h0 : ¬ IsF r0) : CmdR M M' r := by
 refine ⟨hM.keep hk, fun hf => ?_⟩
 rcases hd with ⟨-, rfl⟩ | ⟨he, -⟩
 ·exact absurd hf h0
 exact keep_not hk he
theorem ChangeR.cmd {M M' : List (List UInt8 × Ver)} {clk : Int} {key : List UInt8} {add : Bool} {xs : List (List UInt8)} {r : Rp} (hM : OkM M) (h : ChangeR M clk key add xs M' r) : CmdR M M' r := by
 obtain ⟨y, ec, ho, ⟨-, rfl, -⟩ | ⟨-, out, n, ec2, -, ⟨-, -, ec3, hk, hd⟩ | ⟨-, rfl, -⟩⟩⟩ := h
 ·exact ⟨hM, fun _ => rfl⟩
 ·exact hd.keep hM hk isF_int
 exact ⟨hM, fun _ => rfl⟩
abbrev nSADD : List UInt8 := [83, 65, 68, 68]
abbrev nSCARD : List UInt8 := [83, 67, 65, 82, 68]
abbrev nSISM : List UInt8 := [83, 73, 83, 77, 69, 77, 66, 69, 82]
abbrev nSMEM : List UInt8 := [83, 77, 69, 77, 66, 69, 82, 83]
abbrev nSDIFF : List UInt8 := [83, 68, 73, 70, 70]
abbrev nSINTER : List UInt8 := [83, 73, 78, 84, 69, 82]
def AskR (M : List (List UInt8 × Ver)) (clk : Int) (name key : List UInt8) (xs : List (List UInt8)) (r : Rp) : Prop :=
 ∃ y ec, OfI M clk key 4 y ec ∧ ((ec ≠ 0 ∧ IsF r) ∨ (ec = 0 ∧ ((name = nSCARD ∧ r = rInt (y.val.texts.length : Int)) ∨ (name = nSISM ∧ ∃ x, xs[0]? = some x ∧ r = rInt (if decide (x ∈ y.val.texts) then 1 else 0)) ∨ (name = nSMEM ∧ r = rStrs y.val.texts) ∨ (name ≠ nSCARD ∧ name ≠ nSISM ∧ name ≠ nSMEM ∧ r.kind = 5))))
def SetsR (M : List (List UInt8 × Ver)) (clk : Int) (keys : List (List UInt8)) (ss : List (List (List UInt8))) (ec : Int) : Prop :=
 (ec = 0 ∧ ss.length = keys.length ∧ ∀ (i : Nat) k s, keys[i]? = some k → ss[i]? = some s → ∃ y, OfI M clk k 4 y 0 ∧ s = y.val.texts) ∨ (ec ≠ 0 ∧ ss = [] ∧ ∃ k ∈ keys, ∃ y, OfI M clk k 4 y ec)
def CombR (M : List (List UInt8 × Ver)) (clk : Int) (name : List UInt8) (keys out : List (List UInt8)) (ec : Int) : Prop :=
 ∃ ss e1, SetsR M clk keys ss e1 ∧ ((e1 ≠ 0 ∧ ec = e1 ∧ out = []) ∨ (e1 = 0 ∧ ((name = nSDIFF ∧ ec = 0 ∧ ∃ q, ss[0]? = some q ∧ out = diffS q (ss.drop 1)) ∨ (name ≠ nSDIFF ∧ name = nSINTER ∧ ec = 0 ∧ ((ss = [] ∧ out = []) ∨ ∃ q, ss[0]? = some q ∧ out = interS q (ss.drop 1))) ∨
  (name ≠ nSDIFF ∧ name ≠ nSINTER ∧ ∃ j, JoinAll ss j ∧ ((ec = 22 ∧ out = [] ∧ 512 < j.length) ∨ (ec = 0 ∧ j.length ≤ 512 ∧ out = j))))))
def MoveR (M : List (List UInt8 × Ver)) (clk : Int) (k l x : List UInt8) (M' : List (List UInt8 × Ver)) (r : Rp) : Prop :=
 ∃ y1 e1, OfI M clk k 4 y1 e1 ∧ ((e1 ≠ 0 ∧ M' = M ∧ IsF r) ∨ (e1 = 0 ∧ ∃ y2 e2, OfI M clk l 4 y2 e2 ∧ ((e2 ≠ 0 ∧ M' = M ∧ IsF r) ∨ (e2 = 0 ∧
  (((k = l ∨ x ∉ y1.val.texts) ∧ M' = M ∧ r = rInt (if decide (x ∈ y1.val.texts) then 1 else 0)) ∨ (k ≠ l ∧ x ∈ y1.val.texts ∧ ∃ out n e3, AddR y2.val.texts [x] out n e3 ∧ ((e3 ≠ 0 ∧ M' = M ∧ IsF r) ∨ (e3 = 0 ∧ ∃ M1 e4, KeepI M clk l (setV out) y2.expire e4 M1 ∧
   ((e4 ≠ 0 ∧ M' = M1 ∧ IsF r) ∨ (e4 = 0 ∧ ∃ e5, KeepI M1 clk k (setV (diffS y1.val.texts [[x]])) y1.expire e5 M' ∧ DoneR e5 (rInt 1) r))))))))))
abbrev nSDIFFS : List UInt8 := [83, 68, 73, 70, 70, 83, 84, 79, 82, 69]
abbrev nSUNIONS : List UInt8 := [83, 85, 78, 73, 79, 78, 83, 84, 79, 82, 69]
abbrev nSMOVE : List UInt8 := [83, 77, 79, 86, 69]
end Go.Proofs.YtoljdfjnannakaaGreatDoor
