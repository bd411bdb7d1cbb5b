/- A region that draws its order: stages of memory with names that come up on the way. -/
import Derived.Test.YtffmbdagjpdieaaSpA
import Derived.Lib.LazyBuf
import Derived.Test.YtffmbdagjpdieaaRows
set_option maxRecDepth 100000
namespace Go.Pm
open Go.RowKit
structure Stg where
 p : List Value → World → Prop
 st : ∀ vals w w', p vals w → Ext w w' → p vals w'
def Stg.no : Stg := ⟨fun _ _ => False, fun _ _ _ h _ => h⟩
def JS (Ks : List Stg) (vals : List Value) (w : World) : Prop := (Ks.getD vals.length Stg.no).p vals w
theorem JS.ext {Ks : List Stg} : ∀ vals w w', JS Ks vals w → Ext w w' → JS Ks vals w' := fun vals w w' h he => (Ks.getD vals.length Stg.no).st vals w w' h he
theorem JS.at0 {Ks : List Stg} {vals : List Value} {w : World} (h : JS Ks vals w) {k : Nat} (hk : vals.length = k) : (Ks.getD k Stg.no).p vals w := by subst hk; exact h
theorem JS.le {Ks : List Stg} {vals : List Value} {w : World} {n : Nat} (hn : Ks.length = n + 1) (h : JS Ks vals w) : vals.length ≤ n := by
 unfold JS at h
 by_cases hl : vals.length < Ks.length
 ·omega
 rw [List.getD_eq_getElem?_getD, List.getElem?_eq_none (by omega)] at h
 exact h.elim
theorem JS.next {Ks : List Stg} {vals : List Value} {v : Value} {w : World} {k : Nat} (hk : vals.length = k) (h : (Ks.getD (k + 1) Stg.no).p (vals ++ [v]) w) : JS Ks (vals ++ [v]) w := by
 subst hk
 unfold JS
 rw [List.length_append]
 exact h
section
variable {n : Nat} {P : Program} {ops : Array Oper} {Q : Exit → Act → World → Prop} {a0 : Act} {w0 : World}
theorem region_st {id : Nat} (hm : P.follows .mixedOrders = true) (VS : List Value) (mem : List Nat) (Ks : List Stg) (k : Nat) (hsize : a0.tmps.size = k)
  (hck : (backward ops && onceDst ops && fitsDst ops k && decide mem.Nodup && chained ops mem && mem.all (· < ops.size) && decide (VS.length = ops.size)) = true)
  (h0 : (Ks.getD 0 Stg.no).p [] w0)
  (hop : AllOps (fun i o => ∀ a w vals, JS Ks vals w → Ready3 ops (VS.map SP.eq) mem a0 a w vals i → if mem.contains i then (vals.length = place mem i → StepMem P ops (JS Ks) Q o a w vals) else StepAdds P ops (VS.map SP.eq) Q i o a w) 0 ops.toList)
  (hfin : ∀ w vals, (Ks.getD mem.length Stg.no).p vals w → Q .normal (putAll ops.toList (mixV mem vals 0 VS) a0) w) : (Code.region id ops true).wpIn Fence.wide n P Q a0 w0 :=
 region_det hm VS mem (JS Ks) k hsize hck h0 JS.ext hop (fun w vals hvl hJ => hfin w vals (hJ.at0 hvl))
end
section
variable {P : Program} {ops : Array Oper} {Q : Exit → Act → World → Prop} {J : List Value → World → Prop} {a : Act} {w : World} {vals : List Value} {o : Oper} {v : Value} {B : Base} {H : List Res} {t e : TypeId} {x y : Operand} {L : List Value}
theorem mem_row1 {zv : Value} {bytes : Nat} (hg : Region.wanted o (yielded ops a.tmps) = true) (ho : o.op = .buildSlice t 1 #[(0, x)]) (hx : a.eval x = v) (hv : Inv B H w) (E : Elem P t e zv 1 bytes) (h1 : v.cells = #[v])
  (h : ∀ b w', Inv B (Res.cell b [v] e :: H) w' → J (vals ++ [.slice (some ⟨b, 0, none⟩) 1 1]) w') : StepMem P ops J Q o a w vals :=
 Ex.mem (ex_row1 ho hx (run_buildSlice1 E w v h1)) hg (h _ _ (hv.alloc [v] e))
theorem mem_storeAt (k : Nat) {b off : Nat} {L' : List Value} (hg : Region.wanted o (yielded ops a.tmps) = true) (ho : o.op = .store t x y) (hx : a.eval x = .pointer (some ⟨b, off, none⟩)) (hy : a.eval y = v) (hv : Inv B H w) (hk : H[k]? = some (Res.cell b L e)) (hz : (P.info? t).map (·.size) = some 1)
  (hoff : off < L.length) (hc : v.cells = #[v]) (h1 : v.oneCell' = true) (hL : L.set off v = L') (h : ∀ w', Inv B (H.set k (Res.cell b L' e)) w' → J (vals ++ [undef]) w') : StepMem P ops J Q o a w vals := by
 subst hL
 exact ExU.mem (ex_store ho hx hy (run_store1 hz (hv.get k hk : Blk w b L e) hoff hc h1)) hg (h _ (hv.putAt k hk _))
end
section
variable {F : Fence} {n : Nat} {P : Program} {ops : Array Oper} {Q : Exit → Act → World → Prop} {a : Act} {w : World} {rest : List Oper} {o : Oper} {v zv : Value} {B : Base} {H : List Res} {t e : TypeId} {x : Operand} {bytes : Nat}
theorem sl_rowOne (hF : ∀ f, F.fn f) (hg : Region.wanted o (yielded ops a.tmps) = true) (ho : o.op = .buildSlice t 1 #[(0, x)]) (hx : a.eval x = v) (hv : Inv B H w) (E : Elem P t e zv 1 bytes) (h1 : v.cells = #[v])
  (h : ∀ b w', Inv B (Res.cell b [v] e :: H) w' → wpListIn F n P ops Q rest (a.put o.dst (.slice (some ⟨b, 0, none⟩) 1 1)) w') : wpListIn F n P ops Q (o :: rest) a w :=
 wpi_exG hF hg (by unfold isDefer; rw [ho]) (ex_row1 ho hx (run_buildSlice1 E w v h1)) (h _ _ (hv.alloc [v] e))
end
theorem elem_of {P : Program} {t e : TypeId} {z : Value} {size bytes : Nat} (ht : P.underlying t = some (.slice e)) (hi : (P.info? e).map (fun i => (i.zero, i.size, i.bytes)) = some (some z, size, bytes)) (hz : z.cells.size = size) (hp : 0 < size) : Elem P t e z size bytes := by
 refine ⟨ht, ?_, hz, hp⟩
 obtain ⟨i, hi, h⟩ := Option.map_eq_some_iff.1 hi
 simp only [Prod.mk.injEq] at h
 exact ⟨i, hi, h⟩
end Go.Pm
/- Numbers in octets, the most significant first. -/
namespace Go.Pm
open Go.RowKit
theorem snocInd {α : Type} {p : List α → Prop} (h0 : p []) (h1 : ∀ l c, p l → p (l ++ [c])) (l : List α) : p l := by
 have key : ∀ n (l : List α), l.length = n → p l := by
  intro n
  induction n with
  | zero => intro l hl; rw [List.eq_nil_of_length_eq_zero hl]; exact h0
  | succ n ih =>
   intro l hl
   have hne : l ≠ [] := fun e => by subst e; simp at hl
   rw [← List.dropLast_concat_getLast hne]
   exact h1 _ _ (ih _ (by simp [hl]))
 exact key _ l rfl
end Go.Pm
/- Structs: built, loaded, stored; results in cells. -/
namespace Go.Pm
open Go.RowKit
section
variable {P : Program} {a : Act} {w w' : World} {o : Oper} {v : Value} {x y : Operand} {t e : TypeId}
theorem ex_buildN {parts : Array (Nat × Operand)} {vs : Array (Nat × Value)} (ho : o.op = .build t parts) (hp : parts.map (fun (p : Nat × Operand) => (p.1, a.eval p.2)) = vs) (hr : (Instr.build t vs).run P w = .ok v w) : Ex P a o w v w := by
 unfold Ex
 have : (parts.map fun (i, x) => (i, a.eval x)) = vs := hp
 simp [execOp, ho, this, hr]
theorem one_nil : ∀ v ∈ ([] : List Value), v.oneCell' = true := fun _ h => by cases h
theorem one_cons {v : Value} {l : List Value} (h : v.oneCell' = true) (k : ∀ v ∈ l, v.oneCell' = true) : ∀ u ∈ v :: l, u.oneCell' = true := List.forall_mem_cons.2 ⟨h, k⟩
theorem wide_of {n : Nat} (h1 : ∀ w, (isAgg t).run P w = .ok true w) (h2 : (P.info? t).map (·.size) = some n) : Wide P t n := ⟨h1, h2⟩
theorem res_cell1 {fn : Func} {r : Nat} (h : fn.results = #[.cell r t]) {tmps : Array Value} {ad : Addr} (hr : tmps.getD r undef = .pointer (some ad)) (hl : (Instr.loadAt t (.pointer (some ad))).run P w = .ok v w) : (results fn tmps).run P w = .ok v w := by
 have hl' : (loadVar t ad).run P w = .ok v w := by simpa [Instr.loadAt, Instr.sureAddr] using hl
 have hr' : tmps[r]?.getD undef = .pointer (some ad) := by rw [← hr, Array.getD_eq_getD_getElem?]
 simp [results, h, hr', asAddr, hl']
theorem res_cell2 {fn : Func} {r i : Nat} (h : fn.results = #[.cell r t, .tmp i]) {tmps : Array Value} {ad : Addr} (hr : tmps.getD r undef = .pointer (some ad)) (hl : (Instr.loadAt t (.pointer (some ad))).run P w = .ok v w) : (results fn tmps).run P w = .ok (.tuple #[v, tmps.getD i undef]) w := by
 have hl' : (loadVar t ad).run P w = .ok v w := by simpa [Instr.loadAt, Instr.sureAddr] using hl
 have hr' : tmps[r]?.getD undef = .pointer (some ad) := by rw [← hr, Array.getD_eq_getD_getElem?]
 simp [results, h, hr', asAddr, hl']
end
section
variable {F : Fence} {n : Nat} {P : Program} {ops : Array Oper} {Q : Exit → Act → World → Prop} {a : Act} {w : World} {rest : List Oper} {o : Oper} {v : Value} {B : Base} {H : List Res} {t e : TypeId} {x y : Operand}
end
section
variable {P : Program} {ops : Array Oper} {Q : Exit → Act → World → Prop} {J : List Value → World → Prop} {a : Act} {w : World} {vals : List Value} {o : Oper} {B : Base} {H : List Res} {t e : TypeId} {x y : Operand} {L : List Value}
end
theorem row_slice {w : World} {e : TypeId} {size : Nat} {v : Value} {n : Nat} {xs : List Value} (h : w.ownsRow 0 e size v n xs) : ∃ ad c, v = .slice ad n c := by
 rcases h.2 with ⟨rfl, rfl⟩ | ⟨g, cap, cur, rfl, _⟩
 ·exact ⟨_, _, rfl⟩
 exact ⟨_, _, rfl⟩
end Go.Pm
/- Bytes out of a text; rows that stay for good. -/
namespace Go.Pm
open Go.RowKit
section
variable {F : Fence} {n : Nat} {P : Program} {ops : Array Oper} {Q : Exit → Act → World → Prop} {a : Act} {w : World} {rest : List Oper} {o : Oper} {B : Base} {H : List Res} {t e u : TypeId} {x : Operand}
end
end Go.Pm
/- A row of one struct. -/
namespace Go.Pm
open Go.RowKit
section
variable {F : Fence} {n : Nat} {P : Program} {ops : Array Oper} {Q : Exit → Act → World → Prop} {a : Act} {w : World} {rest : List Oper} {o : Oper} {zv : Value} {B : Base} {H : List Res} {t e : TypeId} {x : Operand} {bytes k : Nat} {L : List Value}
theorem sl_rowAgg (hF : ∀ f, F.fn f) (hg : Region.wanted o (yielded ops a.tmps) = true) (ho : o.op = .buildSlice t 1 #[(0, x)]) (hx : a.eval x = .agg L.toArray) (hv : Inv B H w) (E : Elem P t e zv k bytes) (hL : L.length = k) (hk : k * 1 ≤ 16777216)
  (h : ∀ b w', Inv B (Res.cell b L e :: H) w' → wpListIn F n P ops Q rest (a.put o.dst (.slice (some ⟨b, 0, none⟩) 1 1)) w') : wpListIn F n P ops Q (o :: rest) a w :=
 wpi_exG hF hg (by unfold isDefer; rw [ho]) (ex_row1 ho hx (run_row1 E L hL hk)) (h _ _ (hv.alloc L e))
end
section
variable {P : Program} {ops : Array Oper} {Q : Exit → Act → World → Prop} {J : List Value → World → Prop} {a : Act} {w : World} {o : Oper} {v : Value} {vals : List Value} {B : Base} {H : List Res} {t e : TypeId} {x y : Operand}
theorem mem_append {ad : Option Addr} {m c k size bytes : Nat} {zv : Value} {xs news : List Value} (hg : Region.wanted o (yielded ops a.tmps) = true) (ho : o.op = .call { callee := .builtin .append, args := #[x, y], argTypes := #[t, t] }) (hx : a.eval x = v) (hy : a.eval y = .slice ad m c) (E : Elem P t e zv size bytes)
  (hv : Inv B (Res.row e size v k xs :: H) w) (hok : SliceOk ad m c) (hl : news.length = m * size) (hsrc : Src w ad news) (h1 : ∀ u ∈ news, u.oneCell' = true) (h63 : k + m ≤ maxLen) (hbytes : (k + m) * bytes ≤ 140737488355328)
  (h : ∀ v' w', Inv B (Res.row e size v' (k + m) (xs ++ news) :: H) w' → J (vals ++ [v']) w') : StepMem P ops J Q o a w vals := by
 obtain ⟨v', w', hr, h2, h3, h4⟩ := run_append_src2 (ty := o.type) E hv.head hok hl hsrc h1 h63 hbytes
 have hex : Ex P a o w v' w' := by
  unfold Ex; simp [execOp, ho, resolve, invoke, builtin, hx, hy, hr]
 refine Ex.mem hex hg (h v' w' (hv.upd _ ((Only.refl _ _).grown h3 (fun k hk => .inl (by simp [hk]))) h2 (fun b hb => ?_) (fun b hb => ?_) ?_))
 ·simp only [Option.mem_toList] at hb
  rcases h4 with h4 | ⟨b', h4, h5⟩
  ·left; simp only [Option.mem_toList]; rw [← h4]; exact hb
  right; rw [h4] at hb; simp at hb; omega
 ·simp only [Option.mem_toList] at hb
  exact (h2.lt b hb).2
 show v'.ownBlock.toList.Nodup
 cases v'.ownBlock with
 | none => exact List.nodup_nil
 | some g => exact List.nodup_cons.2 ⟨by simp, List.nodup_nil⟩
end
end Go.Pm
/- Versions of values in memory that stays: what their cells say. -/
namespace Go.Pm
open Go.RowKit
structure Val where
 kind : Int
 text : List UInt8
 pairs : List (List UInt8 × List UInt8)
 texts : List (List UInt8)
 zset : List (Int × List UInt8)
structure Ver where
 stamp : Int
 gone : Bool
 expire : Int
 val : Val
abbrev strV (s : List UInt8) : Value := .string ⟨s.toArray⟩
def pairCells (l : List (List UInt8 × List UInt8)) : List Value := l.flatMap fun p => [strV p.1, strV p.2]
def textCells (l : List (List UInt8)) : List Value := l.map strV
def memCells (l : List (Int × List UInt8)) : List Value := l.flatMap fun m => [.int .i64 m.1, strV m.2]
theorem pairCells_len (l : List (List UInt8 × List UInt8)) : (pairCells l).length = l.length * 2 := by
 induction l with
 | nil => rfl
 | cons a l ih => rw [pairCells, List.flatMap_cons, List.length_append]; show 2 + (pairCells l).length = _; rw [ih, List.length_cons]; omega
theorem memCells_len (l : List (Int × List UInt8)) : (memCells l).length = l.length * 2 := by
 induction l with
 | nil => rfl
 | cons a l ih => rw [memCells, List.flatMap_cons, List.length_append]; show 2 + (memCells l).length = _; rw [ih, List.length_cons]; omega
theorem textCells_len (l : List (List UInt8)) : (textCells l).length = l.length * 1 := by simp [textCells]
theorem pairCells_one (l : List (List UInt8 × List UInt8)) : ∀ u ∈ pairCells l, u.oneCell' = true := by
 intro u hu
 obtain ⟨p, -, h⟩ := List.mem_flatMap.1 hu
 simp only [List.mem_cons, List.not_mem_nil, or_false] at h
 rcases h with rfl | rfl <;> rfl
theorem memCells_one (l : List (Int × List UInt8)) : ∀ u ∈ memCells l, u.oneCell' = true := by
 intro u hu
 obtain ⟨p, -, h⟩ := List.mem_flatMap.1 hu
 simp only [List.mem_cons, List.not_mem_nil, or_false] at h
 rcases h with rfl | rfl <;> rfl
theorem textCells_one (l : List (List UInt8)) : ∀ u ∈ textCells l, u.oneCell' = true := by
 intro u hu
 obtain ⟨p, -, rfl⟩ := List.mem_map.1 hu
 rfl
def RowB (B : Base) (v : Value) (n : Nat) (xs : List Value) : Prop := ∃ ad c, v = .slice ad n c ∧ SliceOk ad n c ∧ RdV B [] ad xs
theorem RowB.more {B C : Base} {v : Value} {n : Nat} {xs : List Value} (h : RowB B v n xs) (hB : B.Le C) : RowB C v n xs := by
 obtain ⟨ad, c, h1, h2, h3⟩ := h
 exact ⟨ad, c, h1, h2, h3.more hB (fun _ h => h)⟩
structure ValAt (B : Base) (v : Val) (p t z : Value) : Prop where
 p : RowB B p v.pairs.length (pairCells v.pairs)
 t : RowB B t v.texts.length (textCells v.texts)
 z : RowB B z v.zset.length (memCells v.zset)
 pm : v.pairs.length ≤ 1000000
 tm : v.texts.length ≤ 1000000
 zm : v.zset.length ≤ 1000000
theorem ValAt.more {B C : Base} {v : Val} {p t z : Value} (h : ValAt B v p t z) (hB : B.Le C) : ValAt C v p t z := ⟨h.p.more hB, h.t.more hB, h.z.more hB, h.pm, h.tm, h.zm⟩
abbrev valCells (v : Val) (p t z : Value) : List Value := [.int .i64 v.kind, strV v.text, p, t, z]
abbrev verCells (v : Ver) (p t z : Value) : List Value := [.int .i64 v.stamp, .bool v.gone, .int .i64 v.expire, .int .i64 v.val.kind, strV v.val.text, p, t, z]
theorem RowB.one {B : Base} {v : Value} {n : Nat} {xs : List Value} (h : RowB B v n xs) : v.oneCell' = true := by
 obtain ⟨ad, c, rfl, -, -⟩ := h
 rfl
theorem RowB.cells {B : Base} {v : Value} {n : Nat} {xs : List Value} (h : RowB B v n xs) : v.cells = #[v] := by
 obtain ⟨ad, c, rfl, -, -⟩ := h
 rfl
theorem verCells_one {B : Base} {v : Ver} {p t z : Value} (h : ValAt B v.val p t z) : ∀ u ∈ verCells v p t z, u.oneCell' = true := by
 intro u hu
 simp only [List.mem_cons, List.not_mem_nil, or_false] at hu
 rcases hu with rfl | rfl | rfl | rfl | rfl | rfl | rfl | rfl
 ·rfl
 ·rfl
 ·rfl
 ·rfl
 ·rfl
 ·exact h.p.one
 ·exact h.t.one
 exact h.z.one
def VersAt (B : Base) : List Ver → List Value → Prop
 | [], xs => xs = []
 | v :: l, xs => ∃ p t z r, xs = verCells v p t z ++ r ∧ ValAt B v.val p t z ∧ VersAt B l r
theorem VersAt.more {B C : Base} (hB : B.Le C) : ∀ {l : List Ver} {xs : List Value}, VersAt B l xs → VersAt C l xs
 | [], _, h => h
 | _ :: _, _, ⟨p, t, z, r, h1, h2, h3⟩ => ⟨p, t, z, r, h1, h2.more hB, VersAt.more hB h3⟩
theorem VersAt.append {B : Base} {k : List Ver} {ys : List Value} (hk : VersAt B k ys) : ∀ {l : List Ver} {xs : List Value}, VersAt B l xs → VersAt B (l ++ k) (xs ++ ys)
 | [], xs, h => by
  cases (show xs = [] from h)
  exact hk
 | v :: l, xs, ⟨p, t, z, r, h1, h2, h3⟩ => by
  subst h1
  exact ⟨p, t, z, r ++ ys, by rw [List.append_assoc], h2, VersAt.append hk h3⟩
theorem VersAt.single {B : Base} {v : Ver} {p t z : Value} (h : ValAt B v.val p t z) : VersAt B [v] (verCells v p t z) := ⟨p, t, z, [], by simp, h, rfl⟩
theorem VersAt.len {B : Base} : ∀ {l : List Ver} {xs : List Value}, VersAt B l xs → xs.length = l.length * 8
 | [], xs, h => by cases (show xs = [] from h); rfl
 | v :: l, xs, ⟨p, t, z, r, h1, h2, h3⟩ => by
  subst h1
  rw [List.length_append, VersAt.len h3]
  show 8 + l.length * 8 = (l.length + 1) * 8
  omega
theorem VersAt.get {B : Base} : ∀ {l : List Ver} {xs : List Value}, VersAt B l xs → ∀ i (hi : i < l.length), ∃ p t z, ValAt B l[i].val p t z ∧ ∀ j, j < 8 → (verCells l[i] p t z)[j]? = (xs.drop (i * 8))[j]?
 | [], xs, h, i, hi => by simp at hi
 | v :: l, xs, ⟨p, t, z, r, h1, h2, h3⟩, i, hi => by
  subst h1
  cases i with
  | zero => exact ⟨p, t, z, h2, fun j hj => by rw [Nat.zero_mul, List.drop_zero, List.getElem?_append_left hj]; rfl⟩
  | succ i =>
   obtain ⟨p', t', z', e1, e2⟩ := VersAt.get h3 i (by simpa using hi)
   refine ⟨p', t', z', e1, fun j hj => (e2 j hj).trans ?_⟩
   rw [show (i + 1) * 8 = i * 8 + 8 by rw [Nat.succ_mul], Nat.add_comm, ← List.drop_drop]
   rfl
theorem VersAt.take {B : Base} : ∀ {l : List Ver} {xs : List Value}, VersAt B l xs → ∀ i, VersAt B (l.take i) (xs.take (i * 8))
 | [], xs, h, i => by cases (show xs = [] from h); simp [VersAt]
 | v :: l, xs, ⟨p, t, z, r, h1, h2, h3⟩, i => by
  subst h1
  cases i with
  | zero => simp [VersAt]
  | succ i =>
   refine ⟨p, t, z, r.take (i * 8), ?_, h2, VersAt.take h3 i⟩
   rw [show (i + 1) * 8 = i * 8 + 8 by rw [Nat.succ_mul], List.take_append]
   show List.take (i * 8 + 8) (verCells v p t z) ++ List.take (i * 8 + 8 - 8) r = _
   rw [List.take_of_length_le (by show 8 ≤ _; omega), Nat.add_sub_cancel]
theorem VersAt.drop {B : Base} : ∀ {l : List Ver} {xs : List Value}, VersAt B l xs → ∀ i, VersAt B (l.drop i) (xs.drop (i * 8))
 | [], xs, h, i => by cases (show xs = [] from h); simp [VersAt]
 | v :: l, xs, ⟨p, t, z, r, h1, h2, h3⟩, i => by
  subst h1
  cases i with
  | zero => exact ⟨p, t, z, r, by simp, h2, h3⟩
  | succ i =>
   rw [show (i + 1) * 8 = i * 8 + 8 by rw [Nat.succ_mul], Nat.add_comm, ← List.drop_drop]
   exact VersAt.drop h3 i
def Reads (B : Base) (R : List Res) (b off : Nat) (cs : List Value) : Prop := ∀ C K w, B.Le C → (∀ r ∈ R, r ∈ K) → Inv C K w → ∀ j v, cs[j]? = some v → w.cell? ⟨b, off + j, none⟩ = some v
theorem no_res {K : List Res} : ∀ r ∈ ([] : List Res), r ∈ K := fun _ h => by cases h
theorem Reads.mid {B : Base} {R : List Res} {b off k : Nat} {pre mid post : List Value} (h : Reads B R b off (pre ++ mid ++ post)) (C : Base) (K : List Res) (w : World) (hB : B.Le C) (hR : ∀ r ∈ R, r ∈ K) (hv : Inv C K w) (hk : pre.length = k := by rfl) : ∀ j v, mid[j]? = some v → w.cell? ⟨b, off + k + j, none⟩ = some v := fun j v hj => by
 subst hk
 obtain ⟨hj1, rfl⟩ := List.getElem?_eq_some_iff.1 hj
 rw [Nat.add_assoc]
 exact h C K w hB hR hv (pre.length + j) _ (mid_get pre mid post j hj1)
def RdW (B : Base) (R : List Res) (ad : Option Addr) (xs : List Value) : Prop := ∀ i (h : i < xs.length), ∃ b off, ad = some ⟨b, off, none⟩ ∧ ∀ C K w, B.Le C → (∀ r ∈ R, r ∈ K) → Inv C K w → w.cell? ⟨b, off + i, none⟩ = some xs[i]
theorem RdV.rdW {B : Base} {ad : Option Addr} {xs : List Value} (h : RdV B [] ad xs) (R : List Res) : RdW B R ad xs := fun i hi => by
 obtain ⟨b, off, h1, -⟩ := h i hi
 refine ⟨b, off, h1, fun C K w hB _ hv => ?_⟩
 obtain ⟨b', off', h2, h3⟩ := (h.more hB (K := K) (fun _ h => by cases h)).cellAt hv i hi
 rw [h1] at h2
 cases h2
 exact h3
theorem RdW.src {B : Base} {R H : List Res} {ad : Option Addr} {xs : List Value} {w : World} (h : RdW B R ad xs) (hR : ∀ r ∈ R, r ∈ H) (hv : Inv B H w) : Src w ad xs := fun i hi => by
 obtain ⟨b, off, h1, h2⟩ := h i hi
 exact ⟨b, off, h1, h2 B H w (Base.Le.refl _) hR hv⟩
theorem rdW_reads {B : Base} {R : List Res} {ad : Option Addr} {xs cs : List Value} {k m : Nat} (hr : RdW B R ad xs) (hk : k + m ≤ xs.length) (hm : 0 < m) (hcs : cs.length = m) (hx : ∀ j, j < m → cs[j]? = xs[k + j]?) : ∃ b off, ad = some ⟨b, off, none⟩ ∧ Reads B R b (off + k) cs := by
 obtain ⟨b, off, h1, -⟩ := hr k (by omega)
 refine ⟨b, off, h1, fun C K w hB hR hv j v hj => ?_⟩
 have hjm : j < m := by have := (List.getElem?_eq_some_iff.1 hj).1; omega
 obtain ⟨b', off', h2, h3⟩ := hr (k + j) (by omega)
 rw [h1] at h2
 cases h2
 rw [Nat.add_assoc, h3 C K w hB hR hv]
 rw [hx j hjm, List.getElem?_eq_getElem (by omega)] at hj
 exact hj
theorem VersAt.reads {B : Base} {l : List Ver} {xs : List Value} {ad : Option Addr} {i : Nat} {x : Ver} (h : VersAt B l xs) (hr : RdV B [] ad xs) (hx : l[i]? = some x) : ∃ b off p t z, ad = some ⟨b, off, none⟩ ∧ ValAt B x.val p t z ∧ Reads B [] b (off + i * 8) (verCells x p t z) := by
 obtain ⟨hi, rfl⟩ := List.getElem?_eq_some_iff.1 hx
 obtain ⟨p, t, z, h1, h2⟩ := h.get i hi
 have hl := h.len
 have hle : i * 8 + 8 ≤ xs.length := by rw [hl]; have := Nat.mul_le_mul_right 8 (show i + 1 ≤ l.length by omega); rw [Nat.succ_mul] at this; exact this
 obtain ⟨b, off, h3, h4⟩ := rdW_reads (cs := verCells l[i] p t z) (k := i * 8) (m := 8) (hr.rdW []) hle (by decide) rfl (fun j hj => by
  rw [h2 j hj, List.getElem?_drop])
 exact ⟨b, off, p, t, z, h3, h1, h4⟩
theorem take_next {α : Type} {l : List α} {i : Nat} {x : α} (h : l[i]? = some x) : l.take (i + 1) = l.take i ++ [x] := by
 rw [List.take_add_one, h]; rfl
theorem VersAt.next {B : Base} {l : List Ver} {i : Nat} {x : Ver} {ys : List Value} {p t z : Value} (h : VersAt B (l.take i) ys) (hx : l[i]? = some x) (hv : ValAt B x.val p t z) : VersAt B (l.take (i + 1)) (ys ++ verCells x p t z) := by
 rw [take_next hx]
 exact VersAt.append (VersAt.single hv) h
theorem run_loadR {P : Program} {t : TypeId} {w : World} {b off : Nat} {cs : List Value} (hw : Wide P t cs.length) (hr : ∀ j v, cs[j]? = some v → w.cell? ⟨b, off + j, none⟩ = some v) :
  (Instr.loadAt t (.pointer (some ⟨b, off, none⟩))).run P w = .ok (.agg cs.toArray) w := by
 have hl := run_loadCells_list (P := P) w ⟨b, off, none⟩ cs (fun j v hv => by rw [addr_add]; exact hr j v hv)
 simp [Instr.loadAt, Instr.sureAddr, loadVar, hw.agg, run_sizeOf hw.size, hl]
def ChainB (B : Base) (v : Value) (l : List Ver) : Prop := ∃ ad c xs, v = .slice ad l.length c ∧ SliceOk ad l.length c ∧ RdV B [] ad xs ∧ VersAt B l xs
theorem ChainB.more {B C : Base} {v : Value} {l : List Ver} (h : ChainB B v l) (hB : B.Le C) : ChainB C v l := by
 obtain ⟨ad, c, xs, h1, h2, h3, h4⟩ := h
 exact ⟨ad, c, xs, h1, h2, h3.more hB (fun _ h => h), h4.more hB⟩
end Go.Pm
/- A row laid by for a while, with what can be read of it; a row that stays, of any width. -/
namespace Go.Pm
open Go.RowKit
theorem row_reads {e : TypeId} {size n c g cap : Nat} {cur : Array Value} {xs : List Value} {B : Base} (hlen : xs.length = n * size) (htake : cur.toList.take (n * size) = xs) (hI : B.I g = some (.cells cur e)) : RdV B [] (some ⟨g, 0, none⟩) xs := fun i hi => by
 refine ⟨g, 0, rfl, .inl ⟨_, _, _, hI, ?_⟩⟩
 have h2 : (cur.toList.take (n * size))[i]? = xs[i]? := by rw [htake]
 rw [List.getElem?_take_of_lt (by omega), List.getElem?_eq_getElem hi] at h2
 rw [Nat.zero_add, ← Array.getElem?_toList]
 exact h2
theorem Inv.rowBy {B : Base} {e : TypeId} {size n c : Nat} {ad : Option Addr} {xs : List Value} {H : List Res} {w : World} (hv : Inv B (Res.row e size (.slice ad n c) n xs :: H) w) :
  ∃ C : Base, B.Le C ∧ Inv C H w ∧ RdV C [] ad xs ∧ SliceOk ad n c ∧ ∀ K w', Inv C K w' → Inv B (Res.row e size (.slice ad n c) n xs :: K) w' := by
 have hr : w.ownsRow 0 e size (.slice ad n c) n xs := hv.head
 have hr' := hr
 rcases hr.2 with ⟨h1, h2⟩ | ⟨g, cap, cur, h1, hb, hg, hnc, hcm, hcs, htake⟩
 ·simp only [Value.slice.injEq] at h1
  obtain ⟨rfl, rfl, rfl⟩ := h1
  have hx : xs = [] := List.eq_nil_of_length_eq_zero (by have := hr.1; omega)
  subst hx
  refine ⟨B, Base.Le.refl B, hv.drop, rdV_nil, ⟨by omega, by simp, fun _ => rfl⟩, fun K w' hK => ?_⟩
  exact hK.new (Ext.rfl' _) (Res.row e size (.slice none 0 0) 0 []) ⟨hr'.1, .inl ⟨rfl, rfl⟩⟩ (fun b hb => by simp [Value.ownBlock] at hb) (by simp [Value.ownBlock])
 simp only [Value.slice.injEq] at h1
 obtain ⟨rfl, -, rfl⟩ := h1
 have hout : B.I g = none := hv.out _ (List.mem_cons_self) g (by simp [Value.ownBlock])
 have hc : Inv B (Res.cell g cur.toList e :: H) w := hv.as (Res.cell g cur.toList e) (by simpa using hg) (by simp [Value.ownBlock])
 have hf := hc.freeze
 simp only [Array.toArray_toList] at hf
 refine ⟨_, Base.add_le hout, hf, row_reads (c := c) (cap := c) hr.1 htake Base.add_self, ⟨hnc, hcm, fun h => by cases h⟩, fun K w' hK => ?_⟩
 have hblk := hK.base.blk g _ Base.add_self
 have hw := hK.weak (Base.add_le hout)
 refine Inv.join2 hw (K := [Res.row e size (.slice (some ⟨g, 0, none⟩) n c) n xs]) (fun r hr => ?_) (fun r hr b hb => ?_) ?_ (fun r hr b hb => ?_) (fun b hb hm => ?_)
 ·simp at hr; subst hr; exact ⟨hr'.1, .inr ⟨g, c, cur, rfl, by omega, hblk, hnc, hcm, hcs, htake⟩⟩
 ·simp at hr; subst hr; simp [Value.ownBlock] at hb; subst hb; exact (Array.getElem?_eq_some_iff.1 hblk).1
 ·simp [Value.ownBlock]
 ·simp at hr; subst hr; simp [Value.ownBlock] at hb; subst hb; exact hout
 simp [Value.ownBlock] at hb
 subst hb
 obtain ⟨r, hr, hb⟩ := List.mem_flatMap.1 hm
 have := hK.out r hr b hb
 rw [Base.add_self] at this
 cases this
end Go.Pm
/- More rules of single operations: calls of function values, comparisons of texts, rows that are made. -/
namespace Go.Pm
open Go.RowKit
theorem ok_full {b n : Nat} (h : n ≤ 1000000000000) : SliceOk (some ⟨b, 0, none⟩) n n := ⟨Nat.le_refl _, by unfold maxLen; omega, fun h => by cases h⟩
theorem rd_all {w : World} {b : Nat} {L : List Value} {t : TypeId} (h : Blk w b L t) : Src w (some ⟨b, 0, none⟩) L := src_mid (pre := []) (post := []) (by simpa using h) rfl
theorem Inv.cellRow {B : Base} {b n c size : Nat} {L : List Value} {e : TypeId} {H : List Res} {w : World} (hv : Inv B (Res.cell b L e :: H) w) (hL : L.length = c * size) (hn : n ≤ c) (hm : c ≤ maxLen) : Inv B (Res.row e size (.slice (some ⟨b, 0, none⟩) n c) n (L.take (n * size)) :: H) w := by
 have hle : n * size ≤ c * size := Nat.mul_le_mul_right _ hn
 refine hv.as (Res.row e size (.slice (some ⟨b, 0, none⟩) n c) n (L.take (n * size))) ⟨by rw [List.length_take, hL]; omega, .inr ⟨b, c, L.toArray, rfl, Nat.zero_le _, hv.head, hn, hm, ?_, rfl⟩⟩ ?_
 ·simp [hL]
 simp [Value.ownBlock]
theorem Inv.rowCell {B : Base} {n c size b : Nat} {e : TypeId} {xs : List Value} {H : List Res} {w : World} (hv : Inv B (Res.row e size (.slice (some ⟨b, 0, none⟩) n c) n xs :: H) w) :
  ∃ L : List Value, L.length = c * size ∧ L.take (n * size) = xs ∧ n ≤ c ∧ c ≤ maxLen ∧ Inv B (Res.cell b L e :: H) w := by
 have hr : w.ownsRow 0 e size (.slice (some ⟨b, 0, none⟩) n c) n xs := hv.head
 rcases hr.2 with ⟨h1, h2⟩ | ⟨g, cap, cur, h1, hb, hg, hnc, hcm, hcs, htake⟩
 ·cases h1
 simp only [Value.slice.injEq, Option.some.injEq, Addr.mk.injEq] at h1
 obtain ⟨⟨rfl, -, -⟩, -, rfl⟩ := h1
 exact ⟨cur.toList, by simpa using hcs, htake, hnc, hcm, hv.as (Res.cell b cur.toList e) (by simpa using hg) (by simp [Value.ownBlock])⟩
theorem Inv.rowNil {B : Base} {H : List Res} {w : World} (hv : Inv B H w) (e : TypeId) (size : Nat) : Inv B (Res.row e size (.slice none 0 0) 0 [] :: H) w :=
 hv.new (Ext.rfl' _) (Res.row e size (.slice none 0 0) 0 []) (World.ownsRow_nil _ _ _ _) (fun b hb => by simp [Value.ownBlock] at hb) (by simp [Value.ownBlock])
theorem Inv.rowOk {B : Base} {e : TypeId} {size n c : Nat} {ad : Option Addr} {xs : List Value} {H : List Res} {w : World} (hv : Inv B (Res.row e size (.slice ad n c) n xs :: H) w) : SliceOk ad n c ∧ Src w ad xs ∧ xs.length = n * size := by
 obtain ⟨C, -, h, hr, hok, -⟩ := hv.rowBy
 exact ⟨hok, (hr.more (Base.Le.refl _) (fun _ h => by cases h) : RdV C H ad xs).src h, (hv.head : World.ownsRow _ _ _ _ _ _ _).1⟩
section
variable {F : Fence} {n : Nat} {P : Program} {ops : Array Oper} {Q : Exit → Act → World → Prop} {a : Act} {w : World} {rest : List Oper} {o : Oper} {v zv : Value} {B : Base} {H : List Res} {t e u : TypeId} {x y : Operand} {bytes size : Nat}
theorem sl_row0 (hF : ∀ f, F.fn f) (hg : Region.wanted o (yielded ops a.tmps) = true) (ho : o.op = .buildSlice t 0 #[]) (hv : Inv B H w)
  (hr : ∀ w, (Instr.buildSlice t 0 #[]).run P w = .ok (.slice (some ⟨w.heap.size, 0, none⟩) 0 0) (w.alloc (.cells ([] : List Value).toArray e)))
  (h : ∀ b w', Inv B (Res.row e size (.slice (some ⟨b, 0, none⟩) 0 0) 0 [] :: H) w' → wpListIn F n P ops Q rest (a.put o.dst (.slice (some ⟨b, 0, none⟩) 0 0)) w') : wpListIn F n P ops Q (o :: rest) a w :=
 wpi_exG hF hg (by unfold isDefer; rw [ho]) (by unfold Ex; simp [execOp, ho, hr]) (h w.heap.size (w.alloc (.cells ([] : List Value).toArray e)) (by
  have := (hv.alloc [] e).cellRow (n := 0) (c := 0) (size := size) (by simp) (Nat.le_refl _) (Nat.zero_le _)
  simpa using this))
theorem sl_makeRow {cap : Nat} (hF : ∀ f, F.fn f) (hg : Region.wanted o (yielded ops a.tmps) = true) (ho : o.op = .makeSlice t x y) (hx : a.eval x = .int .i64 0) (hy : a.eval y = .int .i64 (cap : Int)) (E : Elem P t e zv size bytes) (hcm : cap ≤ maxLen) (hby : cap * bytes ≤ 140737488355328) (hv : Inv B H w)
  (h : ∀ b w', Inv B (Res.row e size (.slice (some ⟨b, 0, none⟩) 0 cap) 0 [] :: H) w' → wpListIn F n P ops Q rest (a.put o.dst (.slice (some ⟨b, 0, none⟩) 0 cap)) w') : wpListIn F n P ops Q (o :: rest) a w := by
 obtain ⟨i, hi, hz, hs, hb⟩ := E.hi
 refine sl_make (len := 0) hF hg ho hx hy E.ht hi hz (Nat.zero_le _) hcm (by rw [hb]; exact hby) hv (fun b w' hi' => h b w' ?_)
 have := hi'.cellRow (n := 0) (c := cap) (size := size) (by rw [hs]; simp [madeCells]) (Nat.zero_le _) hcm
 simpa using this
theorem ex_slnil {pa : Option Addr} {l c : Nat} {b : Bool} (ht : P.underlying t = some (.slice e)) (ho : o.op = .binOp .eql t x y u) (hx : a.eval x = .slice pa l c) (hy : a.eval y = .slice none 0 0) (hb : pa.isNone = b) : Ex P a o w (.bool b) w := by
 have hg : (eqGuard .eql t x y (.slice pa l c) (.slice none 0 0)).run P w = .ok () w := by
  simp [eqGuard]
 have hr := Go.run_eql_slice_nil w t e pa l c ht
 subst hb; unfold Ex; simp [execOp, ho, hx, hy, hg, hr]
theorem ex_makeFunc {f : FuncId} {p c : Array Operand} {c' : Array Value} (ho : o.op = .makeFunc (.func f) p c) (hp : p.map a.eval = #[]) (hc : c.map a.eval = c') : Ex P a o w (.func (.func f) #[] c') w := by
 unfold Ex; simp [execOp, ho, Instr.makeFunc, hp, hc]
theorem ex_sgeq {s s' : List UInt8} {b : Bool} (ho : o.op = .binOp .geq t x y u) (hx : a.eval x = .string ⟨s.toArray⟩) (hy : a.eval y = .string ⟨s'.toArray⟩) (hb : (!Op.bytesLess s s') = b) : Ex P a o w (.bool b) w := by
 subst hb; unfold Ex; simp [execOp, ho, hx, hy, eqGuard, binOp, Op.stringOp]
theorem ex_slss {s s' : List UInt8} {b : Bool} (ho : o.op = .binOp .lss t x y u) (hx : a.eval x = .string ⟨s.toArray⟩) (hy : a.eval y = .string ⟨s'.toArray⟩) (hb : Op.bytesLess s s' = b) : Ex P a o w (.bool b) w := by
 subst hb; unfold Ex; simp [execOp, ho, hx, hy, eqGuard, binOp, Op.stringOp]
theorem wpi_callV {f : FuncId} {xs : Array Operand} {ts : Array TypeId} {args cb : Array Value} (hf : Callable P f) (hF : ∀ f, F.fn f) (hC : ∀ (f : FuncId) (args : Array Value) (w : World) (R : Ending → World → Prop), Calls P f args w R → CallsIn F (n - 1) P f args w R) (hdp : F.depth = none) (hg : Region.wanted o (yielded ops a.tmps) = true)
  (ho : o.op = .call { callee := .value x, args := xs, argTypes := ts }) (hfx : a.eval x = .func (.func f) #[] cb) (hx : xs.map a.eval = args) (hc : Calls P f (args ++ cb) w fun e w' => ∃ v, e = .returned v ∧ wpListIn F n P ops Q rest (a.put o.dst v) w') : wpListIn F n P ops Q (o :: rest) a w := by
 refine wpListIn_step fun K hK => ?_
 rw [if_pos hg]
 refine ⟨fun f _ => hF f, ?_⟩
 have hd : isDefer o = false := by unfold isDefer; rw [ho]
 obtain ⟨fn, h1, h2, h3⟩ := hf
 have : execOp a.eval o = callFunc f (#[] ++ xs.map a.eval ++ cb) := by
  obtain ⟨d, op, ty, pos, af, gd⟩ := o
  simp only at ho
  subst ho
  simp only [execOp, resolve, hfx]
  rfl
 have hb : ¬ fn.body = none := by intro h; rw [h] at h3; cases h3
 have hn : ¬ fn.name = "runtime.NumGoroutine" := by simpa using h2
 have hr : (execOp a.eval o).run P w = .ok (.enter f (args ++ cb)) w := by rw [this, hx]; simp [callFunc, h1, hn, hb]
 rw [Oper.semAt_eq _ _ _ (not_defer hd), hr, Oper.uponIn_enter]
 refine ⟨fun e => by simp [hdp] at e, hC _ _ _ _ (hc.mono ?_)⟩
 rintro e w' ⟨v, rfl, hh⟩
 exact hK _ _ hh
end
end Go.Pm
/- An operation whose guard's operation was itself not wanted. -/
namespace Go.Pm
open Go.RowKit
section
variable {o : Oper} {a : Act}
theorem wanted_undef {ops : Array Oper} {j d : Nat} {b : Bool} (hgd : o.guard = some (j, b)) (hd : (ops[j]?).bind (·.dst) = some d) (h : a.tmps.getD d undef = undef) : Region.wanted o (yielded ops a.tmps) = false := by
 have hy : yielded ops a.tmps j = none := by
  unfold yielded
  rw [hd]
  simp only [Option.bind_some]
  rw [Array.getD_eq_getD_getElem?] at h
  cases h2 : a.tmps[d]? with
  | none => rfl
  | some x => rw [h2] at h; simp only [Option.getD_some] at h; rw [h]; rfl
 unfold Region.wanted
 rw [hgd]
 simp [hy]
end
end Go.Pm
/- Short names for the steps of the walks (mkmerge.py writes them into a claim's texts). -/
namespace Go.Pm
open Go.RowKit
theorem zP {a : Act} {d : Tmp} {v : Value} : Act.put a (some d) v = { a with tmps := a.tmps.setIfInBounds d v } := rfl
theorem zN {a : Act} {v : Value} : Act.put a none v = a := rfl
theorem zI {α : Type} {l : List α} {i : Nat} {a : α} : l.toArray.setIfInBounds i a = (l.set i a).toArray := by simp
theorem zS {α : Type} {l : List α} {i : Nat} {a b : α} : (a :: l).set (i + 1) b = a :: l.set i b := rfl
theorem zO {α : Type} {l : List α} {a b : α} : (a :: l).set 0 b = b :: l := rfl
theorem yA {α β : Type} {f : α → β} {l : List α} : Array.map f l.toArray = (List.map f l).toArray := by simp
theorem yB {α β : Type} {f : α → β} {a : α} {l : List α} : List.map f (a :: l) = f a :: List.map f l := rfl
theorem yC {α β : Type} {f : α → β} : List.map f [] = [] := rfl
theorem tV (f : FuncId) : Fence.wide.fn f := trivial
section
variable {n : Nat} {P : Program} {ops : Array Oper} {Q : Exit → Act → World → Prop} {a : Act} {w w' : World} {rest : List Oper} {o : Oper} {x y z : Operand}
theorem xG (v : Value) (hg : o.guard = none) (hd : isDefer o = false) (hr : Ex P a o w v w') (h : wpListIn Fence.wide n P ops Q rest (a.put o.dst v) w') : wpListIn Fence.wide n P ops Q (o :: rest) a w := wpi_exG tV (wn hg) hd hr h
theorem xH (j d : Nat) (b : Bool) (v : Value) (hgd : o.guard = some (j, b)) (h1 : (ops[j]?).bind (·.dst) = some d) (h2 : a.tmps.getD d undef = .bool b) (hd : isDefer o = false) (hr : Ex P a o w v w') (h : wpListIn Fence.wide n P ops Q rest (a.put o.dst v) w') : wpListIn Fence.wide n P ops Q (o :: rest) a w := wpi_exG tV (wanted_of hgd h1 h2) hd hr h
theorem xM (v : Value) (hg : o.guard = none) (ho : o.op = .move x) (hx : a.eval x = v) (h : wpListIn Fence.wide n P ops Q rest (a.put o.dst v) w) : wpListIn Fence.wide n P ops Q (o :: rest) a w := wpi_exG tV (wn hg) (by unfold isDefer; rw [ho]) (ex_move ho hx) h
theorem xA (v : Value) (hg : o.guard = none) (ho : o.op = .assign x) (hx : a.eval x = v) (h : wpListIn Fence.wide n P ops Q rest (a.put o.dst v) w) : wpListIn Fence.wide n P ops Q (o :: rest) a w := wpi_exG tV (wn hg) (by unfold isDefer; rw [ho]) (ex_assign ho hx) h
theorem xK (b : Bool) (v : Value) (hg : o.guard = none) (ho : o.op = .pick x y z) (hx : a.eval x = .bool b) (hy : a.eval (if b then y else z) = v) (h : wpListIn Fence.wide n P ops Q rest (a.put o.dst v) w) : wpListIn Fence.wide n P ops Q (o :: rest) a w := wpi_exG tV (wn hg) (by unfold isDefer; rw [ho]) (ex_pick ho hx hy) h
theorem xL (v : Value) {t : TypeId} {p : Value} (hg : o.guard = none) (ho : o.op = .load t x) (hx : a.eval x = p) (hr : (Instr.loadAt t p).run P w = .ok v w) (h : wpListIn Fence.wide n P ops Q rest (a.put o.dst v) w) : wpListIn Fence.wide n P ops Q (o :: rest) a w := wpi_exG tV (wn hg) (by unfold isDefer; rw [ho]) (ex_load ho hx hr) h
theorem xF (v : Value) {t : TypeId} {f : Nat} {p : Value} (hg : o.guard = none) (ho : o.op = .fieldAddr t x f) (hx : a.eval x = p) (hr : (Instr.fieldAt t p f).run P w = .ok v w) (h : wpListIn Fence.wide n P ops Q rest (a.put o.dst v) w) : wpListIn Fence.wide n P ops Q (o :: rest) a w := wpi_exG tV (wn hg) (by unfold isDefer; rw [ho]) (ex_field ho hx hr) h
theorem xN (j d : Nat) (b b' : Bool) (hgd : o.guard = some (j, b)) (h1 : (ops[j]?).bind (·.dst) = some d) (h2 : a.tmps.getD d undef = .bool b') (hne : b' ≠ b) (h : wpListIn Fence.wide n P ops Q rest (a.put o.dst undef) w) : wpListIn Fence.wide n P ops Q (o :: rest) a w := wpi_not tV (wanted_not hgd h1 h2 hne) h
theorem xU (j d : Nat) {b : Bool} (hgd : o.guard = some (j, b)) (h1 : (ops[j]?).bind (·.dst) = some d) (h2 : a.tmps.getD d undef = undef) (h : wpListIn Fence.wide n P ops Q rest (a.put o.dst undef) w) : wpListIn Fence.wide n P ops Q (o :: rest) a w := wpi_not tV (wanted_undef hgd h1 h2) h
theorem xT {o1 o2 o3 : Oper} (j d : Nat) (b b' : Bool) (g1 : o1.guard = some (j, b)) (g2 : o2.guard = some (j, b)) (g3 : o3.guard = some (j, b)) (h1 : (ops[j]?).bind (·.dst) = some d) (v1 : a.tmps.getD d undef = .bool b') (v2 : (a.put o1.dst undef).tmps.getD d undef = .bool b') (v3 : ((a.put o1.dst undef).put o2.dst undef).tmps.getD d undef = .bool b') (hne : b' ≠ b)
  (h : wpListIn Fence.wide n P ops Q rest (((a.put o1.dst undef).put o2.dst undef).put o3.dst undef) w) : wpListIn Fence.wide n P ops Q (o1 :: o2 :: o3 :: rest) a w :=
 wpi_not tV (wanted_not g1 h1 v1 hne) (wpi_not tV (wanted_not g2 h1 v2 hne) (wpi_not tV (wanted_not g3 h1 v3 hne) h))
theorem xC {f : FuncId} {xs : Array Operand} {ts : Array TypeId} {l : List Value} (hf : Callable P f) (hg : o.guard = none) (ho : o.op = .call { callee := .value (.func f), args := xs, argTypes := ts }) (hx : xs.toList.map a.eval = l)
  (hc : Calls P f l.toArray w fun e w' => ∃ v, e = .returned v ∧ wpListIn Fence.wide n P ops Q rest (a.put o.dst v) w') : wpListIn Fence.wide n P ops Q (o :: rest) a w :=
 wpi_callG hf tV wideC rfl (wn hg) ho (by rw [← hx]; apply Array.ext'; simp) hc
theorem xD {v : Value} {A : List SP} {i : Nat} {c : Bool} {p : Prop} (hc : c = false) (hr : Ex P a o w v w) (hg : o.guard = none) (hA : nth A i w v) : if c = true then p else StepAdds P ops A Q i o a w := add_step' hc (Ex.adds' hr (wn hg) hA)
theorem wL {F : Fence} (h : Q .normal a w) : wpListIn F n P ops Q [] a w := wpListIn_nil h
end
theorem rL {F : Fence} {n : Nat} {P : Program} {Q : Exit → Act → World → Prop} {a : Act} {w : World} {id : Nat} {l : List Oper} (h : wpListIn F n P l.toArray Q l a w) : (Code.region id l.toArray false).wpIn F n P Q a w := wpIn_region_lit h
theorem sK {F : Fence} {n : Nat} {P : Program} {Q : Exit → Act → World → Prop} {a : Act} {w : World} {x y : Code} (h : ∀ K : Act → World → Prop, (∀ a w, y.wpIn F n P Q a w → K a w) → x.wpIn F n P (Exit.then K Q) a w) : (Code.seq x y).wpIn F n P Q a w := wpIn_seq_k h
theorem tN {X : Act → World → Prop} {Q : Exit → Act → World → Prop} {a : Act} {w : World} (h : X a w) : Exit.then X Q .normal a w := h
theorem bR {P : Program} {fn : Func} {R : Ending → World → Prop} {a : Act} {w : World} {t : Tmp} (h : fn.results = #[.tmp t]) (hd : a.defers = []) (hR : R (.returned (a.tmps.getD t undef)) w) : bodyPost P fn R .ret a w := bodyPost_ret (results_tmp h _ _ _) hd hR
theorem Ready3.w {ops : Array Oper} {VS : List Value} {mem : List Nat} {a0 a : Act} {w : World} {vals : List Value} {i : Nat} (hR : Ready3 ops (VS.map SP.eq) mem a0 a w vals i) (j d : Nat) {v : Value} (h1 : ahead ops j i = true) (h2 : (ops[j]?).bind (·.dst) = some d) (h3 : mem.contains j = false) (hv : VS[j]? = some v) : a.eval (.tmp d) = v := hR.v j d h1 h2 h3 hv
end Go.Pm
/- Copies of values and versions. -/
namespace Go.Proofs.Ytffmbdagjpdieaa
open Go.RowKit Go.Pm
theorem mixed : Try.prog.follows .mixedOrders = true := by kernel_rfl
set_option maxHeartbeats 2000000 in
theorem clonePairs0 (B : Base) (H : List Res) (w : World) (hv : Inv B H w) :
  Calls Try.prog 65 #[.slice none 0 0] w fun e w' => e = .returned (.slice none 0 0) ∧ Inv B H w' := by
 refine (callsIn_wide (n := 5)).1 ?_
 refine callsIn_of_wp Try.func65 rfl trivial ?_
 simp only [Try.ntmps65, List.size_toArray, List.length_cons, List.length_nil, Nat.reduceAdd, Nat.reduceSub, Array.replicate_succ, Array.replicate_zero, List.push_toArray, List.append_toArray, List.nil_append, List.cons_append]
 refine sK fun K1 hK1 => rL ?_
 refine xA (.slice none 0 0) rfl rfl rfl ?_
 refine wL ?_
 simp only [zP, zI, zS, zO]
 refine tN (hK1 _ _ ?_)
 clear hK1 K1
 refine sK fun K2 hK2 => ?_
 refine sK fun K3 hK3 => rL ?_
 refine xM (.slice none 0 0) rfl rfl rfl ?_
 refine xG (.bool true) rfl rfl (ex_slnil Try.underlying32 rfl rfl rfl rfl) ?_
 refine wL ?_
 simp only [zP, zI, zS, zO]
 refine tN (hK3 _ _ ?_)
 clear hK3 K3
 refine wpIn_cond_true rfl ?_
 refine sK fun K4 hK4 => rL ?_
 refine xA (.slice none 0 0) rfl rfl rfl ?_
 refine wL ?_
 simp only [zP, zI, zS, zO]
 refine tN (hK4 _ _ ?_)
 clear hK4 K4
 refine wpIn_ret ?_
 refine then_ret ?_
 clear hK2 K2
 refine bR rfl rfl ?_
 exact ⟨rfl, hv⟩
theorem s1mk83 : (Try.prog.info? 83).map (fun i => (i.zero, i.size, i.bytes)) = some (some (.agg #[.string ⟨([] : List UInt8).toArray⟩, .string ⟨([] : List UInt8).toArray⟩]), 2, 32) := by kernel_rfl
theorem s1el32 : Elem Try.prog 32 83 (.agg #[.string ⟨([] : List UInt8).toArray⟩, .string ⟨([] : List UInt8).toArray⟩]) 2 32 := elem_of Try.underlying32 s1mk83 (by rfl) (by decide)
set_option maxHeartbeats 2000000 in
theorem clonePairs1 (B : Base) (H : List Res) (w : World) (a : Addr) (n c : Nat) (xs : List Value) (hok : SliceOk (some a) n c) (hl : xs.length = n * 2) (h1 : ∀ u ∈ xs, u.oneCell' = true) (hn : n ≤ 1000000) (hr : RdV B [] (some a) xs) (hv : Inv B H w) :
  Calls Try.prog 65 #[.slice (some a) n c] w fun e w' => ∃ C ad' c', B.Le C ∧ e = .returned (.slice ad' n c') ∧ SliceOk ad' n c' ∧ RdV C [] ad' xs ∧ Inv C H w' := by
 refine (callsIn_wide (n := 5)).1 ?_
 refine callsIn_of_wp Try.func65 rfl trivial ?_
 simp only [Try.ntmps65, List.size_toArray, List.length_cons, List.length_nil, Nat.reduceAdd, Nat.reduceSub, Array.replicate_succ, Array.replicate_zero, List.push_toArray, List.append_toArray, List.nil_append, List.cons_append]
 refine sK fun K1 hK1 => rL ?_
 refine xA (.slice none 0 0) rfl rfl rfl ?_
 refine wL ?_
 simp only [zP, zI, zS, zO]
 refine tN (hK1 _ _ ?_)
 clear hK1 K1
 refine sK fun K2 hK2 => ?_
 refine sK fun K3 hK3 => rL ?_
 refine xM (.slice (some a) n c) rfl rfl rfl ?_
 refine xG (.bool false) rfl rfl (ex_slnil Try.underlying32 rfl rfl rfl rfl) ?_
 refine wL ?_
 simp only [zP, zI, zS, zO]
 refine tN (hK3 _ _ ?_)
 clear hK3 K3
 refine wpIn_cond_false rfl ?_
 refine wpIn_skip ?_
 refine tN (hK2 _ _ ?_)
 clear hK2 K2
 refine sK fun K4 hK4 => rL ?_
 refine sl_row0 (size := 2) tV (wn rfl) rfl hv (e := 83) (fun w => by kernel_rfl) (fun b5 w6 hv => ?_)
 refine xM (.slice (some a) n c) rfl rfl rfl ?_
 refine sl_append (news := xs) tV (wn rfl) rfl rfl rfl s1el32 hv hok hl ((hr.more (Base.Le.refl _) (fun _ h => by cases h)).src hv) (h1) (by unfold maxLen; omega) (by omega) (fun rv7 w10 hv => ?_)
 obtain ⟨ra8, rc9, rfl⟩ := row_slice hv.head
 simp only [zP, zI, zS, zO]
 refine xA (.slice ra8 (0 + n) rc9) rfl rfl rfl ?_
 refine wL ?_
 simp only [zP, zI, zS, zO]
 refine tN (hK4 _ _ ?_)
 clear hK4 K4
 refine wpIn_ret ?_
 refine bR rfl rfl ?_
 obtain ⟨C, hB, hv2, hr2, hok2, -⟩ := hv.rowBy
 rw [Nat.zero_add] at hok2 ⊢
 rw [List.nil_append] at hr2
 exact ⟨C, _, _, hB, rfl, hok2, hr2, hv2⟩
theorem clonePairs (B : Base) (H : List Res) (w : World) (v : Value) (n : Nat) (xs : List Value) (h : RowB B v n xs) (hl : xs.length = n * 2) (h1 : ∀ u ∈ xs, u.oneCell' = true) (hn : n ≤ 1000000) (hv : Inv B H w) :
  Calls Try.prog 65 #[v] w fun e w' => ∃ C v', B.Le C ∧ e = .returned v' ∧ RowB C v' n xs ∧ Inv C H w' := by
 obtain ⟨ad, c, rfl, hok, hr⟩ := h
 cases ad with
 | none =>
  have hc0 : c = 0 := hok.nil rfl
  have hn0 : n = 0 := by have := hok.le; omega
  subst hc0 hn0
  refine (clonePairs0 B H w hv).mono ?_
  rintro e w' ⟨rfl, hv⟩
  exact ⟨B, _, Base.Le.refl _, rfl, ⟨none, 0, rfl, hok, hr⟩, hv⟩
 | some a =>
  refine (clonePairs1 B H w a n c xs hok hl h1 hn hr hv).mono ?_
  rintro e w' ⟨C, ad', c', hB, rfl, hok', hr', hv'⟩
  exact ⟨C, _, hB, rfl, ⟨ad', c', rfl, hok', hr'⟩, hv'⟩
set_option maxHeartbeats 2000000 in
theorem cloneTexts0 (B : Base) (H : List Res) (w : World) (hv : Inv B H w) :
  Calls Try.prog 66 #[.slice none 0 0] w fun e w' => e = .returned (.slice none 0 0) ∧ Inv B H w' := by
 refine (callsIn_wide (n := 5)).1 ?_
 refine callsIn_of_wp Try.func66 rfl trivial ?_
 simp only [Try.ntmps66, List.size_toArray, List.length_cons, List.length_nil, Nat.reduceAdd, Nat.reduceSub, Array.replicate_succ, Array.replicate_zero, List.push_toArray, List.append_toArray, List.nil_append, List.cons_append]
 refine sK fun K1 hK1 => rL ?_
 refine xA (.slice none 0 0) rfl rfl rfl ?_
 refine wL ?_
 simp only [zP, zI, zS, zO]
 refine tN (hK1 _ _ ?_)
 clear hK1 K1
 refine sK fun K2 hK2 => ?_
 refine sK fun K3 hK3 => rL ?_
 refine xM (.slice none 0 0) rfl rfl rfl ?_
 refine xG (.bool true) rfl rfl (ex_slnil Try.underlying33 rfl rfl rfl rfl) ?_
 refine wL ?_
 simp only [zP, zI, zS, zO]
 refine tN (hK3 _ _ ?_)
 clear hK3 K3
 refine wpIn_cond_true rfl ?_
 refine sK fun K4 hK4 => rL ?_
 refine xA (.slice none 0 0) rfl rfl rfl ?_
 refine wL ?_
 simp only [zP, zI, zS, zO]
 refine tN (hK4 _ _ ?_)
 clear hK4 K4
 refine wpIn_ret ?_
 refine then_ret ?_
 clear hK2 K2
 refine bR rfl rfl ?_
 exact ⟨rfl, hv⟩
theorem s1mk9 : (Try.prog.info? 9).map (fun i => (i.zero, i.size, i.bytes)) = some (some (.string ⟨([] : List UInt8).toArray⟩), 1, 16) := by kernel_rfl
theorem s1el33 : Elem Try.prog 33 9 (.string ⟨([] : List UInt8).toArray⟩) 1 16 := elem_of Try.underlying33 s1mk9 (by rfl) (by decide)
set_option maxHeartbeats 2000000 in
theorem cloneTexts1 (B : Base) (H : List Res) (w : World) (a : Addr) (n c : Nat) (xs : List Value) (hok : SliceOk (some a) n c) (hl : xs.length = n * 1) (h1 : ∀ u ∈ xs, u.oneCell' = true) (hn : n ≤ 1000000) (hr : RdV B [] (some a) xs) (hv : Inv B H w) :
  Calls Try.prog 66 #[.slice (some a) n c] w fun e w' => ∃ C ad' c', B.Le C ∧ e = .returned (.slice ad' n c') ∧ SliceOk ad' n c' ∧ RdV C [] ad' xs ∧ Inv C H w' := by
 refine (callsIn_wide (n := 5)).1 ?_
 refine callsIn_of_wp Try.func66 rfl trivial ?_
 simp only [Try.ntmps66, List.size_toArray, List.length_cons, List.length_nil, Nat.reduceAdd, Nat.reduceSub, Array.replicate_succ, Array.replicate_zero, List.push_toArray, List.append_toArray, List.nil_append, List.cons_append]
 refine sK fun K1 hK1 => rL ?_
 refine xA (.slice none 0 0) rfl rfl rfl ?_
 refine wL ?_
 simp only [zP, zI, zS, zO]
 refine tN (hK1 _ _ ?_)
 clear hK1 K1
 refine sK fun K2 hK2 => ?_
 refine sK fun K3 hK3 => rL ?_
 refine xM (.slice (some a) n c) rfl rfl rfl ?_
 refine xG (.bool false) rfl rfl (ex_slnil Try.underlying33 rfl rfl rfl rfl) ?_
 refine wL ?_
 simp only [zP, zI, zS, zO]
 refine tN (hK3 _ _ ?_)
 clear hK3 K3
 refine wpIn_cond_false rfl ?_
 refine wpIn_skip ?_
 refine tN (hK2 _ _ ?_)
 clear hK2 K2
 refine sK fun K4 hK4 => rL ?_
 refine sl_row0 (size := 1) tV (wn rfl) rfl hv (e := 9) (fun w => by kernel_rfl) (fun b5 w6 hv => ?_)
 refine xM (.slice (some a) n c) rfl rfl rfl ?_
 refine sl_append (news := xs) tV (wn rfl) rfl rfl rfl s1el33 hv hok hl ((hr.more (Base.Le.refl _) (fun _ h => by cases h)).src hv) (h1) (by unfold maxLen; omega) (by omega) (fun rv7 w10 hv => ?_)
 obtain ⟨ra8, rc9, rfl⟩ := row_slice hv.head
 simp only [zP, zI, zS, zO]
 refine xA (.slice ra8 (0 + n) rc9) rfl rfl rfl ?_
 refine wL ?_
 simp only [zP, zI, zS, zO]
 refine tN (hK4 _ _ ?_)
 clear hK4 K4
 refine wpIn_ret ?_
 refine bR rfl rfl ?_
 obtain ⟨C, hB, hv2, hr2, hok2, -⟩ := hv.rowBy
 rw [Nat.zero_add] at hok2 ⊢
 rw [List.nil_append] at hr2
 exact ⟨C, _, _, hB, rfl, hok2, hr2, hv2⟩
theorem cloneTexts (B : Base) (H : List Res) (w : World) (v : Value) (n : Nat) (xs : List Value) (h : RowB B v n xs) (hl : xs.length = n * 1) (h1 : ∀ u ∈ xs, u.oneCell' = true) (hn : n ≤ 1000000) (hv : Inv B H w) :
  Calls Try.prog 66 #[v] w fun e w' => ∃ C v', B.Le C ∧ e = .returned v' ∧ RowB C v' n xs ∧ Inv C H w' := by
 obtain ⟨ad, c, rfl, hok, hr⟩ := h
 cases ad with
 | none =>
  have hc0 : c = 0 := hok.nil rfl
  have hn0 : n = 0 := by have := hok.le; omega
  subst hc0 hn0
  refine (cloneTexts0 B H w hv).mono ?_
  rintro e w' ⟨rfl, hv⟩
  exact ⟨B, _, Base.Le.refl _, rfl, ⟨none, 0, rfl, hok, hr⟩, hv⟩
 | some a =>
  refine (cloneTexts1 B H w a n c xs hok hl h1 hn hr hv).mono ?_
  rintro e w' ⟨C, ad', c', hB, rfl, hok', hr', hv'⟩
  exact ⟨C, _, hB, rfl, ⟨ad', c', rfl, hok', hr'⟩, hv'⟩
set_option maxHeartbeats 2000000 in
theorem cloneMems0 (B : Base) (H : List Res) (w : World) (hv : Inv B H w) :
  Calls Try.prog 67 #[.slice none 0 0] w fun e w' => e = .returned (.slice none 0 0) ∧ Inv B H w' := by
 refine (callsIn_wide (n := 5)).1 ?_
 refine callsIn_of_wp Try.func67 rfl trivial ?_
 simp only [Try.ntmps67, List.size_toArray, List.length_cons, List.length_nil, Nat.reduceAdd, Nat.reduceSub, Array.replicate_succ, Array.replicate_zero, List.push_toArray, List.append_toArray, List.nil_append, List.cons_append]
 refine sK fun K1 hK1 => rL ?_
 refine xA (.slice none 0 0) rfl rfl rfl ?_
 refine wL ?_
 simp only [zP, zI, zS, zO]
 refine tN (hK1 _ _ ?_)
 clear hK1 K1
 refine sK fun K2 hK2 => ?_
 refine sK fun K3 hK3 => rL ?_
 refine xM (.slice none 0 0) rfl rfl rfl ?_
 refine xG (.bool true) rfl rfl (ex_slnil Try.underlying34 rfl rfl rfl rfl) ?_
 refine wL ?_
 simp only [zP, zI, zS, zO]
 refine tN (hK3 _ _ ?_)
 clear hK3 K3
 refine wpIn_cond_true rfl ?_
 refine sK fun K4 hK4 => rL ?_
 refine xA (.slice none 0 0) rfl rfl rfl ?_
 refine wL ?_
 simp only [zP, zI, zS, zO]
 refine tN (hK4 _ _ ?_)
 clear hK4 K4
 refine wpIn_ret ?_
 refine then_ret ?_
 clear hK2 K2
 refine bR rfl rfl ?_
 exact ⟨rfl, hv⟩
theorem s1mk85 : (Try.prog.info? 85).map (fun i => (i.zero, i.size, i.bytes)) = some (some (.agg #[.int .i64 0, .string ⟨([] : List UInt8).toArray⟩]), 2, 24) := by kernel_rfl
theorem s1el34 : Elem Try.prog 34 85 (.agg #[.int .i64 0, .string ⟨([] : List UInt8).toArray⟩]) 2 24 := elem_of Try.underlying34 s1mk85 (by rfl) (by decide)
set_option maxHeartbeats 2000000 in
theorem cloneMems1 (B : Base) (H : List Res) (w : World) (a : Addr) (n c : Nat) (xs : List Value) (hok : SliceOk (some a) n c) (hl : xs.length = n * 2) (h1 : ∀ u ∈ xs, u.oneCell' = true) (hn : n ≤ 1000000) (hr : RdV B [] (some a) xs) (hv : Inv B H w) :
  Calls Try.prog 67 #[.slice (some a) n c] w fun e w' => ∃ C ad' c', B.Le C ∧ e = .returned (.slice ad' n c') ∧ SliceOk ad' n c' ∧ RdV C [] ad' xs ∧ Inv C H w' := by
 refine (callsIn_wide (n := 5)).1 ?_
 refine callsIn_of_wp Try.func67 rfl trivial ?_
 simp only [Try.ntmps67, List.size_toArray, List.length_cons, List.length_nil, Nat.reduceAdd, Nat.reduceSub, Array.replicate_succ, Array.replicate_zero, List.push_toArray, List.append_toArray, List.nil_append, List.cons_append]
 refine sK fun K1 hK1 => rL ?_
 refine xA (.slice none 0 0) rfl rfl rfl ?_
 refine wL ?_
 simp only [zP, zI, zS, zO]
 refine tN (hK1 _ _ ?_)
 clear hK1 K1
 refine sK fun K2 hK2 => ?_
 refine sK fun K3 hK3 => rL ?_
 refine xM (.slice (some a) n c) rfl rfl rfl ?_
 refine xG (.bool false) rfl rfl (ex_slnil Try.underlying34 rfl rfl rfl rfl) ?_
 refine wL ?_
 simp only [zP, zI, zS, zO]
 refine tN (hK3 _ _ ?_)
 clear hK3 K3
 refine wpIn_cond_false rfl ?_
 refine wpIn_skip ?_
 refine tN (hK2 _ _ ?_)
 clear hK2 K2
 refine sK fun K4 hK4 => rL ?_
 refine sl_row0 (size := 2) tV (wn rfl) rfl hv (e := 85) (fun w => by kernel_rfl) (fun b5 w6 hv => ?_)
 refine xM (.slice (some a) n c) rfl rfl rfl ?_
 refine sl_append (news := xs) tV (wn rfl) rfl rfl rfl s1el34 hv hok hl ((hr.more (Base.Le.refl _) (fun _ h => by cases h)).src hv) (h1) (by unfold maxLen; omega) (by omega) (fun rv7 w10 hv => ?_)
 obtain ⟨ra8, rc9, rfl⟩ := row_slice hv.head
 simp only [zP, zI, zS, zO]
 refine xA (.slice ra8 (0 + n) rc9) rfl rfl rfl ?_
 refine wL ?_
 simp only [zP, zI, zS, zO]
 refine tN (hK4 _ _ ?_)
 clear hK4 K4
 refine wpIn_ret ?_
 refine bR rfl rfl ?_
 obtain ⟨C, hB, hv2, hr2, hok2, -⟩ := hv.rowBy
 rw [Nat.zero_add] at hok2 ⊢
 rw [List.nil_append] at hr2
 exact ⟨C, _, _, hB, rfl, hok2, hr2, hv2⟩
theorem cloneMems (B : Base) (H : List Res) (w : World) (v : Value) (n : Nat) (xs : List Value) (h : RowB B v n xs) (hl : xs.length = n * 2) (h1 : ∀ u ∈ xs, u.oneCell' = true) (hn : n ≤ 1000000) (hv : Inv B H w) :
  Calls Try.prog 67 #[v] w fun e w' => ∃ C v', B.Le C ∧ e = .returned v' ∧ RowB C v' n xs ∧ Inv C H w' := by
 obtain ⟨ad, c, rfl, hok, hr⟩ := h
 cases ad with
 | none =>
  have hc0 : c = 0 := hok.nil rfl
  have hn0 : n = 0 := by have := hok.le; omega
  subst hc0 hn0
  refine (cloneMems0 B H w hv).mono ?_
  rintro e w' ⟨rfl, hv⟩
  exact ⟨B, _, Base.Le.refl _, rfl, ⟨none, 0, rfl, hok, hr⟩, hv⟩
 | some a =>
  refine (cloneMems1 B H w a n c xs hok hl h1 hn hr hv).mono ?_
  rintro e w' ⟨C, ad', c', hB, rfl, hok', hr', hv'⟩
  exact ⟨C, _, hB, rfl, ⟨ad', c', rfl, hok', hr'⟩, hv'⟩
theorem s1al36 (w : World) : (Instr.alloc 36 true (.tuple #[])).run Try.prog w = .ok (.pointer (some ⟨w.heap.size, 0, none⟩)) (w.alloc (.cells ([.int .i64 0, .string ⟨([] : List UInt8).toArray⟩, .slice none 0 0, .slice none 0 0, .slice none 0 0] : List Value).toArray 36)) := by kernel_rfl
theorem s1fa36_2 (w : World) (b o : Nat) : (Instr.fieldAt 36 (.pointer (some ⟨b, o, none⟩)) 2).run Try.prog w = .ok (.pointer (some ⟨b, o + 2, none⟩)) w := by kernel_rfl
theorem s1na32 (w : World) : (isAgg 32).run Try.prog w = .ok false w := by kernel_rfl
theorem s1callable65 : Callable Try.prog 65 := ⟨_, Try.func65, by kernel_rfl, by kernel_rfl⟩
theorem s1sz32 : (Try.prog.info? 32).map (·.size) = some 1 := by kernel_rfl
theorem s1fa36_3 (w : World) (b o : Nat) : (Instr.fieldAt 36 (.pointer (some ⟨b, o, none⟩)) 3).run Try.prog w = .ok (.pointer (some ⟨b, o + 3, none⟩)) w := by kernel_rfl
theorem s1na33 (w : World) : (isAgg 33).run Try.prog w = .ok false w := by kernel_rfl
theorem s1callable66 : Callable Try.prog 66 := ⟨_, Try.func66, by kernel_rfl, by kernel_rfl⟩
theorem s1sz33 : (Try.prog.info? 33).map (·.size) = some 1 := by kernel_rfl
theorem s1fa36_4 (w : World) (b o : Nat) : (Instr.fieldAt 36 (.pointer (some ⟨b, o, none⟩)) 4).run Try.prog w = .ok (.pointer (some ⟨b, o + 4, none⟩)) w := by kernel_rfl
theorem s1na34 (w : World) : (isAgg 34).run Try.prog w = .ok false w := by kernel_rfl
theorem s1callable67 : Callable Try.prog 67 := ⟨_, Try.func67, by kernel_rfl, by kernel_rfl⟩
theorem s1sz34 : (Try.prog.info? 34).map (·.size) = some 1 := by kernel_rfl
theorem s1wd36 : Wide Try.prog 36 5 := wide_of (fun w => by kernel_rfl) (by kernel_rfl)
theorem s1sz36 : (Try.prog.info? 36).map (·.size) = some 5 := by kernel_rfl
set_option maxHeartbeats 2000000 in
theorem valueClone (B : Base) (H : List Res) (w : World) (v : Val) (p t z : Value) (h : ValAt B v p t z) (hv : Inv B H w) :
  Calls Try.prog 56 #[.agg #[.int .i64 v.kind, .string ⟨v.text.toArray⟩, p, t, z]] w fun e w' => ∃ C p' t' z', B.Le C ∧ e = .returned (.agg #[.int .i64 v.kind, .string ⟨v.text.toArray⟩, p', t', z']) ∧ ValAt C v p' t' z' ∧ Inv C H w' := by
 refine (callsIn_wide (n := 5)).1 ?_
 refine callsIn_of_wp Try.func56 rfl trivial ?_
 simp only [Try.ntmps56, List.size_toArray, List.length_cons, List.length_nil, Nat.reduceAdd, Nat.reduceSub, Array.replicate_succ, Array.replicate_zero, List.push_toArray, List.append_toArray, List.nil_append, List.cons_append]
 refine sK fun K1 hK1 => rL ?_
 refine sl_box (L := [.int .i64 v.kind, .string ⟨v.text.toArray⟩, p, t, z]) tV (wn rfl) rfl (p := .agg #[.int .i64 v.kind, .string ⟨v.text.toArray⟩, p, t, z]) rfl hv (fun w => by kernel_rfl) (fun b2 w3 hv => ?_)
 refine sl_alloc tV (wn rfl) rfl hv s1al36 (fun b4 w5 hv => ?_)
 refine wL ?_
 simp only [zP, zI, zS, zO]
 refine tN (hK1 _ _ ?_)
 clear hK1 K1
 refine sK fun K6 hK6 => rL ?_
 refine xF (.pointer (some ⟨b2, 2, none⟩)) rfl rfl rfl (s1fa36_2 _ _ _) ?_
 refine xL (p) rfl rfl rfl (run_load1 s1na32 (hv.load 1 2 rfl rfl)) ?_
 refine xC s1callable65 rfl rfl (l := [p]) rfl ((clonePairs _ _ _ p _ _ (h.p.more (Base.Le.refl _)) (pairCells_len _) (pairCells_one _) h.pm hv).mono ?_)
 rintro e w9 ⟨C7, q8, hC7, rfl, hq8, hv⟩
 refine ⟨_, rfl, ?_⟩
 simp only [zP, zI, zS, zO]
 refine xF (.pointer (some ⟨b2, 2, none⟩)) rfl rfl rfl (s1fa36_2 _ _ _) ?_
 refine sl_storeAt 1 (v := q8) (L' := [.int .i64 v.kind, .string ⟨v.text.toArray⟩, q8, t, z]) tV (wn rfl) rfl rfl rfl hv rfl s1sz32 (by simp) hq8.cells hq8.one rfl (fun w10 hv => ?_)
 simp only [List.set_cons_succ, List.set_cons_zero] at hv
 refine wL ?_
 simp only [zP, zN, zI, zS, zO]
 refine tN (hK6 _ _ ?_)
 clear hK6 K6
 refine sK fun K11 hK11 => rL ?_
 refine xF (.pointer (some ⟨b2, 3, none⟩)) rfl rfl rfl (s1fa36_3 _ _ _) ?_
 refine xL (t) rfl rfl rfl (run_load1 s1na33 (hv.load 1 3 rfl rfl)) ?_
 refine xC s1callable66 rfl rfl (l := [t]) rfl ((cloneTexts _ _ _ t _ _ (h.t.more hC7) (textCells_len _) (textCells_one _) h.tm hv).mono ?_)
 rintro e w14 ⟨C12, q13, hC12, rfl, hq13, hv⟩
 refine ⟨_, rfl, ?_⟩
 simp only [zP, zI, zS, zO]
 refine xF (.pointer (some ⟨b2, 3, none⟩)) rfl rfl rfl (s1fa36_3 _ _ _) ?_
 refine sl_storeAt 1 (v := q13) (L' := [.int .i64 v.kind, .string ⟨v.text.toArray⟩, q8, q13, z]) tV (wn rfl) rfl rfl rfl hv rfl s1sz33 (by simp) hq13.cells hq13.one rfl (fun w15 hv => ?_)
 simp only [List.set_cons_succ, List.set_cons_zero] at hv
 refine wL ?_
 simp only [zP, zN, zI, zS, zO]
 refine tN (hK11 _ _ ?_)
 clear hK11 K11
 refine sK fun K16 hK16 => rL ?_
 refine xF (.pointer (some ⟨b2, 4, none⟩)) rfl rfl rfl (s1fa36_4 _ _ _) ?_
 refine xL (z) rfl rfl rfl (run_load1 s1na34 (hv.load 1 4 rfl rfl)) ?_
 refine xC s1callable67 rfl rfl (l := [z]) rfl ((cloneMems _ _ _ z _ _ (h.z.more (hC7.trans hC12)) (memCells_len _) (memCells_one _) h.zm hv).mono ?_)
 rintro e w19 ⟨C17, q18, hC17, rfl, hq18, hv⟩
 refine ⟨_, rfl, ?_⟩
 simp only [zP, zI, zS, zO]
 refine xF (.pointer (some ⟨b2, 4, none⟩)) rfl rfl rfl (s1fa36_4 _ _ _) ?_
 refine sl_storeAt 1 (v := q18) (L' := [.int .i64 v.kind, .string ⟨v.text.toArray⟩, q8, q13, q18]) tV (wn rfl) rfl rfl rfl hv rfl s1sz34 (by simp) hq18.cells hq18.one rfl (fun w20 hv => ?_)
 simp only [List.set_cons_succ, List.set_cons_zero] at hv
 refine wL ?_
 simp only [zP, zN, zI, zS, zO]
 refine tN (hK16 _ _ ?_)
 clear hK16 K16
 refine sK fun K21 hK21 => rL ?_
 refine xL (.agg #[.int .i64 v.kind, .string ⟨v.text.toArray⟩, q8, q13, q18]) rfl rfl rfl (run_load_mid (pre := []) (mid := [.int .i64 v.kind, .string ⟨v.text.toArray⟩, q8, q13, q18]) (post := []) s1wd36 (show Blk _ b2 ([] ++ [.int .i64 v.kind, .string ⟨v.text.toArray⟩, q8, q13, q18] ++ []) _ from hv.get 1 rfl) rfl) ?_
 refine sl_storeNAt 0 (new := [.int .i64 v.kind, .string ⟨v.text.toArray⟩, q8, q13, q18]) (pre := []) (mid := [.int .i64 0, .string ⟨([] : List UInt8).toArray⟩, .slice none 0 0, .slice none 0 0, .slice none 0 0]) (post := []) (L' := [.int .i64 v.kind, .string ⟨v.text.toArray⟩, q8, q13, q18]) tV (wn rfl) rfl rfl rfl hv rfl s1sz36 rfl rfl rfl (one_cons rfl (one_cons rfl (one_cons hq8.one (one_cons hq13.one (one_cons hq18.one one_nil))))) rfl (fun w22 hv => ?_)
 simp only [List.set_cons_zero] at hv
 refine wL ?_
 simp only [zP, zN, zI, zS, zO]
 refine tN (hK21 _ _ ?_)
 clear hK21 K21
 refine wpIn_ret ?_
 refine bodyPost_ret (res_cell1 rfl rfl (run_load_mid (pre := []) (mid := [.int .i64 v.kind, .string ⟨v.text.toArray⟩, q8, q13, q18]) (post := []) s1wd36 (show Blk _ b4 ([] ++ [.int .i64 v.kind, .string ⟨v.text.toArray⟩, q8, q13, q18] ++ []) _ from hv.get 0 rfl) rfl)) rfl ?_
 exact ⟨_, q8, q13, q18, ((hC7.trans hC12).trans hC17), rfl, ⟨hq8.more (hC12.trans hC17), hq13.more hC17, hq18.more (Base.Le.refl _), h.pm, h.tm, h.zm⟩, (hv.sub (List.Sublist.cons _ (List.Sublist.cons _ (List.Sublist.refl _))))⟩
theorem s1al38 (w : World) : (Instr.alloc 38 true (.tuple #[])).run Try.prog w = .ok (.pointer (some ⟨w.heap.size, 0, none⟩)) (w.alloc (.cells ([.int .i64 0, .bool false, .int .i64 0, .int .i64 0, .string ⟨([] : List UInt8).toArray⟩, .slice none 0 0, .slice none 0 0, .slice none 0 0] : List Value).toArray 38)) := by kernel_rfl
theorem s1fa38_3 (w : World) (b o : Nat) : (Instr.fieldAt 38 (.pointer (some ⟨b, o, none⟩)) 3).run Try.prog w = .ok (.pointer (some ⟨b, o + 3, none⟩)) w := by kernel_rfl
theorem s1callable56 : Callable Try.prog 56 := ⟨_, Try.func56, by kernel_rfl, by kernel_rfl⟩
theorem s1wd38 : Wide Try.prog 38 8 := wide_of (fun w => by kernel_rfl) (by kernel_rfl)
theorem s1sz38 : (Try.prog.info? 38).map (·.size) = some 8 := by kernel_rfl
set_option maxHeartbeats 2000000 in
theorem chainClone (B : Base) (H : List Res) (w : World) (v : Ver) (p t z : Value) (h : ValAt B v.val p t z) (hv : Inv B H w) :
  Calls Try.prog 47 #[.agg #[.int .i64 v.stamp, .bool v.gone, .int .i64 v.expire, .int .i64 v.val.kind, .string ⟨v.val.text.toArray⟩, p, t, z]] w fun e w' => ∃ C p' t' z', B.Le C ∧ e = .returned (.agg #[.int .i64 v.stamp, .bool v.gone, .int .i64 v.expire, .int .i64 v.val.kind, .string ⟨v.val.text.toArray⟩, p', t', z']) ∧ ValAt C v.val p' t' z' ∧ Inv C H w' := by
 refine (callsIn_wide (n := 5)).1 ?_
 refine callsIn_of_wp Try.func47 rfl trivial ?_
 simp only [Try.ntmps47, List.size_toArray, List.length_cons, List.length_nil, Nat.reduceAdd, Nat.reduceSub, Array.replicate_succ, Array.replicate_zero, List.push_toArray, List.append_toArray, List.nil_append, List.cons_append]
 refine sK fun K1 hK1 => rL ?_
 refine sl_box (L := [.int .i64 v.stamp, .bool v.gone, .int .i64 v.expire, .int .i64 v.val.kind, .string ⟨v.val.text.toArray⟩, p, t, z]) tV (wn rfl) rfl (p := .agg #[.int .i64 v.stamp, .bool v.gone, .int .i64 v.expire, .int .i64 v.val.kind, .string ⟨v.val.text.toArray⟩, p, t, z]) rfl hv (fun w => by kernel_rfl) (fun b2 w3 hv => ?_)
 refine sl_alloc tV (wn rfl) rfl hv s1al38 (fun b4 w5 hv => ?_)
 refine wL ?_
 simp only [zP, zI, zS, zO]
 refine tN (hK1 _ _ ?_)
 clear hK1 K1
 refine sK fun K6 hK6 => rL ?_
 refine xF (.pointer (some ⟨b2, 3, none⟩)) rfl rfl rfl (s1fa38_3 _ _ _) ?_
 refine xL (.agg #[.int .i64 v.val.kind, .string ⟨v.val.text.toArray⟩, p, t, z]) rfl rfl rfl (run_load_mid (pre := [.int .i64 v.stamp, .bool v.gone, .int .i64 v.expire]) (mid := [.int .i64 v.val.kind, .string ⟨v.val.text.toArray⟩, p, t, z]) (post := []) s1wd36 (show Blk _ b2 ([.int .i64 v.stamp, .bool v.gone, .int .i64 v.expire] ++ [.int .i64 v.val.kind, .string ⟨v.val.text.toArray⟩, p, t, z] ++ []) _ from hv.get 1 rfl) rfl) ?_
 refine xC s1callable56 rfl rfl (l := [.agg #[.int .i64 v.val.kind, .string ⟨v.val.text.toArray⟩, p, t, z]]) rfl ((valueClone _ _ _ v.val p t z (h.more (Base.Le.refl _)) hv).mono ?_)
 rintro e w11 ⟨C7, p8, t9, z10, hC7, rfl, hp8, hv⟩
 refine ⟨_, rfl, ?_⟩
 simp only [zP, zI, zS, zO]
 refine xF (.pointer (some ⟨b2, 3, none⟩)) rfl rfl rfl (s1fa38_3 _ _ _) ?_
 refine sl_storeNAt 1 (new := [.int .i64 v.val.kind, .string ⟨v.val.text.toArray⟩, p8, t9, z10]) (pre := [.int .i64 v.stamp, .bool v.gone, .int .i64 v.expire]) (mid := [.int .i64 v.val.kind, .string ⟨v.val.text.toArray⟩, p, t, z]) (post := []) (L' := [.int .i64 v.stamp, .bool v.gone, .int .i64 v.expire, .int .i64 v.val.kind, .string ⟨v.val.text.toArray⟩, p8, t9, z10]) tV (wn rfl) rfl rfl rfl hv rfl s1sz36 rfl rfl rfl (one_cons rfl (one_cons rfl (one_cons hp8.p.one (one_cons hp8.t.one (one_cons hp8.z.one one_nil))))) rfl (fun w12 hv => ?_)
 simp only [List.set_cons_succ, List.set_cons_zero] at hv
 refine wL ?_
 simp only [zP, zN, zI, zS, zO]
 refine tN (hK6 _ _ ?_)
 clear hK6 K6
 refine sK fun K13 hK13 => rL ?_
 refine xL (.agg #[.int .i64 v.stamp, .bool v.gone, .int .i64 v.expire, .int .i64 v.val.kind, .string ⟨v.val.text.toArray⟩, p8, t9, z10]) rfl rfl rfl (run_load_mid (pre := []) (mid := [.int .i64 v.stamp, .bool v.gone, .int .i64 v.expire, .int .i64 v.val.kind, .string ⟨v.val.text.toArray⟩, p8, t9, z10]) (post := []) s1wd38 (show Blk _ b2 ([] ++ [.int .i64 v.stamp, .bool v.gone, .int .i64 v.expire, .int .i64 v.val.kind, .string ⟨v.val.text.toArray⟩, p8, t9, z10] ++ []) _ from hv.get 1 rfl) rfl) ?_
 refine sl_storeNAt 0 (new := [.int .i64 v.stamp, .bool v.gone, .int .i64 v.expire, .int .i64 v.val.kind, .string ⟨v.val.text.toArray⟩, p8, t9, z10]) (pre := []) (mid := [.int .i64 0, .bool false, .int .i64 0, .int .i64 0, .string ⟨([] : List UInt8).toArray⟩, .slice none 0 0, .slice none 0 0, .slice none 0 0]) (post := []) (L' := [.int .i64 v.stamp, .bool v.gone, .int .i64 v.expire, .int .i64 v.val.kind, .string ⟨v.val.text.toArray⟩, p8, t9, z10]) tV (wn rfl) rfl rfl rfl hv rfl s1sz38 rfl rfl rfl (one_cons rfl (one_cons rfl (one_cons rfl (one_cons rfl (one_cons rfl (one_cons hp8.p.one (one_cons hp8.t.one (one_cons hp8.z.one one_nil)))))))) rfl (fun w14 hv => ?_)
 simp only [List.set_cons_zero] at hv
 refine wL ?_
 simp only [zP, zN, zI, zS, zO]
 refine tN (hK13 _ _ ?_)
 clear hK13 K13
 refine wpIn_ret ?_
 refine bodyPost_ret (res_cell1 rfl rfl (run_load_mid (pre := []) (mid := [.int .i64 v.stamp, .bool v.gone, .int .i64 v.expire, .int .i64 v.val.kind, .string ⟨v.val.text.toArray⟩, p8, t9, z10]) (post := []) s1wd38 (show Blk _ b4 ([] ++ [.int .i64 v.stamp, .bool v.gone, .int .i64 v.expire, .int .i64 v.val.kind, .string ⟨v.val.text.toArray⟩, p8, t9, z10] ++ []) _ from hv.get 0 rfl) rfl)) rfl ?_
 exact ⟨_, p8, t9, z10, hC7, rfl, hp8, (hv.sub (List.Sublist.cons _ (List.Sublist.cons _ (List.Sublist.refl _))))⟩
theorem s1mk38 : (Try.prog.info? 38).map (fun i => (i.zero, i.size, i.bytes)) = some (some (.agg #[.int .i64 0, .bool false, .int .i64 0, .int .i64 0, .string ⟨([] : List UInt8).toArray⟩, .slice none 0 0, .slice none 0 0, .slice none 0 0]), 8, 120) := by kernel_rfl
theorem s1el66 : Elem Try.prog 66 38 (.agg #[.int .i64 0, .bool false, .int .i64 0, .int .i64 0, .string ⟨([] : List UInt8).toArray⟩, .slice none 0 0, .slice none 0 0, .slice none 0 0]) 8 120 := elem_of Try.underlying66 s1mk38 (by rfl) (by decide)
theorem s1es66 (w : World) : (sizeOf (Try.prog.elem 66)).run Try.prog w = .ok 8 w := by kernel_rfl
set_option maxHeartbeats 2000000 in
theorem indexClone0 (B : Base) (H : List Res) (w : World) (ad : Option Addr) (c : Nat) (xs : List Value) (l : List Ver) (hok : SliceOk ad l.length c) (hr : RdV B [] ad xs) (hxs : VersAt B l xs) (hm : l.length ≤ 1000000) (hv : Inv B H w) :
  Calls Try.prog 43 #[.slice ad l.length c] w fun e w' => ∃ C v', B.Le C ∧ e = .returned v' ∧ ChainB C v' l ∧ Inv C H w' := by
 refine (callsIn_wide (n := 5)).1 ?_
 refine callsIn_of_wp Try.func43 rfl trivial ?_
 simp only [Try.ntmps43, List.size_toArray, List.length_cons, List.length_nil, Nat.reduceAdd, Nat.reduceSub, Array.replicate_succ, Array.replicate_zero, List.push_toArray, List.append_toArray, List.nil_append, List.cons_append]
 refine sK fun K1 hK1 => rL ?_
 refine xA (.slice none 0 0) rfl rfl rfl ?_
 refine wL ?_
 simp only [zP, zI, zS, zO]
 refine tN (hK1 _ _ ?_)
 clear hK1 K1
 refine sK fun K2 hK2 => rL ?_
 refine xM (.slice ad l.length c) rfl rfl rfl ?_
 refine xG (.int .i64 (l.length : Int)) rfl rfl (ex_len0 Try.underlying66 rfl rfl) ?_
 refine sl_makeRow (cap := l.length) tV (wn rfl) rfl rfl rfl s1el66 (by unfold maxLen; omega) (by omega) hv (fun b3 w4 hv => ?_)
 simp only [zP, zI, zS, zO]
 refine xA (.slice (some ⟨b3, 0, none⟩) 0 l.length) rfl rfl rfl ?_
 refine wL ?_
 simp only [zP, zI, zS, zO]
 refine tN (hK2 _ _ ?_)
 clear hK2 K2
 refine sK fun K5 hK5 => ?_
 refine sK fun K6 hK6 => rL ?_
 refine xM (.slice ad l.length c) rfl rfl rfl ?_
 refine xG (.int .i64 (l.length : Int)) rfl rfl (ex_len0 Try.underlying66 rfl rfl) ?_
 refine xM (.int .i64 0) rfl rfl rfl ?_
 refine wL ?_
 simp only [zP, zI, zS, zO]
 refine tN (hK6 _ _ ?_)
 clear hK6 K6
 refine wpIn_block ?_
 gi_loopw [3, 11] (fun x3 x11 wr => ∃ (i : Nat) (C : Base) (ra : Option Addr) (rc : Nat) (ys : List Value), x3 = .slice ra i rc ∧ x11 = .int .i64 (i : Int) ∧ B.Le C ∧ i ≤ l.length ∧ VersAt C (l.take i) ys ∧ Inv C (Res.row 38 8 (.slice ra i rc) i ys :: H) wr) (fun x3 x11 _ => l.length - (intOf x11).toNat)
 case atStart => exact ⟨0, B, _, _, [], rfl, rfl, Base.Le.refl _, Nat.zero_le _, rfl, hv⟩
 case round =>
  obtain ⟨i, C, ra, rc, ys, rfl, rfl, hBC, hi, hys, hv⟩ := hrel
  refine sK fun K8 hK8 => rL ?_
  by_cases hb9 : (i : Int) < (l.length : Int)
  ·refine xG (.bool true) rfl rfl (ex_lss (k := .i64) (m := (i : Int)) (n := (l.length : Int)) rfl rfl rfl (decide_eq_true hb9)) ?_
   refine wL ?_
   simp only [zP, zI, zS, zO]
   refine tN (hK8 _ _ ?_)
   clear hK8 K8
   refine sK fun K10 hK10 => ?_
   refine wpIn_cond_true rfl ?_
   refine wpIn_skip ?_
   refine tN (hK10 _ _ ?_)
   clear hK10 K10
   refine sK fun K11 hK11 => ?_
   refine wpIn_block ?_
   refine sK fun K12 hK12 => ?_
   obtain ⟨x, hx⟩ : ∃ x, l[i]? = some x := ⟨_, List.getElem?_eq_getElem (show i < l.length by omega)⟩
   obtain ⟨bb, bo, xp, xt, xz, had, hvalx, hrdx⟩ := VersAt.reads hxs hr hx
   subst had
   refine rL ?_
   refine xG (.pointer (some ⟨bb, bo + i * 8, none⟩)) rfl rfl (ex_index rfl rfl rfl (run_idx (k := i) Try.underlying66 s1es66 (by omega))) ?_
   refine xL (.agg #[.int .i64 x.stamp, .bool x.gone, .int .i64 x.expire, .int .i64 x.val.kind, .string ⟨x.val.text.toArray⟩, xp, xt, xz]) rfl rfl rfl (run_loadR (cs := [.int .i64 x.stamp, .bool x.gone, .int .i64 x.expire, .int .i64 x.val.kind, .string ⟨x.val.text.toArray⟩, xp, xt, xz]) s1wd38 (Reads.mid (pre := []) (mid := [.int .i64 x.stamp, .bool x.gone, .int .i64 x.expire, .int .i64 x.val.kind, .string ⟨x.val.text.toArray⟩, xp, xt, xz]) (post := []) hrdx _ _ _ hBC no_res hv)) ?_
   refine sl_alloc tV (wn rfl) rfl hv s1al38 (fun b13 w14 hv => ?_)
   simp only [zP, zI, zS, zO]
   refine sl_storeNAt 0 (new := [.int .i64 x.stamp, .bool x.gone, .int .i64 x.expire, .int .i64 x.val.kind, .string ⟨x.val.text.toArray⟩, xp, xt, xz]) (pre := []) (mid := [.int .i64 0, .bool false, .int .i64 0, .int .i64 0, .string ⟨([] : List UInt8).toArray⟩, .slice none 0 0, .slice none 0 0, .slice none 0 0]) (post := []) (L' := [.int .i64 x.stamp, .bool x.gone, .int .i64 x.expire, .int .i64 x.val.kind, .string ⟨x.val.text.toArray⟩, xp, xt, xz]) tV (wn rfl) rfl rfl rfl hv rfl s1sz38 rfl rfl rfl (one_cons rfl (one_cons rfl (one_cons rfl (one_cons rfl (one_cons rfl (one_cons hvalx.p.one (one_cons hvalx.t.one (one_cons hvalx.z.one one_nil)))))))) rfl (fun w15 hv => ?_)
   simp only [List.set_cons_zero] at hv
   refine wL ?_
   simp only [zN]
   refine tN (hK12 _ _ ?_)
   clear hK12 K12
   refine sK fun K16 hK16 => rL ?_
   refine xF (.pointer (some ⟨b13, 3, none⟩)) rfl rfl rfl (s1fa38_3 _ _ _) ?_
   refine xL (.agg #[.int .i64 x.val.kind, .string ⟨x.val.text.toArray⟩, xp, xt, xz]) rfl rfl rfl (run_load_mid (pre := [.int .i64 x.stamp, .bool x.gone, .int .i64 x.expire]) (mid := [.int .i64 x.val.kind, .string ⟨x.val.text.toArray⟩, xp, xt, xz]) (post := []) s1wd36 (show Blk _ b13 ([.int .i64 x.stamp, .bool x.gone, .int .i64 x.expire] ++ [.int .i64 x.val.kind, .string ⟨x.val.text.toArray⟩, xp, xt, xz] ++ []) _ from hv.get 0 rfl) rfl) ?_
   refine xC s1callable56 rfl rfl (l := [.agg #[.int .i64 x.val.kind, .string ⟨x.val.text.toArray⟩, xp, xt, xz]]) rfl ((valueClone _ _ _ x.val xp xt xz (hvalx.more hBC) hv).mono ?_)
   rintro e w21 ⟨C17, p18, t19, z20, hC17, rfl, hp18, hv⟩
   refine ⟨_, rfl, ?_⟩
   simp only [zP, zI, zS, zO]
   refine xF (.pointer (some ⟨b13, 3, none⟩)) rfl rfl rfl (s1fa38_3 _ _ _) ?_
   refine sl_storeNAt 0 (new := [.int .i64 x.val.kind, .string ⟨x.val.text.toArray⟩, p18, t19, z20]) (pre := [.int .i64 x.stamp, .bool x.gone, .int .i64 x.expire]) (mid := [.int .i64 x.val.kind, .string ⟨x.val.text.toArray⟩, xp, xt, xz]) (post := []) (L' := [.int .i64 x.stamp, .bool x.gone, .int .i64 x.expire, .int .i64 x.val.kind, .string ⟨x.val.text.toArray⟩, p18, t19, z20]) tV (wn rfl) rfl rfl rfl hv rfl s1sz36 rfl rfl rfl (one_cons rfl (one_cons rfl (one_cons hp18.p.one (one_cons hp18.t.one (one_cons hp18.z.one one_nil))))) rfl (fun w22 hv => ?_)
   simp only [List.set_cons_zero] at hv
   refine wL ?_
   simp only [zP, zN, zI, zS, zO]
   refine tN (hK16 _ _ ?_)
   clear hK16 K16
   refine rL ?_
   refine xM (.slice ra i rc) rfl rfl rfl ?_
   refine xL (.agg #[.int .i64 x.stamp, .bool x.gone, .int .i64 x.expire, .int .i64 x.val.kind, .string ⟨x.val.text.toArray⟩, p18, t19, z20]) rfl rfl rfl (run_load_mid (pre := []) (mid := [.int .i64 x.stamp, .bool x.gone, .int .i64 x.expire, .int .i64 x.val.kind, .string ⟨x.val.text.toArray⟩, p18, t19, z20]) (post := []) s1wd38 (show Blk _ b13 ([] ++ [.int .i64 x.stamp, .bool x.gone, .int .i64 x.expire, .int .i64 x.val.kind, .string ⟨x.val.text.toArray⟩, p18, t19, z20] ++ []) _ from hv.get 0 rfl) rfl) ?_
   refine sl_rowAgg (L := [.int .i64 x.stamp, .bool x.gone, .int .i64 x.expire, .int .i64 x.val.kind, .string ⟨x.val.text.toArray⟩, p18, t19, z20]) tV (wn rfl) rfl rfl hv s1el66 rfl (by decide) (fun b23 w24 hv => ?_)
   simp only [zP, zI, zS, zO]
   replace hv := hv.front 2 rfl
   simp only [List.eraseIdx_cons_succ, List.eraseIdx_cons_zero] at hv
   refine sl_append (news := [.int .i64 x.stamp, .bool x.gone, .int .i64 x.expire, .int .i64 x.val.kind, .string ⟨x.val.text.toArray⟩, p18, t19, z20]) tV (wn rfl) rfl rfl rfl s1el66 hv (ok_full (by omega)) rfl (rd_all (hv.get 1 rfl)) (verCells_one (v := x) hp18) (by unfold maxLen; omega) (by omega) (fun rv25 w28 hv => ?_)
   obtain ⟨ra26, rc27, rfl⟩ := row_slice hv.head
   refine xA (.slice ra26 (i + 1) rc27) rfl rfl rfl ?_
   refine wL ?_
   simp only [zP, zI, zS, zO]
   refine blk_normal ?_
   refine tN (hK11 _ _ ?_)
   clear hK11 K11
   refine rL ?_
   refine xG (.int .i64 ((i + 1 : Nat) : Int)) rfl rfl (ex_add (m := (i : Int)) (n := 1) rfl rfl rfl (by rw [i64_in (by omega)]; omega)) ?_
   refine xM (.int .i64 ((i + 1 : Nat) : Int)) rfl rfl rfl ?_
   refine wL ?_
   simp only [zP, zI, zS, zO]
   refine then_normal ?_
   go_roundw
   case rel => exact ⟨i + 1, _, _, _, _, rfl, rfl, (hBC.trans hC17), by omega, (hys.more hC17).next hx hp18, (hv.sub (List.Sublist.cons_cons _ (List.Sublist.cons _ (List.Sublist.cons _ (List.Sublist.refl _)))))⟩
   case measure => show l.length - (((i + 1 : Nat) : Int)).toNat < l.length - ((i : Int)).toNat; omega
  refine xG (.bool false) rfl rfl (ex_lss (k := .i64) (m := (i : Int)) (n := (l.length : Int)) rfl rfl rfl (decide_eq_false hb9)) ?_
  refine wL ?_
  simp only [zP, zI, zS, zO]
  refine tN (hK8 _ _ ?_)
  clear hK8 K8
  refine sK fun K29 hK29 => ?_
  refine wpIn_cond_false rfl ?_
  refine wpIn_exit ?_
  refine then_exit ?_
  clear hK29 K29
  refine then_exit ?_
  refine blk_hit ?_
  refine tN (hK5 _ _ ?_)
  clear hK5 K5
  refine sK fun K30 hK30 => rL ?_
  refine xM (.slice ra i rc) rfl rfl rfl ?_
  refine xA (.slice ra i rc) rfl rfl rfl ?_
  refine wL ?_
  simp only [zP, zI, zS, zO]
  refine tN (hK30 _ _ ?_)
  clear hK30 K30
  refine wpIn_ret ?_
  refine bR rfl rfl ?_
  obtain rfl : i = l.length := by omega
  obtain ⟨D, hD, hv2, hr2, hok2, -⟩ := hv.rowBy
  rw [List.take_length] at hys
  exact ⟨D, _, hBC.trans hD, rfl, ⟨ra, rc, _, rfl, hok2, hr2, hys.more hD⟩, hv2⟩
theorem indexClone (B : Base) (H : List Res) (w : World) (v : Value) (l : List Ver) (h : ChainB B v l) (hm : l.length ≤ 1000000) (hv : Inv B H w) :
  Calls Try.prog 43 #[v] w fun e w' => ∃ C v', B.Le C ∧ e = .returned v' ∧ ChainB C v' l ∧ Inv C H w' := by
 obtain ⟨ad, c, xs, rfl, hok, hr, hxs⟩ := h
 exact indexClone0 B H w ad c xs l hok hr hxs hm hv
end Go.Proofs.Ytffmbdagjpdieaa
/- sort.Search over a function value; chain.upto, chain.At, chain.Alive. -/
namespace Go.Proofs.Ytffmbdagjpdieaa
open Go.RowKit Go.Pm
theorem shr1 (m : Nat) : ((m : Int)).fdiv (2 ^ (min (1 : Int).toNat IntKind.u64.bits)) = ((m / 2 : Nat) : Int) := by
 show ((m : Int)).fdiv (2 ^ 1) = _
 rw [Int.fdiv_eq_ediv_of_nonneg _ (by decide)]; omega
def UptoI (l : List Ver) (s : Int) (i : Nat) : Prop := i ≤ l.length ∧ (∀ x, l[i]? = some x → s < x.stamp) ∧ (∀ j x, i = j + 1 → l[j]? = some x → x.stamp ≤ s)
def aliveB (v : Ver) (clock : Int) : Bool := !v.gone && (decide (v.expire = 0) || decide (clock < v.expire))
abbrev zeroVer : List Value := [.int .i64 0, .bool false, .int .i64 0, .int .i64 0, .string ⟨([] : List UInt8).toArray⟩, .slice none 0 0, .slice none 0 0, .slice none 0 0]
set_option maxHeartbeats 2000000 in
theorem sortSearch (B : Base) (H : List Res) (w : World) (f : FuncId) (cb : Array Value) (n : Nat) (p : Nat → Bool) (hcal : Callable Try.prog f) (hf : ∀ k, k < n → ∀ w, Inv B H w → Calls Try.prog f (#[.int .i64 (k : Int)] ++ cb) w fun e w' => e = .returned (.bool (p k)) ∧ Inv B H w') (hn : n ≤ 1000000000) (hv : Inv B H w) :
  Calls Try.prog 53 #[.int .i64 (n : Int), .func (.func f) #[] cb] w fun e w' => ∃ i : Nat, i ≤ n ∧ (i < n → p i = true) ∧ (∀ j, i = j + 1 → p j = false) ∧ e = .returned (.int .i64 (i : Int)) ∧ Inv B H w' := by
 refine (callsIn_wide (n := 5)).1 ?_
 refine callsIn_of_wp Try.func53 rfl trivial ?_
 simp only [Try.ntmps53, List.size_toArray, List.length_cons, List.length_nil, Nat.reduceAdd, Nat.reduceSub, Array.replicate_succ, Array.replicate_zero, List.push_toArray, List.append_toArray, List.nil_append, List.cons_append]
 refine sK fun K1 hK1 => rL ?_
 refine xA (.int .i64 0) rfl rfl rfl ?_
 refine wL ?_
 simp only [zP, zI, zS, zO]
 refine tN (hK1 _ _ ?_)
 clear hK1 K1
 refine sK fun K2 hK2 => rL ?_
 refine xM (.int .i64 (n : Int)) rfl rfl rfl ?_
 refine xA (.int .i64 0) rfl rfl rfl ?_
 refine xA (.int .i64 (n : Int)) rfl rfl rfl ?_
 refine wL ?_
 simp only [zP, zI, zS, zO]
 refine tN (hK2 _ _ ?_)
 clear hK2 K2
 refine sK fun K3 hK3 => ?_
 refine wpIn_block ?_
 gi_loopw [5, 6] (fun x5 x6 wr => ∃ (lo hi : Nat), x5 = .int .i64 (lo : Int) ∧ x6 = .int .i64 (hi : Int) ∧ lo ≤ hi ∧ hi ≤ n ∧ (hi < n → p hi = true) ∧ (∀ j, lo = j + 1 → p j = false) ∧ Inv B H wr) (fun x5 x6 _ => (intOf x6).toNat - (intOf x5).toNat)
 case atStart => exact ⟨0, n, rfl, rfl, Nat.zero_le _, Nat.le_refl _, fun h => by omega, fun j h => by omega, hv⟩
 case round =>
  obtain ⟨lo, hi, rfl, rfl, hlh, hin, hph, hpl, hv⟩ := hrel
  refine sK fun K5 hK5 => ?_
  refine sK fun K6 hK6 => rL ?_
  refine xM (.int .i64 (lo : Int)) rfl rfl rfl ?_
  refine xM (.int .i64 (hi : Int)) rfl rfl rfl ?_
  by_cases hb7 : (lo : Int) < (hi : Int)
  ·refine xG (.bool true) rfl rfl (ex_lss (k := .i64) (m := (lo : Int)) (n := (hi : Int)) rfl rfl rfl (decide_eq_true hb7)) ?_
   refine wL ?_
   simp only [zP, zI, zS, zO]
   refine tN (hK6 _ _ ?_)
   clear hK6 K6
   refine wpIn_cond_true rfl ?_
   refine wpIn_skip ?_
   refine tN (hK5 _ _ ?_)
   clear hK5 K5
   refine wpIn_block ?_
   refine sK fun K8 hK8 => rL ?_
   refine xM (.int .i64 (lo : Int)) rfl rfl rfl ?_
   refine xM (.int .i64 (hi : Int)) rfl rfl rfl ?_
   refine xG (.int .i64 ((lo + hi : Nat) : Int)) rfl rfl (ex_add (m := (lo : Int)) (n := (hi : Int)) rfl rfl rfl (by rw [i64_in (by omega)]; omega)) ?_
   simp only [zP, zI, zS, zO]
   refine xG (.int .u64 ((lo + hi : Nat) : Int)) rfl rfl (ex_int (m := ((lo + hi : Nat) : Int)) Try.underlying3 Try.underlying111 rfl rfl (u64_in (by omega))) ?_
   refine xG (.int .u64 ((((lo + hi) / 2) : Nat) : Int)) rfl rfl (ex_shr (m := ((lo + hi : Nat) : Int)) (n := 1) rfl rfl rfl (by decide) (shr1 (lo + hi))) ?_
   refine xG (.int .i64 ((((lo + hi) / 2) : Nat) : Int)) rfl rfl (ex_int (m := ((((lo + hi) / 2) : Nat) : Int)) Try.underlying111 Try.underlying3 rfl rfl (i64_in (by omega))) ?_
   simp only [zP, zI, zS, zO]
   refine xA (.int .i64 ((((lo + hi) / 2) : Nat) : Int)) rfl rfl rfl ?_
   refine wL ?_
   simp only [zP, zI, zS, zO]
   refine tN (hK8 _ _ ?_)
   clear hK8 K8
   refine sK fun K9 hK9 => rL ?_
   refine xM (.func (.func f) #[] cb) rfl rfl rfl ?_
   refine xM (.int .i64 ((((lo + hi) / 2) : Nat) : Int)) rfl rfl rfl ?_
   refine wpi_callV hcal tV wideC rfl (wn rfl) rfl rfl (args := #[.int .i64 ((((lo + hi) / 2) : Nat) : Int)]) (by simp only [yA, yB, yC]; rfl) ((hf ((lo + hi) / 2) (by omega) _ hv).mono ?_)
   rintro e w10 ⟨rfl, hv⟩
   refine ⟨_, rfl, ?_⟩
   simp only [zP, zI, zS, zO]
   refine xG (.bool (!(p ((lo + hi) / 2)))) rfl rfl (ex_not (b := (p ((lo + hi) / 2))) rfl rfl rfl) ?_
   refine wL ?_
   simp only [zP, zI, zS, zO]
   refine tN (hK9 _ _ ?_)
   clear hK9 K9
   refine wpIn_cond_split (t := !(p ((lo + hi) / 2))) rfl (fun hc11 => ?_) (fun hc11 => ?_)
   ·refine rL ?_
    refine xM (.int .i64 ((((lo + hi) / 2) : Nat) : Int)) rfl rfl rfl ?_
    refine xG (.int .i64 ((((lo + hi) / 2) + 1 : Nat) : Int)) rfl rfl (ex_add (m := ((((lo + hi) / 2) : Nat) : Int)) (n := 1) rfl rfl rfl (by rw [i64_in (by omega)]; omega)) ?_
    refine xA (.int .i64 ((((lo + hi) / 2) + 1 : Nat) : Int)) rfl rfl rfl ?_
    refine wL ?_
    simp only [zP, zI, zS, zO]
    refine blk_normal ?_
    refine then_normal ?_
    go_roundw
    case rel => exact ⟨((lo + hi) / 2) + 1, hi, rfl, rfl, by omega, hin, hph, fun j hj => (by rw [show j = ((lo + hi) / 2) by omega]; simpa using hc11), hv⟩
    case measure => show ((hi : Int)).toNat - (((((lo + hi) / 2) + 1 : Nat) : Int)).toNat < ((hi : Int)).toNat - ((lo : Int)).toNat; omega
   refine rL ?_
   refine xM (.int .i64 ((((lo + hi) / 2) : Nat) : Int)) rfl rfl rfl ?_
   refine xA (.int .i64 ((((lo + hi) / 2) : Nat) : Int)) rfl rfl rfl ?_
   refine wL ?_
   simp only [zP, zI, zS, zO]
   refine blk_normal ?_
   refine then_normal ?_
   go_roundw
   case rel => exact ⟨lo, ((lo + hi) / 2), rfl, rfl, by omega, by omega, fun _ => by simpa using hc11, hpl, hv⟩
   case measure => show (((((lo + hi) / 2) : Nat) : Int)).toNat - ((lo : Int)).toNat < ((hi : Int)).toNat - ((lo : Int)).toNat; omega
  refine xG (.bool false) rfl rfl (ex_lss (k := .i64) (m := (lo : Int)) (n := (hi : Int)) rfl rfl rfl (decide_eq_false hb7)) ?_
  refine wL ?_
  simp only [zP, zI, zS, zO]
  refine tN (hK6 _ _ ?_)
  clear hK6 K6
  refine wpIn_cond_false rfl ?_
  refine wpIn_exit ?_
  refine then_exit ?_
  clear hK5 K5
  refine then_exit ?_
  refine blk_hit ?_
  refine tN (hK3 _ _ ?_)
  clear hK3 K3
  refine sK fun K12 hK12 => rL ?_
  refine xM (.int .i64 (lo : Int)) rfl rfl rfl ?_
  refine xA (.int .i64 (lo : Int)) rfl rfl rfl ?_
  refine wL ?_
  simp only [zP, zI, zS, zO]
  refine tN (hK12 _ _ ?_)
  clear hK12 K12
  refine wpIn_ret ?_
  refine bR rfl rfl ?_
  obtain rfl : lo = hi := by omega
  exact ⟨lo, hin, hph, hpl, rfl, hv⟩
theorem s2na66 (w : World) : (isAgg 66).run Try.prog w = .ok false w := by kernel_rfl
theorem s2fa38_0 (w : World) (b o : Nat) : (Instr.fieldAt 38 (.pointer (some ⟨b, o, none⟩)) 0).run Try.prog w = .ok (.pointer (some ⟨b, o + 0, none⟩)) w := by kernel_rfl
theorem s2na3 (w : World) : (isAgg 3).run Try.prog w = .ok false w := by kernel_rfl
set_option maxHeartbeats 2000000 in
theorem uptoFn (B : Base) (H : List Res) (w : World) (b1 b2 k : Nat) (s : Int) (ad : Option Addr) (c : Nat) (xs : List Value) (l : List Ver) (x : Ver) (hr : RdV B [] ad xs) (hxs : VersAt B l xs) (hk : l[k]? = some x) (hv : Inv B (Res.cell b2 [.int .i64 s] 3 :: Res.cell b1 [.slice ad l.length c] 66 :: H) w) :
  Calls Try.prog 62 #[.int .i64 (k : Int), .pointer (some ⟨b1, 0, none⟩), .pointer (some ⟨b2, 0, none⟩)] w fun e w' => e = .returned (.bool (decide (x.stamp > s))) ∧ Inv B (Res.cell b2 [.int .i64 s] 3 :: Res.cell b1 [.slice ad l.length c] 66 :: H) w' := by
 have hkl : k < l.length := (List.getElem?_eq_some_iff.1 hk).1
 have hkx := hk
 refine (callsIn_wide (n := 5)).1 ?_
 refine callsIn_of_wp Try.func62 rfl trivial ?_
 simp only [Try.ntmps62, List.size_toArray, List.length_cons, List.length_nil, Nat.reduceAdd, Nat.reduceSub, Array.replicate_succ, Array.replicate_zero, List.push_toArray, List.append_toArray, List.nil_append, List.cons_append]
 refine sK fun K1 hK1 => rL ?_
 refine xA (.bool false) rfl rfl rfl ?_
 refine wL ?_
 simp only [zP, zI, zS, zO]
 refine tN (hK1 _ _ ?_)
 clear hK1 K1
 refine sK fun K2 hK2 => ?_
 obtain ⟨bb, bo, p, t, z, had, hval, hrd⟩ := VersAt.reads hxs hr hk
 subst had
 refine region_st mixed [.slice (some ⟨bb, bo, none⟩) l.length c, .int .i64 (k : Int), .pointer (some ⟨bb, bo + k * 8, none⟩), .pointer (some ⟨bb, bo + k * 8, none⟩), .int .i64 x.stamp, .int .i64 s, .bool (decide (x.stamp > s)), .bool (decide (x.stamp > s))] [] [⟨fun vals w => vals = [] ∧ Inv B (Res.cell b2 [.int .i64 s] 3 :: Res.cell b1 [.slice (some ⟨bb, bo, none⟩) l.length c] 66 :: H) w, fun _ _ _ ⟨h, hi⟩ he => ⟨h, hi.ext he⟩⟩] 12 rfl (by kernel_rfl) ⟨rfl, hv⟩ ⟨?_, ?_, ?_, ?_, ?_, ?_, ?_, ?_, trivial⟩ ?_
 ·intro aa ww vals hJ hR
  have hl : vals.length = 0 := by have := JS.le (n := 0) (by rfl) hJ; omega
  obtain ⟨hvals, hv⟩ := hJ.at0 hl
  exact xD rfl (ex_load rfl (show aa.eval (.tmp 1) = _ from hR.keep 1 rfl) (run_load1 s2na66 (hv.load 1 0 rfl rfl))) rfl rfl
 ·intro aa ww vals hJ hR
  exact xD rfl (ex_move rfl (show aa.eval (.tmp 0) = _ from hR.keep 0 rfl)) rfl rfl
 ·intro aa ww vals hJ hR
  exact xD rfl (ex_index rfl (hR.w 0 5 rfl rfl rfl rfl) (hR.w 1 6 rfl rfl rfl rfl) (run_idx (k := k) Try.underlying66 s1es66 (by omega))) rfl rfl
 ·intro aa ww vals hJ hR
  exact xD rfl (ex_field rfl (hR.w 2 7 rfl rfl rfl rfl) (s2fa38_0 _ _ _)) rfl rfl
 ·intro aa ww vals hJ hR
  have hl : vals.length = 0 := by have := JS.le (n := 0) (by rfl) hJ; omega
  obtain ⟨hvals, hv⟩ := hJ.at0 hl
  exact xD rfl (ex_load rfl (hR.w 3 8 rfl rfl rfl rfl) (run_load1 s2na3 (hrd _ _ _ (Base.Le.refl _) no_res hv 0 _ rfl))) rfl rfl
 ·intro aa ww vals hJ hR
  have hl : vals.length = 0 := by have := JS.le (n := 0) (by rfl) hJ; omega
  obtain ⟨hvals, hv⟩ := hJ.at0 hl
  exact xD rfl (ex_load rfl (show aa.eval (.tmp 2) = _ from hR.keep 2 rfl) (run_load1 s2na3 (hv.load 0 0 rfl rfl))) rfl rfl
 ·intro aa ww vals hJ hR
  exact xD rfl (ex_gtr (k := .i64) (m := x.stamp) (n := s) rfl (hR.w 4 9 rfl rfl rfl rfl) (hR.w 5 10 rfl rfl rfl rfl) rfl) rfl rfl
 ·intro aa ww vals hJ hR
  exact xD rfl (ex_assign rfl (hR.w 6 11 rfl rfl rfl rfl)) rfl rfl
 rintro w3 vals ⟨rfl, hv⟩
 rw [show mixV [] [] 0 [.slice (some ⟨bb, bo, none⟩) l.length c, .int .i64 (k : Int), .pointer (some ⟨bb, bo + k * 8, none⟩), .pointer (some ⟨bb, bo + k * 8, none⟩), .int .i64 x.stamp, .int .i64 s, .bool (decide (x.stamp > s)), .bool (decide (x.stamp > s))] = [.slice (some ⟨bb, bo, none⟩) l.length c, .int .i64 (k : Int), .pointer (some ⟨bb, bo + k * 8, none⟩), .pointer (some ⟨bb, bo + k * 8, none⟩), .int .i64 x.stamp, .int .i64 s, .bool (decide (x.stamp > s)), .bool (decide (x.stamp > s))] from rfl]
 simp only [putAll, zP, zI, zS, zO]
 refine tN (hK2 _ _ ?_)
 clear hK2 K2
 refine wpIn_ret ?_
 refine bR rfl rfl ?_
 exact ⟨rfl, hv⟩
theorem s2callable62 : Callable Try.prog 62 := ⟨_, Try.func62, by kernel_rfl, by kernel_rfl⟩
theorem s2callable53 : Callable Try.prog 53 := ⟨_, Try.func53, by kernel_rfl, by kernel_rfl⟩
set_option maxHeartbeats 2000000 in
theorem chainUpto (B : Base) (H : List Res) (w : World) (ad : Option Addr) (c : Nat) (s : Int) (xs : List Value) (l : List Ver) (hr : RdV B [] ad xs) (hxs : VersAt B l xs) (hm : l.length ≤ 1000000) (hv : Inv B H w) :
  Calls Try.prog 46 #[.slice ad l.length c, .int .i64 s] w fun e w' => ∃ i, UptoI l s i ∧ e = .returned (.int .i64 (i : Int)) ∧ Inv B H w' := by
 refine (callsIn_wide (n := 5)).1 ?_
 refine callsIn_of_wp Try.func46 rfl trivial ?_
 simp only [Try.ntmps46, List.size_toArray, List.length_cons, List.length_nil, Nat.reduceAdd, Nat.reduceSub, Array.replicate_succ, Array.replicate_zero, List.push_toArray, List.append_toArray, List.nil_append, List.cons_append]
 refine sK fun K1 hK1 => rL ?_
 refine sl_box (L := [.slice ad l.length c]) tV (wn rfl) rfl (p := .slice ad l.length c) rfl hv (fun w => by kernel_rfl) (fun b2 w3 hv => ?_)
 refine sl_box (L := [.int .i64 s]) tV (wn rfl) rfl (p := .int .i64 s) rfl hv (fun w => by kernel_rfl) (fun b4 w5 hv => ?_)
 refine xA (.int .i64 0) rfl rfl rfl ?_
 refine wL ?_
 simp only [zP, zI, zS, zO]
 refine tN (hK1 _ _ ?_)
 clear hK1 K1
 refine sK fun K6 hK6 => rL ?_
 refine xL (.slice ad l.length c) rfl rfl rfl (run_load1 s2na66 (hv.load 1 0 rfl rfl)) ?_
 refine xG (.int .i64 (l.length : Int)) rfl rfl (ex_len0 Try.underlying66 rfl rfl) ?_
 refine xG (.func (.func 62) #[] #[.pointer (some ⟨b2, 0, none⟩), .pointer (some ⟨b4, 0, none⟩)]) rfl rfl (ex_makeFunc (c' := #[.pointer (some ⟨b2, 0, none⟩), .pointer (some ⟨b4, 0, none⟩)]) rfl (by simp only [yA, yC]) (by simp only [yA, yB, yC]; rfl)) ?_
 simp only [zP, zI, zS, zO]
 have hfn : ∀ k, k < l.length → ∀ w, Inv B (Res.cell b4 [.int .i64 s] 3 :: Res.cell b2 [.slice ad l.length c] 66 :: H) w → Calls Try.prog 62 (#[.int .i64 (k : Int)] ++ #[.pointer (some ⟨b2, 0, none⟩), .pointer (some ⟨b4, 0, none⟩)]) w fun e w' => e = .returned (.bool ((l[k]?.map fun x => decide (x.stamp > s)).getD false)) ∧ Inv B (Res.cell b4 [.int .i64 s] 3 :: Res.cell b2 [.slice ad l.length c] 66 :: H) w' := fun k hk w hv => by
  obtain ⟨x, hx⟩ : ∃ x, l[k]? = some x := ⟨_, List.getElem?_eq_getElem hk⟩
  rw [hx]
  exact uptoFn B H w _ _ k s ad c xs l x hr hxs hx hv
 refine xC s2callable53 rfl rfl (l := [.int .i64 (l.length : Int), .func (.func 62) #[] #[.pointer (some ⟨b2, 0, none⟩), .pointer (some ⟨b4, 0, none⟩)]]) rfl ((sortSearch B _ _ 62 _ l.length _ s2callable62 hfn (by omega) hv).mono ?_)
 rintro e w8 ⟨i7, hi1, hi2, hi3, rfl, hv⟩
 refine ⟨_, rfl, ?_⟩
 refine xA (.int .i64 (i7 : Int)) rfl rfl rfl ?_
 refine wL ?_
 simp only [zP, zI, zS, zO]
 refine tN (hK6 _ _ ?_)
 clear hK6 K6
 refine wpIn_ret ?_
 refine bR rfl rfl ?_
 refine ⟨i7, ⟨hi1, fun x hx => ?_, fun j x hj hx => ?_⟩, rfl, (hv.sub (List.Sublist.cons _ (List.Sublist.cons _ (List.Sublist.refl _))))⟩
 ·have := hi2 (List.getElem?_eq_some_iff.1 hx).1
  rw [hx] at this
  simpa using this
 have := hi3 j hj
 rw [hx] at this
 simpa using this
theorem s2al38 (w : World) : (Instr.alloc 38 true (.tuple #[])).run Try.prog w = .ok (.pointer (some ⟨w.heap.size, 0, none⟩)) (w.alloc (.cells ([.int .i64 0, .bool false, .int .i64 0, .int .i64 0, .string ⟨([] : List UInt8).toArray⟩, .slice none 0 0, .slice none 0 0, .slice none 0 0] : List Value).toArray 38)) := by kernel_rfl
theorem s2callable46 : Callable Try.prog 46 := ⟨_, Try.func46, by kernel_rfl, by kernel_rfl⟩
theorem s2callable47 : Callable Try.prog 47 := ⟨_, Try.func47, by kernel_rfl, by kernel_rfl⟩
set_option maxHeartbeats 2000000 in
theorem chainAt (B : Base) (H : List Res) (w : World) (ad : Option Addr) (c : Nat) (s : Int) (xs : List Value) (l : List Ver) (hr : RdV B [] ad xs) (hxs : VersAt B l xs) (hm : l.length ≤ 1000000) (hv : Inv B H w) :
  Calls Try.prog 26 #[.slice ad l.length c, .int .i64 s] w fun e w' => ∃ i, UptoI l s i ∧ ((i = 0 ∧ e = .returned (.tuple #[.agg zeroVer.toArray, .bool false]) ∧ Inv B H w') ∨ ∃ j x C p t z, i = j + 1 ∧ l[j]? = some x ∧ B.Le C ∧ e = .returned (.tuple #[.agg (verCells x p t z).toArray, .bool true]) ∧ ValAt C x.val p t z ∧ Inv C H w') := by
 refine (callsIn_wide (n := 5)).1 ?_
 refine callsIn_of_wp Try.func26 rfl trivial ?_
 simp only [Try.ntmps26, List.size_toArray, List.length_cons, List.length_nil, Nat.reduceAdd, Nat.reduceSub, Array.replicate_succ, Array.replicate_zero, List.push_toArray, List.append_toArray, List.nil_append, List.cons_append]
 refine sK fun K1 hK1 => rL ?_
 refine sl_alloc tV (wn rfl) rfl hv s2al38 (fun b2 w3 hv => ?_)
 refine xA (.bool false) rfl rfl rfl ?_
 refine wL ?_
 simp only [zP, zI, zS, zO]
 refine tN (hK1 _ _ ?_)
 clear hK1 K1
 refine sK fun K4 hK4 => rL ?_
 refine xM (.slice ad l.length c) rfl rfl rfl ?_
 refine xM (.int .i64 s) rfl rfl rfl ?_
 refine xC s2callable46 rfl rfl (l := [.slice ad l.length c, .int .i64 s]) rfl ((chainUpto B _ _ _ _ _ _ l hr hxs hm hv).mono ?_)
 rintro e w5 ⟨i, hu, rfl, hv⟩
 refine ⟨_, rfl, ?_⟩
 simp only [zP, zI, zS, zO]
 refine xA (.int .i64 (i : Int)) rfl rfl rfl ?_
 refine wL ?_
 simp only [zP, zI, zS, zO]
 refine tN (hK4 _ _ ?_)
 clear hK4 K4
 refine sK fun K6 hK6 => ?_
 refine sK fun K7 hK7 => rL ?_
 refine xM (.int .i64 (i : Int)) rfl rfl rfl ?_
 by_cases hb8 : (i : Int) = 0
 ·refine xG (.bool true) rfl rfl (ex_eql (k := .i64) (m := (i : Int)) (n := 0) rfl rfl rfl (decide_eq_true hb8)) ?_
  refine wL ?_
  simp only [zP, zI, zS, zO]
  refine tN (hK7 _ _ ?_)
  clear hK7 K7
  refine wpIn_cond_true rfl ?_
  refine sK fun K9 hK9 => rL ?_
  refine xG (.agg #[.int .i64 0, .bool false, .int .i64 0, .int .i64 0, .string ⟨([] : List UInt8).toArray⟩, .slice none 0 0, .slice none 0 0, .slice none 0 0]) rfl rfl (ex_buildN (vs := #[]) rfl (by simp only [yA, yC]) (by kernel_rfl)) ?_
  refine sl_storeNAt 0 (new := [.int .i64 0, .bool false, .int .i64 0, .int .i64 0, .string ⟨([] : List UInt8).toArray⟩, .slice none 0 0, .slice none 0 0, .slice none 0 0]) (pre := []) (mid := [.int .i64 0, .bool false, .int .i64 0, .int .i64 0, .string ⟨([] : List UInt8).toArray⟩, .slice none 0 0, .slice none 0 0, .slice none 0 0]) (post := []) (L' := [.int .i64 0, .bool false, .int .i64 0, .int .i64 0, .string ⟨([] : List UInt8).toArray⟩, .slice none 0 0, .slice none 0 0, .slice none 0 0]) tV (wn rfl) rfl rfl rfl hv rfl s1sz38 rfl rfl rfl (one_cons rfl (one_cons rfl (one_cons rfl (one_cons rfl (one_cons rfl (one_cons rfl (one_cons rfl (one_cons rfl one_nil)))))))) rfl (fun w10 hv => ?_)
  simp only [List.set_cons_zero] at hv
  refine xA (.bool false) rfl rfl rfl ?_
  refine wL ?_
  simp only [zP, zN, zI, zS, zO]
  refine tN (hK9 _ _ ?_)
  clear hK9 K9
  refine wpIn_ret ?_
  refine then_ret ?_
  clear hK6 K6
  refine bodyPost_ret (res_cell2 rfl rfl (run_load_mid (pre := []) (mid := [.int .i64 0, .bool false, .int .i64 0, .int .i64 0, .string ⟨([] : List UInt8).toArray⟩, .slice none 0 0, .slice none 0 0, .slice none 0 0]) (post := []) s1wd38 (show Blk _ b2 ([] ++ [.int .i64 0, .bool false, .int .i64 0, .int .i64 0, .string ⟨([] : List UInt8).toArray⟩, .slice none 0 0, .slice none 0 0, .slice none 0 0] ++ []) _ from hv.get 0 rfl) rfl)) rfl ?_
  exact ⟨i, hu, .inl ⟨by omega, rfl, (hv.sub (List.Sublist.cons _ (List.Sublist.refl _)))⟩⟩
 refine xG (.bool false) rfl rfl (ex_eql (k := .i64) (m := (i : Int)) (n := 0) rfl rfl rfl (decide_eq_false hb8)) ?_
 obtain ⟨j, hj⟩ : ∃ j : Nat, i = j + 1 := ⟨i - 1, by omega⟩
 have hjl : j < l.length := by have := hu.1; omega
 refine wL ?_
 simp only [zP, zI, zS, zO]
 refine tN (hK7 _ _ ?_)
 clear hK7 K7
 refine wpIn_cond_false rfl ?_
 refine wpIn_skip ?_
 refine tN (hK6 _ _ ?_)
 clear hK6 K6
 refine sK fun K11 hK11 => ?_
 obtain ⟨x, hx⟩ : ∃ x, l[j]? = some x := ⟨_, List.getElem?_eq_getElem (show j < l.length by omega)⟩
 obtain ⟨bb, bo, xp, xt, xz, had, hvalx, hrdx⟩ := VersAt.reads hxs hr hx
 subst had
 refine rL ?_
 refine xM (.slice (some ⟨bb, bo, none⟩) l.length c) rfl rfl rfl ?_
 refine xM (.int .i64 (i : Int)) rfl rfl rfl ?_
 refine xG (.int .i64 (j : Int)) rfl rfl (ex_sub (m := (i : Int)) (n := 1) rfl rfl rfl (by rw [i64_in (by omega)]; omega)) ?_
 simp only [zP, zI, zS, zO]
 refine xG (.pointer (some ⟨bb, bo + j * 8, none⟩)) rfl rfl (ex_index rfl rfl rfl (run_idx (k := j) Try.underlying66 s1es66 (by omega))) ?_
 refine xL (.agg #[.int .i64 x.stamp, .bool x.gone, .int .i64 x.expire, .int .i64 x.val.kind, .string ⟨x.val.text.toArray⟩, xp, xt, xz]) rfl rfl rfl (run_loadR (cs := [.int .i64 x.stamp, .bool x.gone, .int .i64 x.expire, .int .i64 x.val.kind, .string ⟨x.val.text.toArray⟩, xp, xt, xz]) s1wd38 (Reads.mid (pre := []) (mid := [.int .i64 x.stamp, .bool x.gone, .int .i64 x.expire, .int .i64 x.val.kind, .string ⟨x.val.text.toArray⟩, xp, xt, xz]) (post := []) hrdx _ _ _ (Base.Le.refl _) no_res hv)) ?_
 refine xC s2callable47 rfl rfl (l := [.agg #[.int .i64 x.stamp, .bool x.gone, .int .i64 x.expire, .int .i64 x.val.kind, .string ⟨x.val.text.toArray⟩, xp, xt, xz]]) rfl ((chainClone _ _ _ x xp xt xz (hvalx.more (Base.Le.refl _)) hv).mono ?_)
 rintro e w16 ⟨C12, p13, t14, z15, hC12, rfl, hp13, hv⟩
 refine ⟨_, rfl, ?_⟩
 simp only [zP, zI, zS, zO]
 refine sl_storeNAt 0 (new := [.int .i64 x.stamp, .bool x.gone, .int .i64 x.expire, .int .i64 x.val.kind, .string ⟨x.val.text.toArray⟩, p13, t14, z15]) (pre := []) (mid := [.int .i64 0, .bool false, .int .i64 0, .int .i64 0, .string ⟨([] : List UInt8).toArray⟩, .slice none 0 0, .slice none 0 0, .slice none 0 0]) (post := []) (L' := [.int .i64 x.stamp, .bool x.gone, .int .i64 x.expire, .int .i64 x.val.kind, .string ⟨x.val.text.toArray⟩, p13, t14, z15]) tV (wn rfl) rfl rfl rfl hv rfl s1sz38 rfl rfl rfl (one_cons rfl (one_cons rfl (one_cons rfl (one_cons rfl (one_cons rfl (one_cons hp13.p.one (one_cons hp13.t.one (one_cons hp13.z.one one_nil)))))))) rfl (fun w17 hv => ?_)
 simp only [List.set_cons_zero] at hv
 refine xA (.bool true) rfl rfl rfl ?_
 refine wL ?_
 simp only [zP, zN, zI, zS, zO]
 refine tN (hK11 _ _ ?_)
 clear hK11 K11
 refine wpIn_ret ?_
 refine bodyPost_ret (res_cell2 rfl rfl (run_load_mid (pre := []) (mid := [.int .i64 x.stamp, .bool x.gone, .int .i64 x.expire, .int .i64 x.val.kind, .string ⟨x.val.text.toArray⟩, p13, t14, z15]) (post := []) s1wd38 (show Blk _ b2 ([] ++ [.int .i64 x.stamp, .bool x.gone, .int .i64 x.expire, .int .i64 x.val.kind, .string ⟨x.val.text.toArray⟩, p13, t14, z15] ++ []) _ from hv.get 0 rfl) rfl)) rfl ?_
 exact ⟨i, hu, .inr ⟨j, x, _, p13, t14, z15, hj, hx, hC12, rfl, hp13, (hv.sub (List.Sublist.cons _ (List.Sublist.refl _)))⟩⟩
theorem s2fa38_1 (w : World) (b o : Nat) : (Instr.fieldAt 38 (.pointer (some ⟨b, o, none⟩)) 1).run Try.prog w = .ok (.pointer (some ⟨b, o + 1, none⟩)) w := by kernel_rfl
theorem s2na4 (w : World) : (isAgg 4).run Try.prog w = .ok false w := by kernel_rfl
set_option maxHeartbeats 2000000 in
theorem alive0 (B : Base) (H : List Res) (w : World) (v : Ver) (p t z : Value) (clock : Int) (hg : v.gone = true) (hv : Inv B H w) :
  Calls Try.prog 28 #[.agg #[.int .i64 v.stamp, .bool true, .int .i64 v.expire, .int .i64 v.val.kind, .string ⟨v.val.text.toArray⟩, p, t, z], .int .i64 clock] w fun e w' => e = .returned (.bool (aliveB v clock)) ∧ Inv B H w' := by
 refine (callsIn_wide (n := 5)).1 ?_
 refine callsIn_of_wp Try.func28 rfl trivial ?_
 simp only [Try.ntmps28, List.size_toArray, List.length_cons, List.length_nil, Nat.reduceAdd, Nat.reduceSub, Array.replicate_succ, Array.replicate_zero, List.push_toArray, List.append_toArray, List.nil_append, List.cons_append]
 refine sK fun K1 hK1 => rL ?_
 refine sl_box (L := [.int .i64 v.stamp, .bool true, .int .i64 v.expire, .int .i64 v.val.kind, .string ⟨v.val.text.toArray⟩, p, t, z]) tV (wn rfl) rfl (p := .agg #[.int .i64 v.stamp, .bool true, .int .i64 v.expire, .int .i64 v.val.kind, .string ⟨v.val.text.toArray⟩, p, t, z]) rfl hv (fun w => by kernel_rfl) (fun b2 w3 hv => ?_)
 refine xA (.bool false) rfl rfl rfl ?_
 refine wL ?_
 simp only [zP, zI, zS, zO]
 refine tN (hK1 _ _ ?_)
 clear hK1 K1
 refine sK fun K4 hK4 => rL ?_
 refine xF (.pointer (some ⟨b2, 1, none⟩)) rfl rfl rfl (s2fa38_1 _ _ _) ?_
 refine xL (.bool true) rfl rfl rfl (run_load1 s2na4 (hv.load 0 1 rfl rfl)) ?_
 refine xG (.bool false) rfl rfl (ex_not (b := true) rfl rfl rfl) ?_
 simp only [zP, zI, zS, zO]
 refine xM (.bool false) rfl rfl rfl ?_
 refine xT 3 8 true false rfl rfl rfl rfl rfl rfl rfl (by decide) ?_
 simp only [zP, zI, zS, zO]
 refine xN 3 8 true false rfl rfl rfl (by decide) ?_
 refine xU 7 12 rfl rfl rfl ?_
 simp only [zP, zI, zS, zO]
 refine xU 7 12 rfl rfl rfl ?_
 refine xU 7 12 rfl rfl rfl ?_
 refine xU 7 12 rfl rfl rfl ?_
 simp only [zP, zI, zS, zO]
 refine xN 3 8 true false rfl rfl rfl (by decide) ?_
 refine xK false (.bool false) rfl rfl rfl rfl ?_
 refine xA (.bool false) rfl rfl rfl ?_
 refine wL ?_
 simp only [zP, zI, zS, zO]
 refine tN (hK4 _ _ ?_)
 clear hK4 K4
 refine wpIn_ret ?_
 refine bR rfl rfl ?_
 exact ⟨congrArg (fun b => Ending.returned (Value.bool b)) (show false = aliveB v clock from by simp [aliveB, *]), (hv.sub (List.Sublist.cons _ (List.Sublist.refl _)))⟩
theorem s2fa38_2 (w : World) (b o : Nat) : (Instr.fieldAt 38 (.pointer (some ⟨b, o, none⟩)) 2).run Try.prog w = .ok (.pointer (some ⟨b, o + 2, none⟩)) w := by kernel_rfl
set_option maxHeartbeats 2000000 in
theorem alive1 (B : Base) (H : List Res) (w : World) (v : Ver) (p t z : Value) (clock : Int) (hg : v.gone = false) (hv : Inv B H w) :
  Calls Try.prog 28 #[.agg #[.int .i64 v.stamp, .bool false, .int .i64 v.expire, .int .i64 v.val.kind, .string ⟨v.val.text.toArray⟩, p, t, z], .int .i64 clock] w fun e w' => e = .returned (.bool (aliveB v clock)) ∧ Inv B H w' := by
 refine (callsIn_wide (n := 5)).1 ?_
 refine callsIn_of_wp Try.func28 rfl trivial ?_
 simp only [Try.ntmps28, List.size_toArray, List.length_cons, List.length_nil, Nat.reduceAdd, Nat.reduceSub, Array.replicate_succ, Array.replicate_zero, List.push_toArray, List.append_toArray, List.nil_append, List.cons_append]
 refine sK fun K1 hK1 => rL ?_
 refine sl_box (L := [.int .i64 v.stamp, .bool false, .int .i64 v.expire, .int .i64 v.val.kind, .string ⟨v.val.text.toArray⟩, p, t, z]) tV (wn rfl) rfl (p := .agg #[.int .i64 v.stamp, .bool false, .int .i64 v.expire, .int .i64 v.val.kind, .string ⟨v.val.text.toArray⟩, p, t, z]) rfl hv (fun w => by kernel_rfl) (fun b2 w3 hv => ?_)
 refine xA (.bool false) rfl rfl rfl ?_
 refine wL ?_
 simp only [zP, zI, zS, zO]
 refine tN (hK1 _ _ ?_)
 clear hK1 K1
 refine sK fun K4 hK4 => rL ?_
 refine xF (.pointer (some ⟨b2, 1, none⟩)) rfl rfl rfl (s2fa38_1 _ _ _) ?_
 refine xL (.bool false) rfl rfl rfl (run_load1 s2na4 (hv.load 0 1 rfl rfl)) ?_
 refine xG (.bool true) rfl rfl (ex_not (b := false) rfl rfl rfl) ?_
 simp only [zP, zI, zS, zO]
 refine xM (.bool true) rfl rfl rfl ?_
 refine xH 3 8 true (.pointer (some ⟨b2, 2, none⟩)) rfl rfl rfl rfl (ex_field rfl rfl (s2fa38_2 _ _ _)) ?_
 refine xH 3 8 true (.int .i64 v.expire) rfl rfl rfl rfl (ex_load rfl rfl (run_load1 s2na3 (hv.load 0 2 rfl rfl))) ?_
 simp only [zP, zI, zS, zO]
 by_cases hb5 : v.expire = 0
 ·refine xH 3 8 true (.bool true) rfl rfl rfl rfl (ex_eql (k := .i64) (m := v.expire) (n := 0) rfl rfl rfl (decide_eq_true hb5)) ?_
  refine xH 3 8 true (.bool true) rfl rfl rfl rfl (ex_move rfl rfl) ?_
  refine xT 7 12 false true rfl rfl rfl rfl rfl rfl rfl (by decide) ?_
  simp only [zP, zI, zS, zO]
  refine xN 7 12 false true rfl rfl rfl (by decide) ?_
  simp only [zP, zI, zS, zO]
  refine xH 3 8 true (.bool true) rfl rfl rfl rfl (ex_pick (b := true) rfl rfl rfl) ?_
  refine xK true (.bool true) rfl rfl rfl rfl ?_
  refine xA (.bool true) rfl rfl rfl ?_
  refine wL ?_
  simp only [zP, zI, zS, zO]
  refine tN (hK4 _ _ ?_)
  clear hK4 K4
  refine wpIn_ret ?_
  refine bR rfl rfl ?_
  exact ⟨congrArg (fun b => Ending.returned (Value.bool b)) (show true = aliveB v clock from by simp [aliveB, *]), (hv.sub (List.Sublist.cons _ (List.Sublist.refl _)))⟩
 refine xH 3 8 true (.bool false) rfl rfl rfl rfl (ex_eql (k := .i64) (m := v.expire) (n := 0) rfl rfl rfl (decide_eq_false hb5)) ?_
 refine xH 3 8 true (.bool false) rfl rfl rfl rfl (ex_move rfl rfl) ?_
 refine xH 7 12 false (.pointer (some ⟨b2, 2, none⟩)) rfl rfl rfl rfl (ex_field rfl rfl (s2fa38_2 _ _ _)) ?_
 simp only [zP, zI, zS, zO]
 refine xH 7 12 false (.int .i64 v.expire) rfl rfl rfl rfl (ex_load rfl rfl (run_load1 s2na3 (hv.load 0 2 rfl rfl))) ?_
 refine xH 7 12 false (.int .i64 clock) rfl rfl rfl rfl (ex_move rfl rfl) ?_
 by_cases hb6 : v.expire > clock
 ·refine xH 7 12 false (.bool true) rfl rfl rfl rfl (ex_gtr (k := .i64) (m := v.expire) (n := clock) rfl rfl rfl (decide_eq_true hb6)) ?_
  simp only [zP, zI, zS, zO]
  refine xH 3 8 true (.bool true) rfl rfl rfl rfl (ex_pick (b := false) rfl rfl rfl) ?_
  refine xK true (.bool true) rfl rfl rfl rfl ?_
  refine xA (.bool true) rfl rfl rfl ?_
  refine wL ?_
  simp only [zP, zI, zS, zO]
  refine tN (hK4 _ _ ?_)
  clear hK4 K4
  refine wpIn_ret ?_
  refine bR rfl rfl ?_
  exact ⟨congrArg (fun b => Ending.returned (Value.bool b)) (show true = aliveB v clock from by simp [aliveB, *]), (hv.sub (List.Sublist.cons _ (List.Sublist.refl _)))⟩
 refine xH 7 12 false (.bool false) rfl rfl rfl rfl (ex_gtr (k := .i64) (m := v.expire) (n := clock) rfl rfl rfl (decide_eq_false hb6)) ?_
 simp only [zP, zI, zS, zO]
 refine xH 3 8 true (.bool false) rfl rfl rfl rfl (ex_pick (b := false) rfl rfl rfl) ?_
 refine xK true (.bool false) rfl rfl rfl rfl ?_
 refine xA (.bool false) rfl rfl rfl ?_
 refine wL ?_
 simp only [zP, zI, zS, zO]
 refine tN (hK4 _ _ ?_)
 clear hK4 K4
 refine wpIn_ret ?_
 refine bR rfl rfl ?_
 exact ⟨congrArg (fun b => Ending.returned (Value.bool b)) (show false = aliveB v clock from by simp [aliveB, *]), (hv.sub (List.Sublist.cons _ (List.Sublist.refl _)))⟩
theorem chainAlive (B : Base) (H : List Res) (w : World) (v : Ver) (p t z : Value) (clock : Int) (hv : Inv B H w) : Calls Try.prog 28 #[.agg (verCells v p t z).toArray, .int .i64 clock] w fun e w' => e = .returned (.bool (aliveB v clock)) ∧ Inv B H w' := by
 cases hg : v.gone with
 | true => have := alive0 B H w v p t z clock hg hv; rw [← hg] at this; exact this
 | false => have := alive1 B H w v p t z clock hg hv; rw [← hg] at this; exact this
end Go.Proofs.Ytffmbdagjpdieaa
/- The index in memory that stays: blocks of entries; what a search finds. -/
namespace Go.Pm
open Go.RowKit
abbrev Ent := List UInt8 × Value
def entCells (l : List Ent) : List Value := l.flatMap fun e => [strV e.1, e.2]
theorem entCells_len (l : List Ent) : (entCells l).length = l.length * 2 := by
 induction l with
 | nil => rfl
 | cons a l ih => rw [entCells, List.flatMap_cons, List.length_append]; show 2 + (entCells l).length = _; rw [ih, List.length_cons]; omega
theorem entCells_append (l k : List Ent) : entCells (l ++ k) = entCells l ++ entCells k := List.flatMap_append ..
theorem entCells_take (l : List Ent) (i : Nat) : (entCells l).take (i * 2) = entCells (l.take i) := by
 induction l generalizing i with
 | nil => simp [entCells]
 | cons a l ih =>
  cases i with
  | zero => simp [entCells]
  | succ i =>
   show (strV a.1 :: a.2 :: entCells l).take _ = strV a.1 :: a.2 :: entCells (l.take i)
   rw [show (i + 1) * 2 = i * 2 + 2 by rw [Nat.succ_mul], List.take_succ_cons, List.take_succ_cons, ih]
theorem entCells_drop (l : List Ent) (i : Nat) : (entCells l).drop (i * 2) = entCells (l.drop i) := by
 induction l generalizing i with
 | nil => simp [entCells]
 | cons a l ih =>
  cases i with
  | zero => simp
  | succ i =>
   show (strV a.1 :: a.2 :: entCells l).drop _ = entCells (l.drop i)
   rw [show (i + 1) * 2 = i * 2 + 2 by rw [Nat.succ_mul], List.drop_succ_cons, List.drop_succ_cons, ih]
theorem entCells_get {l : List Ent} {i : Nat} {e : Ent} (h : l[i]? = some e) : (entCells l)[i * 2]? = some (strV e.1) ∧ (entCells l)[i * 2 + 1]? = some e.2 := by
 induction l generalizing i with
 | nil => simp at h
 | cons a l ih =>
  cases i with
  | zero =>
   simp only [List.getElem?_cons_zero, Option.some.injEq] at h
   subst h
   exact ⟨rfl, rfl⟩
  | succ i =>
   have := ih (i := i) (by simpa using h)
   show (strV a.1 :: a.2 :: entCells l)[(i + 1) * 2]? = _ ∧ (strV a.1 :: a.2 :: entCells l)[(i + 1) * 2 + 1]? = _
   rw [show (i + 1) * 2 = i * 2 + 1 + 1 by rw [Nat.succ_mul]]
   exact this
theorem ent_reads {B : Base} {R : List Res} {l : List Ent} {ad : Option Addr} {i : Nat} {e : Ent} (hr : RdW B R ad (entCells l)) (h : l[i]? = some e) : ∃ b off, ad = some ⟨b, off, none⟩ ∧ Reads B R b (off + i * 2) [strV e.1, e.2] := by
 have hi := (List.getElem?_eq_some_iff.1 h).1
 have hg := entCells_get h
 refine rdW_reads (k := i * 2) (m := 2) hr (by rw [entCells_len]; omega) (by decide) rfl (fun j hj => ?_)
 match j, hj with
 | 0, _ => exact hg.1.symm
 | 1, _ => exact hg.2.symm
theorem row1_reads {B : Base} {R : List Res} {xs : List Value} {ad : Option Addr} {i : Nat} {v : Value} (hr : RdW B R ad xs) (h : xs[i]? = some v) : ∃ b off, ad = some ⟨b, off, none⟩ ∧ Reads B R b (off + i) [v] := by
 have hi := (List.getElem?_eq_some_iff.1 h).1
 refine rdW_reads (k := i) (m := 1) hr (by omega) (by decide) rfl (fun j hj => ?_)
 match j, hj with
 | 0, _ => exact h.symm
def BlksAt (B : Base) (R : List Res) (X : List (List Ent)) (bvs : List Value) : Prop := bvs.length = X.length ∧ ∀ (i : Nat) (es : List Ent), X[i]? = some es → ∃ ad c, bvs[i]? = some (.slice ad es.length c) ∧ SliceOk ad es.length c ∧ RdW B R ad (entCells es)
structure IxOk (X : List (List Ent)) : Prop where
 ne : ∀ es ∈ X, es ≠ []
 lenX : X.length ≤ 1000000
 lenE : ∀ es ∈ X, es.length ≤ 1000000
structure FindI (X : List (List Ent)) (key : List UInt8) (i j : Nat) (ok : Bool) : Prop where
 le : i ≤ X.length
 hi : ∀ es, X[i]? = some es → ∃ la, es.getLast? = some la ∧ Op.bytesLess la.1 key = false
 lo : ∀ k es, i = k + 1 → X[k]? = some es → ∃ la, es.getLast? = some la ∧ Op.bytesLess la.1 key = true
 out : i = X.length → j = 0 ∧ ok = false
 at_ : ∀ es, X[i]? = some es → ∃ e, es[j]? = some e ∧ Op.bytesLess e.1 key = false ∧ ok = decide (e.1 = key) ∧ ∀ k f, j = k + 1 → es[k]? = some f → Op.bytesLess f.1 key = true
end Go.Pm
