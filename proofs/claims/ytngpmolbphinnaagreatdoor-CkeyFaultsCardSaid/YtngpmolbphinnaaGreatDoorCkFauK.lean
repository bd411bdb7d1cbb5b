/- Arguments of the store's laws: rows of rows of writes. -/
import Derived.Test.YtngpmolbphinnaaGreatDoorCkFauF
import Derived.Test.YtngpmolbphinnaaGreatDoorRows
import Derived.Lib.LaidTab
import Derived.LaidSub
import Derived.Lib.ItoaNum
import Derived.Deep.LoopGhost
import Derived.Test.YtngpmolbphinnaaGreatDoorCkFauE
import Derived.Lib.ParseIntBTie
import Derived.Test.YtngpmolbphinnaaGreatDoorCkFauC
import Derived.Test.YtngpmolbphinnaaGreatDoorCkFauJ
import Derived.Test.YtngpmolbphinnaaGreatDoorCkFauB
import Derived.Test.YtngpmolbphinnaaGreatDoorCkFauD
import Derived.Test.YtngpmolbphinnaaGreatDoorCkFauG
import Derived.Test.YtngpmolbphinnaaGreatDoorCkFauI
set_option maxRecDepth 100000
set_option maxHeartbeats 16000000
set_option synthInstance.maxSize 4096
set_option synthInstance.maxHeartbeats 400000
namespace Go.Pm
open Go.RowKit
def All2 {α β : Type} (R : α → β → Prop) : List α → List β → Prop
 | [], [] => True
 | a :: k, b :: l => R a b ∧ All2 R k l
 | _, _ => False
theorem rep_rowAux {W : World} {S : Nat → Prop} {t : Ty} {a : Option Addr} : ∀ (l : List t.den) (k : Nat), (∀ i (h : i < l.length), ∃ b off xs, a = some ⟨b, off, none⟩ ∧ S b ∧ xs.length = t.size ∧ (∀ j (h : j < xs.length), W.cell? ⟨b, off + (k + i) * t.size + j, none⟩ = some xs[j]) ∧ Rep W S t xs l[i]) →
  ∃ xss : List (List Value), All2 (fun xs d => xs.length = t.size ∧ Rep W S t xs d) xss l ∧ ∀ j (h : j < xss.flatten.length), ∃ b off, a = some ⟨b, off, none⟩ ∧ W.cell? ⟨b, off + k * t.size + j, none⟩ = some xss.flatten[j]
 | [], k, _ => ⟨[], trivial, fun j h => by simp at h⟩
 | d :: l, k, h => by
  obtain ⟨xss, h1, h2⟩ := rep_rowAux l (k + 1) (fun i hi => by
   obtain ⟨b, off, xs, e1, e2, e3, e4, e5⟩ := h (i + 1) (by simpa using hi)
   refine ⟨b, off, xs, e1, e2, e3, fun j hj => ?_, e5⟩
   rw [show k + 1 + i = k + (i + 1) by omega]
   exact e4 j hj)
  obtain ⟨b, off, xs, e1, e2, e3, e4, e5⟩ := h 0 (by simp)
  refine ⟨xs :: xss, ⟨⟨e3, e5⟩, h1⟩, fun j hj => ?_⟩
  rcases Nat.lt_or_ge j xs.length with hx | hx
  ·refine ⟨b, off, e1, ?_⟩
   have := e4 j hx
   rw [Nat.add_zero] at this
   rw [this]
   simp only [List.flatten_cons]
   rw [List.getElem_append_left hx]
  have hj' : j - xs.length < xss.flatten.length := by
   simp only [List.flatten_cons, List.length_append] at hj
   omega
  obtain ⟨b', off', f1, f2⟩ := h2 (j - xs.length) hj'
  refine ⟨b', off', f1, ?_⟩
  rw [show off' + k * t.size + j = off' + (k + 1) * t.size + (j - xs.length) by rw [Nat.succ_mul]; omega, f2]
  simp only [List.flatten_cons]
  rw [List.getElem_append_right hx]
theorem rep_row {W : World} {S : Nat → Prop} {t : Ty} {cs : List Value} {l : List t.den} (h : Rep W S (.slice t) cs l) :
  ∃ a cap xss, cs = [.slice a l.length cap] ∧ SliceOk a l.length cap ∧ RdV (Base.of W) [] a xss.flatten ∧ All2 (fun xs d => xs.length = t.size ∧ Rep W S t xs d) xss l := by
 obtain ⟨a, cap, h1, h2, h4⟩ := h
 obtain ⟨xss, h5, h6⟩ := rep_rowAux (t := t) l 0 (fun i hi => by
  obtain ⟨b, off, xs, e1, e2, e3, e4, e5⟩ := h4 i hi
  refine ⟨b, off, xs, e1, e2, e3, fun j hj => ?_, e5⟩
  rw [Nat.zero_add]
  exact e4 j hj)
 refine ⟨a, cap, xss, h1, h2, rdV_of W fun j hj => ?_, h5⟩
 obtain ⟨b, off, f1, f2⟩ := h6 j hj
 exact ⟨b, off, f1, by rw [← f2, Nat.zero_mul, Nat.add_zero]⟩
abbrev pairTy : Ty := .pair .str (.pair .str .unit)
abbrev memTy : Ty := .pair (.int .i64) (.pair .str .unit)
abbrev valTy : Ty := .pair (.int .i64) (.pair .str (.pair (.slice pairTy) (.pair (.slice .str) (.pair (.slice memTy) .unit))))
def valOf (d : valTy.den) : Val := ⟨d.1, d.2.1, d.2.2.1.map fun p => (p.1, p.2.1), d.2.2.2.1, d.2.2.2.2.1.map fun p => (p.1, p.2.1)⟩
theorem rep_pairs {W : World} {S : Nat → Prop} : ∀ {xss : List (List Value)} {l : List pairTy.den}, All2 (fun xs d => xs.length = pairTy.size ∧ Rep W S pairTy xs d) xss l → xss.flatten = pairCells (l.map fun p => (p.1, p.2.1))
 | [], [], _ => rfl
 | xs :: xss, d :: l, ⟨⟨h1, h2⟩, h⟩ => by
  have := rep_pairs h
  match xs, h1 with
  | [x0, x1], _ =>
   obtain ⟨⟨k1, _⟩, ⟨k2, _⟩, _⟩ := h2
   have k1' : [x0] = _ := k1
   have k2' : [x1] = _ := k2
   simp only [List.cons.injEq, and_true] at k1' k2'
   subst k1' k2'
   simp only [List.flatten_cons, this, List.map_cons, pairCells, List.flatMap_cons]
theorem rep_mems {W : World} {S : Nat → Prop} : ∀ {xss : List (List Value)} {l : List memTy.den}, All2 (fun xs d => xs.length = memTy.size ∧ Rep W S memTy xs d) xss l → xss.flatten = memCells (l.map fun p => (p.1, p.2.1))
 | [], [], _ => rfl
 | xs :: xss, d :: l, ⟨⟨h1, h2⟩, h⟩ => by
  have := rep_mems h
  match xs, h1 with
  | [x0, x1], _ =>
   obtain ⟨⟨k1, _⟩, ⟨k2, _⟩, _⟩ := h2
   have k1' : [x0] = _ := k1
   have k2' : [x1] = _ := k2
   simp only [List.cons.injEq, and_true] at k1' k2'
   subst k1' k2'
   simp only [List.flatten_cons, this, List.map_cons, memCells, List.flatMap_cons]
   rfl
theorem rep_texts {W : World} {S : Nat → Prop} : ∀ {xss : List (List Value)} {l : List (List UInt8)}, All2 (fun xs (d : Ty.str.den) => xs.length = Ty.str.size ∧ Rep W S .str xs d) xss l → xss.flatten = textCells l
 | [], [], _ => rfl
 | xs :: xss, d :: l, ⟨⟨h1, h2⟩, h⟩ => by
  have := rep_texts h
  match xs, h1 with
  | [x0], _ =>
   obtain ⟨k1, _⟩ := h2
   have k1' : [x0] = _ := k1
   simp only [List.cons.injEq, and_true] at k1'
   subst k1'
   simp only [List.flatten_cons, this, textCells, List.map_cons]
   rfl
theorem rep_val {W : World} {S : Nat → Prop} {k0 k1 k2 k3 k4 : Value} {d : valTy.den} (h : Rep W S valTy [k0, k1, k2, k3, k4] d) : k0 = .int .i64 (valOf d).kind ∧ k1 = strV (valOf d).text ∧ ValRd (Base.of W) (valOf d) k2 k3 k4 := by
 obtain ⟨⟨e0, _⟩, ⟨e1, _⟩, e2, e3, e4, _⟩ := h
 have e0' : [k0] = _ := e0
 have e1' : [k1] = _ := e1
 simp only [List.cons.injEq, and_true] at e0' e1'
 obtain ⟨a2, c2, x2, f2, g2, i2, j2⟩ := rep_row e2
 obtain ⟨a3, c3, x3, f3, g3, i3, j3⟩ := rep_row e3
 obtain ⟨a4, c4, x4, f4, g4, i4, j4⟩ := rep_row e4
 have f2' : [k2] = _ := f2
 have f3' : [k3] = _ := f3
 have f4' : [k4] = _ := f4
 simp only [List.cons.injEq, and_true] at f2' f3' f4'
 rw [rep_pairs j2] at i2
 rw [rep_texts j3] at i3
 rw [rep_mems j4] at i4
 refine ⟨e0', e1', ⟨a2, c2, ?_, ?_, i2⟩, ⟨a3, c3, f3', g3, i3⟩, ⟨a4, c4, ?_, ?_, i4⟩⟩
 ·rw [f2']; simp [valOf]
 ·simpa [valOf] using g2
 ·rw [f4']; simp [valOf]
 simpa [valOf] using g4
end Go.Pm
namespace Go.Proofs.YtngpmolbphinnaaGreatDoor
open Go
theorem tabOf {W : World} {l : List (String × DataW Unit)} (hl : l.filter (fun x => x.1 == "internal/strconv.uint64pow10") = [("internal/strconv.uint64pow10", Lib.tabData .u64 Lib.pow10Tab)]) (hL : laidMetH Tryz.prog l W) : Lib.TabIs Tryz.prog W "internal/strconv.uint64pow10" .u64 Lib.pow10Tab := by
 have h := hL.filter (fun x => x.1 == "internal/strconv.uint64pow10")
 rw [hl] at h
 have h2 := (laidMetH_iff.1 h).1
 have e : ([("internal/strconv.uint64pow10", (Lib.tabData .u64 Lib.pow10Tab : DataW Unit))].filter fun x => x.2.handleName?.isNone) = [("internal/strconv.uint64pow10", Lib.tabData .u64 Lib.pow10Tab)] := by kernel_rfl
 rw [e] at h2
 exact Lib.tabIs_of_head (g := 1) (t := 244) (e := 110) (n := 20) (by kernel_rfl) (by kernel_rfl) Tryz.underlying244 Tryz.underlying110 (by kernel_rfl) (by kernel_rfl) h2
open Go.RowKit Go.Pm
theorem parsesAny (B : Base) (H : List Res) (h1 : HasErr B 2) (h2 : HasErr B 3) : ParsesAny B H := fun w s hs hv => by
 obtain ⟨t1, v1, h1⟩ := h1
 obtain ⟨t2, v2, h2⟩ := h2
 have c1 := h1 B H w (Base.Le.refl _) hv
 have c2 := h2 B H w (Base.Le.refl _) hv
 have hmax : (ByteArray.mk s.toArray).size ≤ 20 := by show s.toArray.size ≤ 20; simpa using hs
 cases hp : Lib.parseIntB 64 s
 case ok n =>
  have hb := Lib.parseIntB_bounds hp
  have h : Calls Tryz.prog 109 #[vS s, vI 10, vI 64] w _ := Any.strconv_ParseInt_10_at64_ok Tryz.laysPI ⟨s.toArray⟩ (by omega) n hp w
  refine h.mono ?_
  rintro e w' ⟨rfl, hw⟩
  refine ⟨n, .nilIface, rfl, .inl rfl, by omega, fun m m0 m1 e9 => ⟨rfl, ?_⟩, ?_⟩
  ·rw [e9, parse_itoa m m0 m1] at hp
   cases hp; rfl
  rcases hw with rfl | ⟨t, rfl⟩
  ·exact hv
  exact hv.ext (bytesWorld_ext w _ t)
 ·skip
  have h : Calls Tryz.prog 109 #[vS s, vI 10, vI 64] w _ := Any.strconv_ParseInt_10_at64_syntax Tryz.laysPI ⟨s.toArray⟩ (by omega) hp _ w c1 (.inr ⟨_, _, rfl⟩)
  refine h.mono ?_
  rintro e w' ⟨N, rfl, -, -, hx⟩
  refine ⟨0, _, rfl, .inr ⟨_, _, rfl⟩, by omega, fun m m0 m1 e9 => ?_, hv.ext hx⟩
  rw [e9, parse_itoa m m0 m1] at hp
  cases hp
 case range =>
  have h : Calls Tryz.prog 109 #[vS s, vI 10, vI 64] w _ := Any.strconv_ParseInt_10_at64_range Tryz.laysPI ⟨s.toArray⟩ (by omega) hp _ w c2 (.inr ⟨_, _, rfl⟩)
  refine h.mono ?_
  rintro e w' ⟨N, rfl, -, -, hx⟩
  refine ⟨_, _, rfl, .inr ⟨_, _, rfl⟩, ?_, fun m m0 m1 e9 => ?_, hv.ext hx⟩
  ·unfold Lib.intSat
   split <;> decide
  rw [e9, parse_itoa m m0 m1] at hp
  cases hp
theorem numB {W : World} {l : List (String × DataW Unit)} (hl0 : l.filter (fun x => x.1 == "internal/strconv.uint64pow10") = [("internal/strconv.uint64pow10", Lib.tabData .u64 Lib.pow10Tab)])
  {n1 n2 : String} {d1 d2 : DataW Unit} (hl1 : l.filter (fun x => x.1 == "strconv.ErrSyntax") = [("strconv.ErrSyntax", .iface n1 d1)]) (he1 : ([("strconv.ErrSyntax", (DataW.iface n1 d1 : DataW Unit))].filter fun x => x.2.handleName?.isNone) = [("strconv.ErrSyntax", .iface n1 d1)])
  (hl2 : l.filter (fun x => x.1 == "strconv.ErrRange") = [("strconv.ErrRange", .iface n2 d2)]) (he2 : ([("strconv.ErrRange", (DataW.iface n2 d2 : DataW Unit))].filter fun x => x.2.handleName?.isNone) = [("strconv.ErrRange", .iface n2 d2)]) (hL : laidMetH Tryz.prog l W) : NumB (Base.of W) := by
 have ht := tabOf hl0 hL
 obtain ⟨u1, v1, h1⟩ := errOf hl1 he1 (g := 2) (t := 198) (by kernel_rfl) (by kernel_rfl) Tryz.underlying198 hL
 obtain ⟨u2, v2, h2⟩ := errOf hl2 he2 (g := 3) (t := 198) (by kernel_rfl) (by kernel_rfl) Tryz.underlying198 hL
 exact fun C H hC => ⟨formatsInt C H W hC ht, parsesAny C H ((hasErr_of h1).more hC) ((hasErr_of h2).more hC)⟩
end Go.Proofs.YtngpmolbphinnaaGreatDoor
namespace Go.Pm
open Go.RowKit
theorem rep_textsM {W : World} {S : Nat → Prop} {cs : List Value} {l : List (List UInt8)} (h : Rep W S (.slice .str) cs l) : ∃ a c, cs = [.slice a l.length c] ∧ SliceOk a l.length c ∧ RdV (Base.of W) [] a (textCells l) ∧ ∀ x ∈ l, x.length ≤ 9223372036854775807 := by
 have hb : ∀ x ∈ l, x.length ≤ 9223372036854775807 := by
  obtain ⟨a, cap, h1, h2, h4⟩ := h
  intro x hx
  obtain ⟨i, hi, rfl⟩ := List.getElem_of_mem hx
  obtain ⟨b, off, xs, e1, e2, e3, e4, e5⟩ := h4 i hi
  exact e5.2
 obtain ⟨a, c, xss, h1, h2, h3, h4⟩ := rep_row h
 rw [rep_texts h4] at h3
 exact ⟨a, c, h1, h2, h3, hb⟩
abbrev keyTy : Ty := .pair .str (.pair valTy (.pair (.int .i64) .unit))
def KeysRd (B : Base) (a : Option Addr) (n : Nat) : Prop := ∀ i, i < n → ∃ (b off : Nat) (key : List UInt8) (x : Val) (p t z : Value) (ex : Int), a = some ⟨b, off, none⟩ ∧
 Reads B [] b (off + i * 7) [strV key, vI x.kind, strV x.text, p, t, z, vI ex] ∧ ValRd B x p t z
theorem rep_keys {W : World} {cs : List Value} {l : List keyTy.den} (h : Rep W (· < W.heap.size) (.slice keyTy) cs l) :
  ∃ (a : Option Addr) (cap n : Nat), cs = [.slice a n cap] ∧ KeysRd (Base.of W) a n := by
 obtain ⟨a, cap, h1, h2, h4⟩ := h
 refine ⟨a, cap, l.length, h1, fun i hi => ?_⟩
 obtain ⟨b, off, xs, e1, e2, e3, e4, e5⟩ := h4 i hi
 match xs, e3 with
 | [x0, y4, y5, y6, y7, y8, x1], _ =>
  obtain ⟨⟨k1, _⟩, v1, ⟨m1, hm1⟩, _⟩ := e5
  have k1' : [x0] = _ := k1
  have m1' : [x1] = _ := m1
  simp only [List.cons.injEq, and_true] at k1' m1'
  obtain ⟨q1, q2, q3⟩ := rep_val (k0 := y4) (k1 := y5) (k2 := y6) (k3 := y7) (k4 := y8) v1
  subst k1' m1' q1 q2
  refine ⟨b, off, l[i].1, valOf l[i].2.1, y6, y7, y8, l[i].2.2.1, e1, ?_, q3⟩
  intro C K w hC hR hv j v hj
  obtain ⟨hj1, hj2⟩ := List.getElem?_eq_some_iff.1 hj
  simp only [List.length_cons, List.length_nil] at hj1
  have := e4 j hj1
  rw [← hj2]
  refine Eq.trans ?_ (this.trans ?_)
  ·exact World.cell?_of_block (by rw [Array.getElem?_eq_getElem e2]; exact hv.base.blk b _ (hC.blk b _ (Array.getElem?_eq_getElem e2)))
  match j, hj1 with
  | 0, _ | 1, _ | 2, _ | 3, _ | 4, _ | 5, _ | 6, _ => rfl
abbrev cmdTy : Ty := .pair (.int .i64) (.pair (.slice .str) .unit)
theorem rep_cmd {W : World} {S : Nat → Prop} {cs : List Value} {d : cmdTy.den} (h : Rep W S cmdTy cs d) : ∃ a c, cs = [vI d.1, .slice a d.2.1.length c] ∧ -9223372036854775808 ≤ d.1 ∧ d.1 ≤ 9223372036854775807 ∧ SliceOk a d.2.1.length c ∧ RdV (Base.of W) [] a (textCells d.2.1) ∧ ∀ x ∈ d.2.1, x.length ≤ 9223372036854775807 := by
 obtain ⟨⟨h1, hw⟩, h2, h3⟩ := h
 obtain ⟨a, c, e, hok, hr, hb⟩ := rep_textsM h2
 have hbd := bounds_i64 hw
 have h3' : (cs.drop 1).drop 1 = [] := h3
 have h1' : cs.take 1 = [vI d.1] := h1
 have e' : (cs.drop 1).take 1 = [.slice a d.2.1.length c] := e
 refine ⟨a, c, ?_, hbd.1, hbd.2, hok, hr, hb⟩
 match cs, h1', e', h3' with
 | [], h1', _, _ => cases h1'
 | [x], _, e', _ => cases e'
 | [x, y], h1', e', _ =>
  simp only [List.take, List.drop, List.cons.injEq, and_true] at h1' e'
  rw [h1', e']
 | x :: y :: z :: l, _, _, h3' => cases h3'
end Go.Pm
namespace Go.Proofs.YtngpmolbphinnaaGreatDoor
open Go.RowKit Go.Pm
def laidAll : List (String × DataW Unit) := [("math/bits.deBruijn32tab", Rows.laid_math_bits_deBruijn32tab), ("math/bits.deBruijn64tab", Rows.laid_math_bits_deBruijn64tab), ("internal/strconv.uint64pow10", Rows.laid_internal_strconv_uint64pow10), ("strconv.ErrRange", Rows.laid_strconv_ErrRange), ("strconv.ErrSyntax", Rows.laid_strconv_ErrSyntax)]
abbrev dSyn : DataW Unit := .ptr (.agg [.lit (.string [105, 110, 118, 97, 108, 105, 100, 32, 115, 121, 110, 116, 97, 120])])
abbrev dRan : DataW Unit := .ptr (.agg [.lit (.string [118, 97, 108, 117, 101, 32, 111, 117, 116, 32, 111, 102, 32, 114, 97, 110, 103, 101])])
theorem numAll {W : World} (hL : laidMetH Tryz.prog laidAll W) : NumB (Base.of W) :=
 numB (l := laidAll) (n1 := "*errors.errorString") (d1 := dSyn) (n2 := "*errors.errorString") (d2 := dRan) (by kernel_rfl) (by kernel_rfl) (by kernel_rfl) (by kernel_rfl) (by kernel_rfl) hL
theorem res_tct {P : Program} {fn : Func} {w : World} {t : TypeId} {v : Value} {r i j : Nat} (h : fn.results = #[.tmp r, .cell i t, .tmp j]) {tmps : Array Value} {ad : Addr} (hr : tmps.getD i undef = .pointer (some ad)) (hl : (Instr.loadAt t (.pointer (some ad))).run P w = .ok v w) : (results fn tmps).run P w = .ok (.tuple #[tmps.getD r undef, v, tmps.getD j undef]) w := by
 have hl' : (loadVar t ad).run P w = .ok v w := by simpa [Instr.loadAt, Instr.sureAddr] using hl
 have hr' : tmps[i]?.getD undef = .pointer (some ad) := by rw [← hr, Array.getD_eq_getD_getElem?]
 simp [results, h, hr', asAddr, hl']
theorem k5al28 : AL Tryz.prog 28 [vN, vI 0, vN] := fun w => by kernel_rfl
theorem k5callable15 : Callable Tryz.prog 15 := cb Tryz.func15 (by kernel_rfl)
theorem k5es22 (w : World) : (sizeOf (Tryz.prog.elem 22)).run Tryz.prog w = .ok 7 w := by kernel_rfl
theorem k5wd72 : Wide Tryz.prog 72 7 := wide_of (fun w => by kernel_rfl) (by kernel_rfl)
theorem k5al72 : AL Tryz.prog 72 [vS [], vI 0, vS [], vN, vN, vN, vI 0] := fun w => by kernel_rfl
theorem k5sz72 : (Tryz.prog.info? 72).map (·.size) = some 7 := by kernel_rfl
theorem k5fa72_0 : FA Tryz.prog 72 0 0 := fun w b o => by kernel_rfl
theorem k5fa72_1 : FA Tryz.prog 72 1 1 := fun w b o => by kernel_rfl
theorem k5callable13 : Callable Tryz.prog 13 := cb Tryz.func13 (by kernel_rfl)
theorem k5callable14 : Callable Tryz.prog 14 := cb Tryz.func14 (by kernel_rfl)
theorem k5fa72_2 : FA Tryz.prog 72 2 6 := fun w b o => by kernel_rfl
theorem k5callable16 : Callable Tryz.prog 16 := cb Tryz.func16 (by kernel_rfl)
theorem k5callable27 : Callable Tryz.prog 27 := cb Tryz.func27 (by kernel_rfl)
theorem lawBegun (B : Base) (H : List Res) (w : World) (ad : Option Addr) (n ac : Nat) (hkr : KeysRd B ad n) (clock : Int) (hv : Inv B H w) :
  Calls Tryz.prog 9 #[.slice ad n ac, vI clock] w fun e w' => ∃ C now v t m s p wb va vc sv es M K wl ka wa kc wc xs, B.Le C ∧ 0 ≤ now ∧ now ≤ 1099511627776 ∧ K.length ≤ 10 ∧ wl.length ≤ 10 ∧ VM C es M ∧ OkM M ∧ RelVK M K ∧ KeysOk M 10 ∧ RefV C K wl ka wa kc wc xs ∧ e = .returned (.tuple #[vP v, .agg #[.slice ka K.length kc, vI now, .slice wa wl.length wc], .bool true]) ∧ Inv C (Res.cell v [.iface 100 (vP t)] 56 :: txR t m s p wb va vc sv now es :: H) w' := by
 refine cW Tryz.func9 rfl Tryz.ntmps9 ?_
 simp only [al]
 refine sK fun _ k1 => rL (uA rfl ?_)
 refine sl_alloc tV (wn rfl) rfl hv k5al28 (fun b2 w3 hv => ?_)
 refine uA rfl (uW k1 ?_)
 refine sK fun _ k4 => rL (uM rfl ?_)
 refine uG (vI (if 0 > clock then 0 else clock)) rfl (ex_max2 (m := clock) (n := 0) rfl rfl rfl rfl) ?_
 refine uG (vI (if 1099511627776 < (if 0 > clock then 0 else clock) then 1099511627776 else (if 0 > clock then 0 else clock))) rfl (ex_min2 (m := (if 0 > clock then 0 else clock)) (n := 1099511627776) rfl rfl rfl rfl) (uA rfl ?_)
 refine uW k4 (sK fun _ k5 => ?_)
 obtain ⟨now, hnow⟩ : ∃ n : Int, n = (if 1099511627776 < (if 0 > clock then 0 else clock) then 1099511627776 else (if 0 > clock then 0 else clock)) := ⟨_, rfl⟩
 rw [← hnow]
 have h0 : 0 ≤ now := by rw [hnow]; split <;> (try split) <;> omega
 have h1 : now ≤ 1099511627776 := by rw [hnow]; split <;> (try split) <;> omega
 clear hnow
 refine rL (uM rfl ?_)
 refine xC k5callable15 rfl ((lawOpened26 B _ _ now h0 h1 hv).mono ?_) rfl
 rintro e w6 ⟨v, t, m, s, p, wb, va, vc, sv, rfl, hv⟩
 refine ⟨_, rfl, uA rfl ?_⟩
 refine uW k5 (sK fun _ k7 => ?_)
 refine rL (uM rfl ?_)
 refine uG (.agg #[vN, vI now, vN]) rfl (ex_buildN (vs := #[(1, vI now)]) rfl (by simp only [List.map_toArray, List.map_cons, List.map_nil]; rfl) (by kernel_rfl)) ?_
 refine sl_alloc tV (wn rfl) rfl hv k5al28 (fun b8 w9 hv => ?_)
 simp only [zP, po]
 refine xS 0 rfl hv v2sz28 rfl (by exact ⟨rfl, rfl, rfl, trivial⟩) (fun w10 hv => ?_)
 simp only [zO, sp] at hv
 refine uW k7 (sK fun _ k11 => ?_)
 refine sK fun _ k12 => rL (uA rfl ?_)
 refine uW k12 (bB ?_)
 gi_loopw [10] (fun x10 wr => ∃ (i : Nat) (C : Base) (es : List (List UInt8 × Value)) (M : List (List UInt8 × Ver)) (K : List KeyR) (wl : List (List UInt8)) (ka wa : Option Addr) (kc wc : Nat) (xs : List Value), x10 = vI i ∧ B.Le C ∧ i ≤ n ∧ (i ≤ 10 ∧ K.length ≤ i ∧ wl.length ≤ i ∧ VM C es M ∧ OkM M ∧ RelVK M K ∧ KeysOk M i ∧ RefV C K wl ka wa kc wc xs) ∧ Inv C (Res.cell v [.iface 100 (vP t)] 56 :: txR t m s p wb va vc sv now es :: Res.cell b8 [.slice ka K.length kc, vI now, .slice wa wl.length wc] 28 :: Res.cell b2 [vN, vI 0, vN] 28 :: H) wr) (fun x10 _ => n - (intOf x10).toNat)
 case atStart => exact ⟨0, B, [], [], [], [], none, none, 0, 0, [], rfl, Base.Le.refl _, Nat.zero_le _, ⟨Nat.zero_le _, Nat.le_refl _, Nat.le_refl _, trivial, OkM.nil, RelVK.nil, ⟨List.Pairwise.nil, Nat.le_refl _, fun k h => (by cases h)⟩, ⟨⟨Nat.le_refl _, Nat.zero_le _, fun _ => rfl⟩, rdV_nil, rfl, ⟨Nat.le_refl _, Nat.zero_le _, fun _ => rfl⟩, rdV_nil⟩⟩, ((((hv.front 3 rfl).front 1 rfl).front 3 rfl).front 3 rfl)⟩
 case round =>
  obtain ⟨i, C, es, M, K, wl, ka, wa, kc, wc, xs, rfl, hBC, hi, ⟨hi10, hKl, hwl, hM, hO, hRK, hKO, hRV⟩, hv⟩ := hrel
  refine sK fun _ k14 => sK fun _ k15 => rL (uM rfl ?_)
  refine uM rfl ?_
  refine uG (vI n) rfl (ex_len0 Tryz.underlying22 rfl rfl) ?_
  by_cases hb16 : (i : Int) < (n : Int)
  ·refine uG (.bool true) rfl (ex_lss rfl rfl rfl (qT hb16)) (uM rfl ?_)
   refine uM rfl ?_
   by_cases hb17 : (i : Int) < 10
   ·refine uG (.bool true) rfl (ex_lss rfl rfl rfl (qT hb17)) (uK rfl ?_)
    refine uW k15 (cT rfl ?_)
    refine kS (tK k14 ?_)
    refine sK fun _ k18 => bB (sK fun _ k19 => ?_)
    obtain ⟨bb, bo, key, x, xp, xt, xz, ex, had, hrd, hrdv⟩ := hkr i (by omega)
    subst had
    refine rL (uM rfl ?_)
    refine uM rfl ?_
    refine uG (.pointer (some ⟨bb, bo + i * 7, none⟩)) rfl (ex_index rfl rfl rfl (run_idx (k := i) Tryz.underlying22 k5es22 (by omega))) ?_
    refine uL (.agg #[vS key, vI x.kind, vS x.text, xp, xt, xz, vI ex]) rfl (run_loadR (cs := [vS key, vI x.kind, vS x.text, xp, xt, xz, vI ex]) k5wd72 (Reads.mid (pre := []) (mid := [vS key, vI x.kind, vS x.text, xp, xt, xz, vI ex]) (post := []) hrd _ _ _ hBC no_res hv)) ?_
    refine sl_alloc tV (wn rfl) rfl hv k5al72 (fun b20 w21 hv => ?_)
    simp only [zP, po]
    refine xS 0 rfl hv k5sz72 rfl (by exact ⟨rfl, rfl, rfl, hrdv.p.one, hrdv.t.one, hrdv.z.one, rfl, trivial⟩) (fun w22 hv => ?_)
    simp only [zO, sp] at hv
    refine uW k19 (sK fun _ k23 => ?_)
    refine sK fun _ k24 => rL (uF (vP b20) rfl (k5fa72_0 _ _ _) ?_)
    refine uL _ rfl (run_load1 s9na9 (hv.load 0 0 rfl rfl)) ?_
    refine uG (vI (key.length : Int)) rfl (ex_lenStr Tryz.underlying9 rfl rfl) ?_
    by_cases hb25 : (key.length : Int) > 256
    ·refine uG (.bool true) rfl (ex_gtr rfl rfl rfl (qT hb25)) (uM rfl ?_)
     iterate 4 refine uP rfl ?_
     refine uK rfl (uM rfl ?_)
     iterate 4 refine uP rfl ?_
     refine uK rfl (uM rfl ?_)
     iterate 3 refine uP rfl ?_
     refine uK rfl (uM rfl ?_)
     iterate 3 refine uP rfl ?_
     refine uK rfl (uW k24 ?_)
     refine cT rfl (xE ?_)
     refine tX (bH ?_)
     refine tK k18 (rL ?_)
     refine uM rfl ?_
     refine uG (vI ((i + 1 : Nat) : Int)) rfl (ex_add rfl rfl rfl (by rw [i64_in (by omega)]; omega)) (uA rfl ?_)
     refine uZ (then_normal ?_)
     go_roundw
     case rel => exact ⟨i + 1, _, _, _, _, _, _, _, _, _, _, rfl, hBC, by omega, ⟨by omega, by omega, by omega, hM, hO, hRK, ⟨hKO.nd, by have := hKO.len; omega, hKO.sh⟩, hRV⟩, (hv.kp [4, 4, 4, 4] 4 1)⟩
     case measure => show n - (((i + 1 : Nat) : Int)).toNat < n - ((i : Int)).toNat; omega
    refine uG (.bool false) rfl (ex_gtr rfl rfl rfl (qF hb25)) (uM rfl ?_)
    refine uF (.pointer (some ⟨b20, 1, none⟩)) rfl (k5fa72_1 _ _ _) ?_
    refine uL (.agg #[vI x.kind, vS x.text, xp, xt, xz]) rfl (lM 0 s1wd43 hv rfl rfl rfl rfl) ?_
    refine xC k5callable13 rfl ((refSmall C _ _ x xp xt xz (hrdv.more hBC) hv).mono ?_) rfl
    rintro e w27 ⟨bl26, rfl, hbl26, hv⟩
    refine ⟨_, rfl, ?_⟩
    cases bl26
    ·refine uG (.bool true) rfl (ex_not rfl rfl rfl) (uK rfl ?_)
     refine uM rfl ?_
     iterate 4 refine uP rfl ?_
     refine uK rfl (uM rfl ?_)
     iterate 3 refine uP rfl ?_
     refine uK rfl (uM rfl ?_)
     iterate 3 refine uP rfl ?_
     refine uK rfl (uW k24 ?_)
     refine cT rfl (xE ?_)
     refine tX (bH ?_)
     refine tK k18 (rL ?_)
     refine uM rfl ?_
     refine uG (vI ((i + 1 : Nat) : Int)) rfl (ex_add rfl rfl rfl (by rw [i64_in (by omega)]; omega)) (uA rfl ?_)
     refine uZ (then_normal ?_)
     go_roundw
     case rel => exact ⟨i + 1, _, _, _, _, _, _, _, _, _, _, rfl, hBC, by omega, ⟨by omega, by omega, by omega, hM, hO, hRK, ⟨hKO.nd, by have := hKO.len; omega, hKO.sh⟩, hRV⟩, (hv.kp [4, 4, 4, 4] 4 1)⟩
     case measure => show n - (((i + 1 : Nat) : Int)).toNat < n - ((i : Int)).toNat; omega
    have hva := valRd_at2 hrdv (hbl26 rfl)
    refine uG (.bool false) rfl (ex_not rfl rfl rfl) (uK rfl ?_)
    refine uM rfl ?_
    refine uF (.pointer (some ⟨b20, 1, none⟩)) rfl (k5fa72_1 _ _ _) ?_
    refine uL (.agg #[vI x.kind, vS x.text, xp, xt, xz]) rfl (lM 0 s1wd43 hv rfl rfl rfl rfl) ?_
    refine xC k5callable14 rfl ((refRightV C _ _ x xp xt xz (hva.more hBC) hv).mono ?_) rfl
    rintro e w29 ⟨bl28, rfl, hbl28, hv⟩
    refine ⟨_, rfl, ?_⟩
    cases bl28
    ·refine uG (.bool true) rfl (ex_not rfl rfl rfl) (uK rfl ?_)
     refine uM rfl ?_
     iterate 3 refine uP rfl ?_
     refine uK rfl (uM rfl ?_)
     iterate 3 refine uP rfl ?_
     refine uK rfl (uW k24 ?_)
     refine cT rfl (xE ?_)
     refine tX (bH ?_)
     refine tK k18 (rL ?_)
     refine uM rfl ?_
     refine uG (vI ((i + 1 : Nat) : Int)) rfl (ex_add rfl rfl rfl (by rw [i64_in (by omega)]; omega)) (uA rfl ?_)
     refine uZ (then_normal ?_)
     go_roundw
     case rel => exact ⟨i + 1, _, _, _, _, _, _, _, _, _, _, rfl, hBC, by omega, ⟨by omega, by omega, by omega, hM, hO, hRK, ⟨hKO.nd, by have := hKO.len; omega, hKO.sh⟩, hRV⟩, (hv.kp [4, 4, 4, 4] 4 1)⟩
     case measure => show n - (((i + 1 : Nat) : Int)).toNat < n - ((i : Int)).toNat; omega
    refine uG (.bool false) rfl (ex_not rfl rfl rfl) (uK rfl ?_)
    refine uM rfl ?_
    refine uF (.pointer (some ⟨b20, 6, none⟩)) rfl (k5fa72_2 _ _ _) ?_
    refine uL _ rfl (run_load1 s2na3 (hv.load 0 6 rfl rfl)) ?_
    by_cases hb30 : ex < 0
    ·refine uG (.bool true) rfl (ex_lss rfl rfl rfl (qT hb30)) (uK rfl ?_)
     refine uM rfl ?_
     iterate 3 refine uP rfl ?_
     refine uK rfl (uW k24 ?_)
     refine cT rfl (xE ?_)
     refine tX (bH ?_)
     refine tK k18 (rL ?_)
     refine uM rfl ?_
     refine uG (vI ((i + 1 : Nat) : Int)) rfl (ex_add rfl rfl rfl (by rw [i64_in (by omega)]; omega)) (uA rfl ?_)
     refine uZ (then_normal ?_)
     go_roundw
     case rel => exact ⟨i + 1, _, _, _, _, _, _, _, _, _, _, rfl, hBC, by omega, ⟨by omega, by omega, by omega, hM, hO, hRK, ⟨hKO.nd, by have := hKO.len; omega, hKO.sh⟩, hRV⟩, (hv.kp [4, 4, 4, 4] 4 1)⟩
     case measure => show n - (((i + 1 : Nat) : Int)).toNat < n - ((i : Int)).toNat; omega
    refine uG (.bool false) rfl (ex_lss rfl rfl rfl (qF hb30)) (uK rfl ?_)
    refine uM rfl ?_
    refine uF (.pointer (some ⟨b20, 6, none⟩)) rfl (k5fa72_2 _ _ _) ?_
    refine uL _ rfl (run_load1 s2na3 (hv.load 0 6 rfl rfl)) ?_
    by_cases hb31 : ex > 1099511627776
    ·refine uG (.bool true) rfl (ex_gtr rfl rfl rfl (qT hb31)) (uK rfl ?_)
     refine uW k24 (cT rfl ?_)
     refine xE (tX ?_)
     refine bH (tK k18 ?_)
     refine rL (uM rfl ?_)
     refine uG (vI ((i + 1 : Nat) : Int)) rfl (ex_add rfl rfl rfl (by rw [i64_in (by omega)]; omega)) (uA rfl ?_)
     refine uZ (then_normal ?_)
     go_roundw
     case rel => exact ⟨i + 1, _, _, _, _, _, _, _, _, _, _, rfl, hBC, by omega, ⟨by omega, by omega, by omega, hM, hO, hRK, ⟨hKO.nd, by have := hKO.len; omega, hKO.sh⟩, hRV⟩, (hv.kp [4, 4, 4, 4] 4 1)⟩
     case measure => show n - (((i + 1 : Nat) : Int)).toNat < n - ((i : Int)).toNat; omega
    refine uG (.bool false) rfl (ex_gtr rfl rfl rfl (qF hb31)) (uK rfl ?_)
    refine uW k24 (cF rfl ?_)
    refine kS (tK k23 ?_)
    refine sK fun _ k32 => sK fun _ k33 => rL (uM rfl ?_)
    refine uF (vP b20) rfl (k5fa72_0 _ _ _) ?_
    refine uL _ rfl (run_load1 s9na9 (hv.load 0 0 rfl rfl)) ?_
    refine uF (.pointer (some ⟨b20, 1, none⟩)) rfl (k5fa72_1 _ _ _) ?_
    refine uL (.agg #[vI x.kind, vS x.text, xp, xt, xz]) rfl (lM 0 s1wd43 hv rfl rfl rfl rfl) ?_
    refine uF (.pointer (some ⟨b20, 6, none⟩)) rfl (k5fa72_2 _ _ _) ?_
    refine uL _ rfl (run_load1 s2na3 (hv.load 0 6 rfl rfl)) ?_
    replace hv := hv.front 2 rfl
    simp only [eS, eZ] at hv
    replace hv := hv.front 2 rfl
    simp only [eS, eZ] at hv
    refine xC k5callable16 rfl ((viewKeep C _ _ v t m s p wb va vc sv now es M key x xp xt xz ex (hM.more (Base.Le.refl _)) (hva.more hBC) hv).mono ?_) rfl
    rintro e w34 ⟨D, es2, M2, ec, hD, rfl, hM2, hkp, hv⟩
    refine ⟨_, rfl, ?_⟩
    have hO2 := hO.keep hkp
    obtain ⟨hec, hmm⟩ := keep_ok (by omega) (fun _ => ⟨by omega, hbl28.1 rfl, by omega, by omega⟩) hkp
    subst hec
    refine uG (.bool false) rfl (ex_neq rfl rfl rfl (by decide)) (uW k33 ?_)
    refine cF rfl (kS ?_)
    refine tK k32 (rL ?_)
    refine uL (.agg #[.slice ka K.length kc, vI now, .slice wa wl.length wc]) rfl (lM 3 v2wd28 hv rfl rfl rfl rfl) ?_
    refine uF (vP b20) rfl (k5fa72_0 _ _ _) ?_
    refine uL _ rfl (run_load1 s9na9 (hv.load 2 0 rfl rfl)) ?_
    refine uF (.pointer (some ⟨b20, 1, none⟩)) rfl (k5fa72_1 _ _ _) ?_
    refine uL (.agg #[vI x.kind, vS x.text, xp, xt, xz]) rfl (lM 2 s1wd43 hv rfl rfl rfl rfl) ?_
    refine uF (.pointer (some ⟨b20, 6, none⟩)) rfl (k5fa72_2 _ _ _) ?_
    refine uL _ rfl (run_load1 s2na3 (hv.load 2 6 rfl rfl)) ?_
    refine xC k5callable27 rfl ((refPut20 D _ _ K wl ka wa kc wc xs now (hRV.more hD) (by omega) (by omega) (hRK.short hKO) key x xp xt xz ex (hva.more (hBC.trans hD)) hv).mono ?_) rfl
    rintro e w35 ⟨E, K2, wl2, ka2, kc2, wa2, wc2, xs2, hE, rfl, hRV2, hK2, hwl2, hv⟩
    refine ⟨_, rfl, ?_⟩
    have hRK2 := rel_step hRK hmm hK2
    have hKO2 := hKO.step (by omega) hmm
    have hKl2 := putK_len hK2
    simp only [zP, po]
    refine xS 3 rfl hv v2sz28 rfl (by exact ⟨rfl, rfl, rfl, trivial⟩) (fun w36 hv => ?_)
    simp only [zS, zO, sp] at hv
    refine uZ (bN ?_)
    refine tK k18 (rL ?_)
    refine uM rfl ?_
    refine uG (vI ((i + 1 : Nat) : Int)) rfl (ex_add rfl rfl rfl (by rw [i64_in (by omega)]; omega)) (uA rfl ?_)
    refine uZ (then_normal ?_)
    go_roundw
    case rel => exact ⟨i + 1, _, _, _, _, _, _, _, _, _, _, rfl, ((hBC.trans hD).trans hE), by omega, ⟨by omega, by omega, by omega, hM2.more hE, hO2, hRK2, hKO2, hRV2.more (Base.Le.refl _)⟩, (hv.kp [4, 4, 3, 3] 4 1)⟩
    case measure => show n - (((i + 1 : Nat) : Int)).toNat < n - ((i : Int)).toNat; omega
   refine uG (.bool false) rfl (ex_lss rfl rfl rfl (qF hb17)) (uK rfl ?_)
   refine uW k15 (cF rfl ?_)
   refine xE (tX ?_)
   refine tX (bH ?_)
   refine tK k11 (sK fun _ k37 => ?_)
   refine rW mixed [3] [0,1,2,3,4] 80 rfl (by kernel_rfl) hv ?_
   simp only [qm, opAt]
   refine dM (vP v) rfl (dL (.agg #[.slice ka K.length kc, vI now, .slice wa wl.length wc]) rfl (fun hv => ex_load rfl rfl (lM 2 v2wd28 hv rfl rfl rfl rfl)) ?_)
   refine dA (vP v) rfl ?_
   simp only [zP, po]
   refine dS rfl fun w38 hv => mS 3 rfl hv v2sz28 rfl (by exact ⟨rfl, rfl, rfl, trivial⟩) (fun w39 hv => ?_)
   simp only [zS, zO, sp] at hv
   refine dW hv (dA (.bool true) rfl ?_)
   refine dE fun w40 hv => ?_
   simp only [zP, po]
   refine tK k37 (rR ?_)
   refine bodyPost_ret (res_tct rfl rfl (lM 3 v2wd28 hv rfl rfl rfl rfl)) rfl (⟨C, now, v, t, m, s, p, wb, va, vc, sv, es, M, K, wl, ka, wa, kc, wc, xs, hBC, h0, h1, by omega, by omega, hM, hO, hRK, ⟨hKO.nd, by have := hKO.len; omega, hKO.sh⟩, hRV, rfl, (hv.kp [1, 1] 2 2)⟩)
  refine uG (.bool false) rfl (ex_lss rfl rfl rfl (qF hb16)) (uM rfl ?_)
  refine uP rfl ?_
  refine uP rfl (uK rfl ?_)
  refine uW k15 (cF rfl ?_)
  refine xE (tX ?_)
  refine tX (bH ?_)
  refine tK k11 (sK fun _ k41 => ?_)
  refine rW mixed [3] [0,1,2,3,4] 80 rfl (by kernel_rfl) hv ?_
  simp only [qm, opAt]
  refine dM (vP v) rfl (dL (.agg #[.slice ka K.length kc, vI now, .slice wa wl.length wc]) rfl (fun hv => ex_load rfl rfl (lM 2 v2wd28 hv rfl rfl rfl rfl)) ?_)
  refine dA (vP v) rfl ?_
  simp only [zP, po]
  refine dS rfl fun w42 hv => mS 3 rfl hv v2sz28 rfl (by exact ⟨rfl, rfl, rfl, trivial⟩) (fun w43 hv => ?_)
  simp only [zS, zO, sp] at hv
  refine dW hv (dA (.bool true) rfl ?_)
  refine dE fun w44 hv => ?_
  simp only [zP, po]
  refine tK k41 (rR ?_)
  refine bodyPost_ret (res_tct rfl rfl (lM 3 v2wd28 hv rfl rfl rfl rfl)) rfl (⟨C, now, v, t, m, s, p, wb, va, vc, sv, es, M, K, wl, ka, wa, kc, wc, xs, hBC, h0, h1, by omega, by omega, hM, hO, hRK, ⟨hKO.nd, by have := hKO.len; omega, hKO.sh⟩, hRV, rfl, (hv.kp [1, 1] 2 2)⟩)
section
variable {M : List (List UInt8 × Ver)} {now : Int} {name : List UInt8} {y : Ver} {ok : Bool} {k : KeyR}
theorem got_yes (h : (ok = true ∧ lookA M name = some y ∧ aliveB y now = true) ∨ (ok = false ∧ y = zver0 ∧ ∀ y9, lookA M name = some y9 → aliveB y9 now = false)) (hl : lookA M name = some ⟨0, false, k.exp, k.val⟩) (ha : aliveB ⟨0, false, k.exp, k.val⟩ now = true) : ok = true ∧ y = kver k := by
 rcases h with ⟨h1, h2, -⟩ | ⟨-, -, h2⟩
 ·rw [hl] at h2; cases h2; exact ⟨h1, rfl⟩
 rw [h2 _ hl] at ha; cases ha
theorem got_no (h : (ok = true ∧ lookA M name = some y ∧ aliveB y now = true) ∨ (ok = false ∧ y = zver0 ∧ ∀ y9, lookA M name = some y9 → aliveB y9 now = false)) (hd : DeadM M now name) : ok = false ∧ y = zver0 := by
 rcases h with ⟨-, h2, h3⟩ | ⟨h1, h2, -⟩
 ·rw [hd y h2] at h3; cases h3
 exact ⟨h1, h2⟩
end
theorem getKB (B : Base) (H : List Res) (w : World) (K : List KeyR) (wl : List (List UInt8)) (ka wa : Option Addr) (kc wc : Nat) (xs : List Value) (clk : Int) (hR : RefV B K wl ka wa kc wc xs) (hm : K.length ≤ 10000) (hmw : wl.length ≤ 10000) (name : List UInt8) (hv : Inv B H w) : Calls Tryz.prog 32 #[.agg #[.slice ka K.length kc, vI clk, .slice wa wl.length wc], vS name] w fun e w' => ∃ x p' t' z' ok, e = .returned (.tuple #[.agg (krCells x p' t' z').toArray, .bool ok]) ∧ ((ok = true ∧ getK K clk name = some x) ∨ (ok = false ∧ x = zkey ∧ getK K clk name = none)) ∧ ValAt B x.val p' t' z' ∧ Inv B H w' := by
 refine (refGet20 B H w K wl ka wa kc wc xs clk hR hm hmw name hv).mono ?_
 rintro e w' ⟨x, p', t', z', ok, rfl, h1, h2, h3⟩
 exact ⟨x, p', t', z', ok, rfl, h1.imp (fun h => ⟨h.1, h.2.1⟩) (fun h => ⟨h.1, h.2.1, h.2.2.1⟩), h2, h3⟩
theorem kTcallable12 : Callable Tryz.prog 12 := cb Tryz.func12 (by kernel_rfl)
theorem kTal50 : AL Tryz.prog 50 [vI 0, .bool false, vI 0, vI 0, vS [], vN, vN, vN] := fun w => by kernel_rfl
theorem kTal82 : AL Tryz.prog 82 [vS [], vI 0, vS [], vN, vN, vN, vI 0] := fun w => by kernel_rfl
theorem kTfa82_1 : FA Tryz.prog 82 1 1 := fun w b o => by kernel_rfl
theorem kTcallable18 : Callable Tryz.prog 18 := cb Tryz.func18 (by kernel_rfl)
theorem lawSame (B : Base) (H : List Res) (w : World) (v t m s p wb : Nat) (va : Option Addr) (vc : Nat) (sv : Value) (now : Int) (es : List (List UInt8 × Value)) (M : List (List UInt8 × Ver)) (K : List KeyR) (wl : List (List UInt8)) (ka wa : Option Addr) (kc wc : Nat) (xs : List Value) (hM : VM B es M) (hRK : RelVK M K) (hKO : KeysOk M 10) (hRV : RefV B K wl ka wa kc wc xs) (hKl : K.length ≤ 10) (hwl : wl.length ≤ 10) (hv : Inv B (Res.cell v [.iface 100 (vP t)] 56 :: txR t m s p wb va vc sv now es :: H) w) :
  Calls Tryz.prog 24 #[vP v, .agg #[.slice ka K.length kc, vI now, .slice wa wl.length wc]] w fun e w' => e = .returned (.bool true) ∧ Inv B (Res.cell v [.iface 100 (vP t)] 56 :: txR t m s p wb va vc sv now es :: H) w' := by
 refine cW Tryz.func24 rfl Tryz.ntmps24 ?_
 simp only [al]
 refine sK fun _ k1 => rL (sl_box (L := [.slice ka K.length kc, vI now, .slice wa wl.length wc]) tV (wn rfl) rfl rfl hv (fun w => by kernel_rfl) (fun b2 w3 hv => ?_))
 refine uA rfl (uW k1 ?_)
 refine sK fun _ k4 => sK fun _ k5 => rW mixed [4, 6, 7] [0,1,2,3,5,4,6,7,8] 71 rfl (by kernel_rfl) hv ?_
 simp only [qm, opAt]
 refine dM (vP v) rfl (dG (vP v) rfl (ex_nil rfl rfl) ?_)
 refine dG (vP v) rfl (ex_field rfl rfl (v1fa56_0 _ _ _)) ?_
 simp only [zP, po]
 refine dL _ rfl (fun hv => ex_load rfl rfl (run_load1 v1na54 (hv.load 1 0 rfl rfl))) (dF (.agg #[.slice ka K.length kc, vI now, .slice wa wl.length wc]) rfl (fun hv => ex_load rfl rfl (lM 0 v2wd28 hv rfl rfl rfl rfl)) fun f6 hf6 => ?_)
 refine dS rfl fun w7 hv => ?_
 replace hv := hv.front 2 rfl
 simp only [eS, eZ] at hv
 refine stepMem_callI k1callable216 rfl rfl rfl (r := vP t) (fun w => by kernel_rfl) (args := #[]) (by simp only [List.map_toArray, List.map_nil]) ((txnNamesB B _ _ t m s p wb va vc sv now es M (hM.more (Base.Le.refl _)) hKO.sh (by have := hKO.len; omega) hv).mono ?_)
 rintro e w8 ⟨P, na, nc, hP, rfl, hnr, hv⟩
 refine ⟨_, rfl, dV hv (fC (fun ww hv => hf6 ww ?_) fN) ?_⟩
 ·exact ex_load rfl rfl (lM 1 v2wd28 hv rfl rfl rfl rfl)
 simp only [zP, po]
 refine dS rfl fun w9 hv => mC kTcallable12 rfl ((refNames20 P _ _ K wl ka wa kc wc xs now (hRV.more hP) (by omega) (by omega) hRK.nodup hv).mono ?_) rfl
 rintro e w10 ⟨Q, ma, mc, hQ, rfl, hmr, hv⟩
 refine ⟨_, rfl, dV hv (fK rfl fN) ?_⟩
 refine dS rfl fun w11 hv => mC s18callable11 rfl ((wordsEq Q _ _ na ma nc mc (hRK.names hKO.nd) (hnr.more hQ (fun _ h => h)) hmr (by have := namesR_le K now; omega) hv).mono ?_) rfl
 rintro e w12 ⟨rfl, hv⟩
 refine ⟨_, rfl, dV hv (fK rfl fN) ?_⟩
 refine dG (.bool false) rfl (ex_not rfl rfl rfl) (dE fun w13 hv => ?_)
 simp only [zP, po]
 refine tK k5 (cF rfl ?_)
 refine kS (tK k4 ?_)
 refine sK fun _ k14 => sK fun _ k15 => rL (uA rfl ?_)
 refine uW k15 (bB ?_)
 gi_loopw [5] (fun x5 wr => ∃ (i : Nat), x5 = vI i ∧ i ≤ K.length ∧ Inv B (Res.cell v [.iface 100 (vP t)] 56 :: txR t m s p wb va vc sv now es :: Res.cell b2 [.slice ka K.length kc, vI now, .slice wa wl.length wc] 28 :: H) wr) (fun x5 _ => K.length - (intOf x5).toNat)
 case atStart => exact ⟨0, rfl, Nat.zero_le _, ((((hv.front 1 rfl).front 1 rfl).front 2 rfl)).weak (hP.trans hQ)⟩
 case round =>
  obtain ⟨i, rfl, hi, hv⟩ := hrel
  refine sK fun _ k17 => sK fun _ k18 => rL (uM rfl ?_)
  refine uF (vP b2) rfl (v2fa28_0 _ _ _) ?_
  refine uL _ rfl (run_load1 v2na25 (hv.load 2 0 rfl rfl)) ?_
  refine uG (vI (K.length : Int)) rfl (ex_len0 Tryz.underlying25 rfl rfl) ?_
  by_cases hb19 : (i : Int) < (K.length : Int)
  ·refine uG (.bool true) rfl (ex_lss rfl rfl rfl (qT hb19)) (uW k18 ?_)
   refine cT rfl (kS ?_)
   refine tK k17 (sK fun _ k20 => ?_)
   refine bB (sK fun _ k21 => ?_)
   obtain ⟨x, hx⟩ : ∃ x, K[i]? = some x := ⟨_, List.getElem?_eq_getElem (show i < K.length by omega)⟩
   obtain ⟨kb, ko, xp, xt, xz, had, hvalx, hrdx⟩ := KeysAt.reads hRV.at_ hRV.keys hx
   subst had
   refine rT mixed (fun az wz => ∃ (G : Base) (y : Ver) (yp yt yz : Value) (ok : Bool) (b28 : Nat), (B.Le G) ∧ (ValAt G y.val yp yt yz) ∧ (((ok = true ∧ lookA M x.name = some y ∧ aliveB y now = true) ∨ (ok = false ∧ y = zver0 ∧ ∀ y9, lookA M x.name = some y9 → aliveB y9 now = false))) ∧ az = { tmps := List.toArray (vP v :: .agg #[.slice (some ⟨kb, ko, none⟩) K.length kc, vI now, .slice wa wl.length wc] :: undef :: vP b2 :: u4 :: vI i :: vP b28 :: .bool ok :: u8 :: u9 :: vP v :: vP v :: vP v :: .iface 100 (vP t) :: .slice na ((namesT M now).length) nc :: .agg #[.slice (some ⟨kb, ko, none⟩) K.length kc, vI now, .slice wa wl.length wc] :: .slice ma ((namesR K now).length) mc :: .bool true :: .bool false :: vI i :: vP b2 :: .slice (some ⟨kb, ko, none⟩) K.length kc :: vI (K.length : Int) :: .bool true :: u24 :: u25 :: .tuple #[.agg #[vI y.stamp, .bool y.gone, vI y.expire, vI y.val.kind, vS y.val.text, yp, yt, yz], .bool ok] :: vP v :: vP v :: vP v :: .iface 100 (vP t) :: vP b2 :: .slice (some ⟨kb, ko, none⟩) K.length kc :: vI i :: .pointer (some ⟨kb, ko + i * 7, none⟩) :: .pointer (some ⟨kb, ko + i * 7, none⟩) :: vS x.name :: .iface 100 (vP t) :: .iface 100 (vP t) :: .tuple #[.agg #[vI y.stamp, .bool y.gone, vI y.expire, vI y.val.kind, vS y.val.text, yp, yt, yz], .bool ok] :: .agg #[vI y.stamp, .bool y.gone, vI y.expire, vI y.val.kind, vS y.val.text, yp, yt, yz] :: .bool ok :: u42 :: u43 :: u44 :: u45 :: u46 :: u47 :: u48 :: u49 :: u50 :: u51 :: u52 :: u53 :: u54 :: u55 :: u56 :: u57 :: u58 :: u59 :: u60 :: u61 :: u62 :: u63 :: u64 :: u65 :: u66 :: u67 :: u68 :: u69 :: u70 :: []), defers := [] } ∧ Inv G (Res.cell b28 [vI y.stamp, .bool y.gone, vI y.expire, vI y.val.kind, vS y.val.text, yp, yt, yz] 50 :: txR t m s p wb va vc sv now es :: Res.cell v [.iface 100 (vP t)] 56 :: Res.cell b2 [.slice (some ⟨kb, ko, none⟩) K.length kc, vI now, .slice wa wl.length wc] 28 :: H) wz) [12, 16, 17] [0,1,2,3,4,5,6,7,8,9,10,11] [13,14,15,16,17,18] [12,13,14,15,17,18] 12 16 71 rfl (by kernel_rfl) hv ?_ ?_
   ·intro R2 l1 l2 hR2 hl1 hl2
    simp only [qm, opAt]
    refine tG (vP v) rfl (ex_move rfl rfl) (tG (vP v) rfl (ex_nil rfl rfl) ?_)
    simp only [zP, po]
    refine tG (vP v) rfl (ex_field rfl rfl (v1fa56_0 _ _ _)) (tF (.iface 100 (vP t)) rfl (fun hv => ex_load rfl rfl (run_load1 v1na54 (hv.load 0 0 rfl rfl))) fun f22 hf22 => ?_)
    simp only [zP, po]
    refine tG (vP b2) rfl (ex_field rfl rfl (v2fa28_0 _ _ _)) (tF (.slice (some ⟨kb, ko, none⟩) K.length kc) rfl (fun hv => ex_load rfl rfl (run_load1 v2na25 (hv.load 2 0 rfl rfl))) fun f23 hf23 => ?_)
    simp only [zP, po]
    refine tG (vI i) rfl (ex_move rfl rfl) (tG (.pointer (some ⟨kb, ko + i * 7, none⟩)) rfl (ex_index rfl rfl rfl (run_idx (k := i) Tryz.underlying25 v2es25 (by omega))) ?_)
    simp only [zP, po]
    refine tG (.pointer (some ⟨kb, ko + i * 7, none⟩)) rfl (ex_field rfl rfl (v2fa82_0 _ _ _)) (tF (vS x.name) rfl (fun hv => ex_load rfl rfl (run_load1 s9na9 (hrdx _ _ _ (Base.Le.refl _) no_res hv 0 _ rfl))) fun f24 hf24 => ?_)
    simp only [zP, po]
    refine tG (.iface 100 (vP t)) rfl (ex_nilI rfl rfl) (tG (.iface 100 (vP t)) rfl (ex_move rfl rfl) ?_)
    simp only [zP, po]
    refine tB ?_ ?_
    ·rw [hl1]; clear hl1 hl2
     simp only [qm, opAt]
     refine dS rfl fun w25 hv => ?_
     replace hv := hv.front 1 rfl
     simp only [eS, eZ] at hv
     refine stepMem_callI v1callable215 rfl rfl rfl (r := vP t) (fun w => by kernel_rfl) (args := #[vS x.name]) (by simp only [List.map_toArray, List.map_cons, List.map_nil]; rfl) ((txnGet B _ _ t m s p wb va vc sv now es M x.name (hM.more (Base.Le.refl _)) hv).mono ?_)
     rintro e w26 ⟨G, y, yp, yt, yz, ok, hG, rfl, hgot, hyv, hv⟩
     refine ⟨_, rfl, dV hv (fK rfl (fK rfl (fK rfl fN))) ?_⟩
     refine dM (.tuple #[.agg #[vI y.stamp, .bool y.gone, vI y.expire, vI y.val.kind, vS y.val.text, yp, yt, yz], .bool ok]) rfl (dG (.agg #[vI y.stamp, .bool y.gone, vI y.expire, vI y.val.kind, vS y.val.text, yp, yt, yz]) rfl (ex_extract rfl rfl rfl) ?_)
     simp only [zP, po]
     refine dG (.bool ok) rfl (ex_extract rfl rfl rfl) (dS rfl fun w27 hv => ?_)
     refine mem_alloc rfl rfl hv kTal50 (fun b28 w29 hv => ?_)
     refine dV hv (fC (fun ww hv => hf24 ww (ex_load rfl rfl (run_load1 s9na9 (hrdx _ _ _ hG no_res hv 0 _ rfl)))) (fC (fun ww hv => hf23 ww (ex_load rfl rfl (run_load1 v2na25 (hv.load 3 0 rfl rfl)))) (fC (fun ww hv => hf22 ww (ex_load rfl rfl (run_load1 v1na54 (hv.load 2 0 rfl rfl)))) fN))) (dS rfl fun w30 hv => ?_)
     refine mS 0 rfl hv x0sz50 rfl (by exact ⟨rfl, rfl, rfl, rfl, rfl, hyv.p.one, hyv.t.one, hyv.z.one, trivial⟩) (fun w31 hv => ?_)
     simp only [zO, sp] at hv
     refine dV hv (fK rfl (fK rfl (fK rfl fN))) ?_
     simp only [zP, po]
     refine dA (.bool ok) rfl (dE fun wz hv => ?_)
     simp only [zP, po]
     exact hR2 _ _ ⟨G, y, yp, yt, yz, ok, b28, hG, hyv, hgot, rfl, ((((hv.front 3 rfl).front 3 rfl).front 3 rfl).front 3 rfl)⟩
    rw [hl2]; clear hl1 hl2
    simp only [qm, opAt]
    refine dS rfl fun w32 hv => mem_alloc rfl rfl hv kTal50 (fun b33 w34 hv => ?_)
    refine dV hv (fC (fun ww hv => hf24 ww (ex_load rfl rfl (run_load1 s9na9 (hrdx _ _ _ (Base.Le.refl _) no_res hv 0 _ rfl)))) (fC (fun ww hv => hf23 ww (ex_load rfl rfl (run_load1 v2na25 (hv.load 3 0 rfl rfl)))) (fC (fun ww hv => hf22 ww (ex_load rfl rfl (run_load1 v1na54 (hv.load 1 0 rfl rfl)))) fN))) (dS rfl fun w35 hv => ?_)
    replace hv := hv.front 2 rfl
    simp only [eS, eZ] at hv
    refine stepMem_callI v1callable215 rfl rfl rfl (r := vP t) (fun w => by kernel_rfl) (args := #[vS x.name]) (by simp only [List.map_toArray, List.map_cons, List.map_nil]; rfl) ((txnGet B _ _ t m s p wb va vc sv now es M x.name (hM.more (Base.Le.refl _)) hv).mono ?_)
    rintro e w36 ⟨G, y, yp, yt, yz, ok, hG, rfl, hgot, hyv, hv⟩
    refine ⟨_, rfl, dV hv (fK rfl (fK rfl (fK rfl fN))) ?_⟩
    refine dM (.tuple #[.agg #[vI y.stamp, .bool y.gone, vI y.expire, vI y.val.kind, vS y.val.text, yp, yt, yz], .bool ok]) rfl ?_
    simp only [zP, po]
    refine dG (.agg #[vI y.stamp, .bool y.gone, vI y.expire, vI y.val.kind, vS y.val.text, yp, yt, yz]) rfl (ex_extract rfl rfl rfl) (dG (.bool ok) rfl (ex_extract rfl rfl rfl) ?_)
    refine dS rfl fun w37 hv => mS 1 rfl hv x0sz50 rfl (by exact ⟨rfl, rfl, rfl, rfl, rfl, hyv.p.one, hyv.t.one, hyv.z.one, trivial⟩) (fun w38 hv => ?_)
    simp only [zS, zO, sp] at hv
    refine dV hv (fK rfl (fK rfl (fK rfl fN))) ?_
    simp only [zP, po]
    refine dA (.bool ok) rfl (dE fun wz hv => ?_)
    simp only [zP, po]
    exact hR2 _ _ ⟨G, y, yp, yt, yz, ok, b33, hG, hyv, hgot, rfl, ((((hv.front 3 rfl).front 3 rfl).front 2 rfl).front 3 rfl)⟩
   rintro _ w39 ⟨G, y, yp, yt, yz, ok, b28, hG, hyv, hgot, rfl, hv⟩
   refine tK k21 (sK fun _ k40 => ?_)
   refine rT mixed (fun az wz => ∃ (k : KeyR) (kp kt kz : Value) (ok2 : Bool) (b47 : Nat), (ValAt G k.val kp kt kz) ∧ (((ok2 = true ∧ getK K now x.name = some k) ∨ (ok2 = false ∧ k = zkey ∧ getK K now x.name = none))) ∧ az = { tmps := List.toArray (vP v :: .agg #[.slice (some ⟨kb, ko, none⟩) K.length kc, vI now, .slice wa wl.length wc] :: undef :: vP b2 :: u4 :: vI i :: vP b28 :: .bool ok :: vP b47 :: .bool ok2 :: vP v :: vP v :: vP v :: .iface 100 (vP t) :: .slice na ((namesT M now).length) nc :: .agg #[.slice (some ⟨kb, ko, none⟩) K.length kc, vI now, .slice wa wl.length wc] :: .slice ma ((namesR K now).length) mc :: .bool true :: .bool false :: vI i :: vP b2 :: .slice (some ⟨kb, ko, none⟩) K.length kc :: vI (K.length : Int) :: .bool true :: u24 :: u25 :: .tuple #[.agg #[vI y.stamp, .bool y.gone, vI y.expire, vI y.val.kind, vS y.val.text, yp, yt, yz], .bool ok] :: vP v :: vP v :: vP v :: .iface 100 (vP t) :: vP b2 :: .slice (some ⟨kb, ko, none⟩) K.length kc :: vI i :: .pointer (some ⟨kb, ko + i * 7, none⟩) :: .pointer (some ⟨kb, ko + i * 7, none⟩) :: vS x.name :: .iface 100 (vP t) :: .iface 100 (vP t) :: .tuple #[.agg #[vI y.stamp, .bool y.gone, vI y.expire, vI y.val.kind, vS y.val.text, yp, yt, yz], .bool ok] :: .agg #[vI y.stamp, .bool y.gone, vI y.expire, vI y.val.kind, vS y.val.text, yp, yt, yz] :: .bool ok :: .tuple #[.agg #[vS k.name, vI k.val.kind, vS k.val.text, kp, kt, kz, vI k.exp], .bool ok2] :: .agg #[.slice (some ⟨kb, ko, none⟩) K.length kc, vI now, .slice wa wl.length wc] :: vP b2 :: .slice (some ⟨kb, ko, none⟩) K.length kc :: vI i :: .pointer (some ⟨kb, ko + i * 7, none⟩) :: .pointer (some ⟨kb, ko + i * 7, none⟩) :: vS x.name :: .tuple #[.agg #[vS k.name, vI k.val.kind, vS k.val.text, kp, kt, kz, vI k.exp], .bool ok2] :: .agg #[vS k.name, vI k.val.kind, vS k.val.text, kp, kt, kz, vI k.exp] :: .bool ok2 :: u53 :: u54 :: u55 :: u56 :: u57 :: u58 :: u59 :: u60 :: u61 :: u62 :: u63 :: u64 :: u65 :: u66 :: u67 :: u68 :: u69 :: u70 :: []), defers := [] } ∧ Inv G (Res.cell b47 [vS k.name, vI k.val.kind, vS k.val.text, kp, kt, kz, vI k.exp] 82 :: Res.cell b28 [vI y.stamp, .bool y.gone, vI y.expire, vI y.val.kind, vS y.val.text, yp, yt, yz] 50 :: txR t m s p wb va vc sv now es :: Res.cell v [.iface 100 (vP t)] 56 :: Res.cell b2 [.slice (some ⟨kb, ko, none⟩) K.length kc, vI now, .slice wa wl.length wc] 28 :: H) wz) [7, 11, 12] [0,1,2,3,4,5,6] [8,9,10,11,12,13] [7,8,9,10,12,13] 7 11 71 rfl (by kernel_rfl) hv ?_ ?_
   ·intro R2 l1 l2 hR2 hl1 hl2
    simp only [qm, opAt]
    refine tF (.agg #[.slice (some ⟨kb, ko, none⟩) K.length kc, vI now, .slice wa wl.length wc]) rfl (fun hv => ex_load rfl rfl (lM 3 v2wd28 hv rfl rfl rfl rfl)) fun f41 hf41 => tG (vP b2) rfl (ex_field rfl rfl (v2fa28_0 _ _ _)) ?_
    simp only [zP, po]
    refine tF (.slice (some ⟨kb, ko, none⟩) K.length kc) rfl (fun hv => ex_load rfl rfl (run_load1 v2na25 (hv.load 3 0 rfl rfl))) fun f42 hf42 => tG (vI i) rfl (ex_move rfl rfl) ?_
    simp only [zP, po]
    refine tG (.pointer (some ⟨kb, ko + i * 7, none⟩)) rfl (ex_index rfl rfl rfl (run_idx (k := i) Tryz.underlying25 v2es25 (by omega))) (tG (.pointer (some ⟨kb, ko + i * 7, none⟩)) rfl (ex_field rfl rfl (v2fa82_0 _ _ _)) ?_)
    simp only [zP, po]
    refine tF (vS x.name) rfl (fun hv => ex_load rfl rfl (run_load1 s9na9 (hrdx _ _ _ hG no_res hv 0 _ rfl))) fun f43 hf43 => ?_
    simp only [zP, po]
    refine tB ?_ ?_
    ·rw [hl1]; clear hl1 hl2
     simp only [qm, opAt]
     refine dS rfl fun w44 hv => mC v2callable32 rfl ((getKB G _ _ K wl (some ⟨kb, ko, none⟩) wa kc wc xs now (hRV.more hG) (by omega) (by omega) x.name hv).mono ?_) rfl
     rintro e w45 ⟨k, kp, kt, kz, ok2, rfl, hget, hkv, hv⟩
     refine ⟨_, rfl, dV hv (fK rfl (fK rfl (fK rfl fN))) ?_⟩
     refine dM (.tuple #[.agg #[vS k.name, vI k.val.kind, vS k.val.text, kp, kt, kz, vI k.exp], .bool ok2]) rfl (dG (.agg #[vS k.name, vI k.val.kind, vS k.val.text, kp, kt, kz, vI k.exp]) rfl (ex_extract rfl rfl rfl) ?_)
     simp only [zP, po]
     refine dG (.bool ok2) rfl (ex_extract rfl rfl rfl) (dS rfl fun w46 hv => ?_)
     refine mem_alloc rfl rfl hv kTal82 (fun b47 w48 hv => ?_)
     refine dV hv (fC (fun ww hv => hf43 ww (ex_load rfl rfl (run_load1 s9na9 (hrdx _ _ _ hG no_res hv 0 _ rfl)))) (fC (fun ww hv => hf42 ww (ex_load rfl rfl (run_load1 v2na25 (hv.load 4 0 rfl rfl)))) (fC (fun ww hv => hf41 ww ?_) fN))) ?_
     ·exact ex_load rfl rfl (lM 4 v2wd28 hv rfl rfl rfl rfl)
     refine dS rfl fun w49 hv => mS 0 rfl hv v2sz82 rfl (by exact ⟨rfl, rfl, rfl, hkv.p.one, hkv.t.one, hkv.z.one, rfl, trivial⟩) (fun w50 hv => ?_)
     simp only [zO, sp] at hv
     refine dV hv (fK rfl (fK rfl (fK rfl fN))) ?_
     simp only [zP, po]
     refine dA (.bool ok2) rfl (dE fun wz hv => ?_)
     simp only [zP, po]
     exact hR2 _ _ ⟨k, kp, kt, kz, ok2, b47, hkv, hget, rfl, (((((hv.front 4 rfl).front 4 rfl).front 4 rfl).front 4 rfl).front 4 rfl)⟩
    rw [hl2]; clear hl1 hl2
    simp only [qm, opAt]
    refine dS rfl fun w51 hv => mem_alloc rfl rfl hv kTal82 (fun b52 w53 hv => ?_)
    refine dV hv (fC (fun ww hv => hf43 ww (ex_load rfl rfl (run_load1 s9na9 (hrdx _ _ _ hG no_res hv 0 _ rfl)))) (fC (fun ww hv => hf42 ww (ex_load rfl rfl (run_load1 v2na25 (hv.load 4 0 rfl rfl)))) (fC (fun ww hv => hf41 ww ?_) fN))) ?_
    ·exact ex_load rfl rfl (lM 4 v2wd28 hv rfl rfl rfl rfl)
    refine dS rfl fun w54 hv => mC v2callable32 rfl ((getKB G _ _ K wl (some ⟨kb, ko, none⟩) wa kc wc xs now (hRV.more hG) (by omega) (by omega) x.name hv).mono ?_) rfl
    rintro e w55 ⟨k, kp, kt, kz, ok2, rfl, hget, hkv, hv⟩
    refine ⟨_, rfl, dV hv (fK rfl (fK rfl (fK rfl fN))) ?_⟩
    refine dM (.tuple #[.agg #[vS k.name, vI k.val.kind, vS k.val.text, kp, kt, kz, vI k.exp], .bool ok2]) rfl ?_
    simp only [zP, po]
    refine dG (.agg #[vS k.name, vI k.val.kind, vS k.val.text, kp, kt, kz, vI k.exp]) rfl (ex_extract rfl rfl rfl) (dG (.bool ok2) rfl (ex_extract rfl rfl rfl) ?_)
    refine dS rfl fun w56 hv => mS 0 rfl hv v2sz82 rfl (by exact ⟨rfl, rfl, rfl, hkv.p.one, hkv.t.one, hkv.z.one, rfl, trivial⟩) (fun w57 hv => ?_)
    simp only [zO, sp] at hv
    refine dV hv (fK rfl (fK rfl (fK rfl fN))) ?_
    simp only [zP, po]
    refine dA (.bool ok2) rfl (dE fun wz hv => ?_)
    simp only [zP, po]
    exact hR2 _ _ ⟨k, kp, kt, kz, ok2, b52, hkv, hget, rfl, (((((hv.front 4 rfl).front 4 rfl).front 4 rfl).front 4 rfl).front 4 rfl)⟩
   rintro _ w58 ⟨k, kp, kt, kz, ok2, b47, hkv, hget, rfl, hv⟩
   refine tK k40 (sK fun _ k59 => ?_)
   rcases hget with ⟨rfl, hgk⟩ | ⟨rfl, rfl, hgk⟩
   ·obtain ⟨hl9, ha9⟩ := hRK.got hgk
    obtain ⟨rfl, rfl⟩ := got_yes hgot hl9 ha9
    refine rL (uM rfl ?_)
    refine uM rfl ?_
    refine uG (.bool false) rfl (ex_bneq Tryz.underlying4 rfl rfl rfl rfl) (uM rfl ?_)
    refine uF (.pointer (some ⟨b28, 3, none⟩)) rfl (x2fa50_3 _ _ _) ?_
    refine uL (.agg #[vI ((kver k).val.kind), vS ((kver k).val.text), yp, yt, yz]) rfl (lM 1 s1wd43 hv rfl rfl rfl rfl) ?_
    refine uF (.pointer (some ⟨b47, 1, none⟩)) rfl (kTfa82_1 _ _ _) ?_
    refine uL (.agg #[vI k.val.kind, vS k.val.text, kp, kt, kz]) rfl (lM 0 s1wd43 hv rfl rfl rfl rfl) ?_
    refine xC kTcallable18 rfl ((refSameV G _ _ k.val yp yt yz kp kt kz (hyv.more (Base.Le.refl _)).rd (hkv.more (Base.Le.refl _)).rd hkv.pm hkv.tm hkv.zm hv).mono ?_) rfl
    rintro e w60 ⟨rfl, hv⟩
    refine ⟨_, rfl, uG (.bool false) rfl (ex_not rfl rfl rfl) ?_⟩
    refine uK rfl (uM rfl ?_)
    refine uF (.pointer (some ⟨b28, 2, none⟩)) rfl (s2fa50_2 _ _ _) ?_
    refine uL _ rfl (run_load1 s2na3 (hv.load 1 2 rfl rfl)) ?_
    refine uF (.pointer (some ⟨b47, 6, none⟩)) rfl (v2fa82_2 _ _ _) ?_
    refine uL _ rfl (run_load1 s2na3 (hv.load 0 6 rfl rfl)) ?_
    refine uG (.bool false) rfl (ex_neq rfl rfl rfl (qF (fun h => h rfl))) (uK rfl ?_)
    refine uW k59 (cF rfl ?_)
    refine kS (bN ?_)
    refine tK k20 (rL ?_)
    refine uM rfl ?_
    refine uG (vI ((i + 1 : Nat) : Int)) rfl (ex_add rfl rfl rfl (by rw [i64_in (by omega)]; omega)) (uA rfl ?_)
    refine uZ (then_normal ?_)
    simp only [vP, vI, vS]
    go_roundw
    case rel => exact ⟨i + 1, rfl, by omega, ((hv.kp [4, 3, 4] 3 2)).weak hG⟩
    case measure => show K.length - (((i + 1 : Nat) : Int)).toNat < K.length - ((i : Int)).toNat; omega
   obtain ⟨rfl, rfl⟩ := got_no hgot (hRK.dead hgk)
   refine rL (uM rfl ?_)
   refine uM rfl ?_
   refine uG (.bool false) rfl (ex_bneq Tryz.underlying4 rfl rfl rfl rfl) (uM rfl ?_)
   refine uF (.pointer (some ⟨b28, 3, none⟩)) rfl (x2fa50_3 _ _ _) ?_
   refine uL (.agg #[vI zver0.val.kind, vS zver0.val.text, yp, yt, yz]) rfl (lM 1 s1wd43 hv rfl rfl rfl rfl) ?_
   refine uF (.pointer (some ⟨b47, 1, none⟩)) rfl (kTfa82_1 _ _ _) ?_
   refine uL (.agg #[vI zkey.val.kind, vS zkey.val.text, kp, kt, kz]) rfl (lM 0 s1wd43 hv rfl rfl rfl rfl) ?_
   refine xC kTcallable18 rfl ((refSameV G _ _ zver0.val yp yt yz kp kt kz (hyv.more (Base.Le.refl _)).rd (hkv.more (Base.Le.refl _)).rd hkv.pm hkv.tm hkv.zm hv).mono ?_) rfl
   rintro e w61 ⟨rfl, hv⟩
   refine ⟨_, rfl, uG (.bool false) rfl (ex_not rfl rfl rfl) ?_⟩
   refine uK rfl (uM rfl ?_)
   refine uF (.pointer (some ⟨b28, 2, none⟩)) rfl (s2fa50_2 _ _ _) ?_
   refine uL _ rfl (run_load1 s2na3 (hv.load 1 2 rfl rfl)) ?_
   refine uF (.pointer (some ⟨b47, 6, none⟩)) rfl (v2fa82_2 _ _ _) ?_
   refine uL _ rfl (run_load1 s2na3 (hv.load 0 6 rfl rfl)) ?_
   refine uG (.bool false) rfl (ex_neq rfl rfl rfl (qF (fun h => h rfl))) (uK rfl ?_)
   refine uW k59 (cF rfl ?_)
   refine kS (bN ?_)
   refine tK k20 (rL ?_)
   refine uM rfl ?_
   refine uG (vI ((i + 1 : Nat) : Int)) rfl (ex_add rfl rfl rfl (by rw [i64_in (by omega)]; omega)) (uA rfl ?_)
   refine uZ (then_normal ?_)
   simp only [vP, vI, vS]
   go_roundw
   case rel => exact ⟨i + 1, rfl, by omega, ((hv.kp [4, 3, 4] 3 2)).weak hG⟩
   case measure => show K.length - (((i + 1 : Nat) : Int)).toNat < K.length - ((i : Int)).toNat; omega
  refine uG (.bool false) rfl (ex_lss rfl rfl rfl (qF hb19)) (uW k18 ?_)
  refine cF rfl (xE ?_)
  refine tX (tX ?_)
  refine bH (tK k14 ?_)
  refine sK fun _ k62 => rL (uA rfl ?_)
  refine uW k62 (rR ?_)
  refine bR rfl rfl (⟨rfl, ((hv.kp [1, 1] 2 1)).weak (Base.Le.refl _)⟩)
theorem kUfa65_1 : FA Tryz.prog 65 1 1 := fun w b o => by kernel_rfl
theorem lawSmall (B : Base) (H : List Res) (w : World) (cn : Int) (xa : Option Addr) (xc : Nat) (xs : List (List UInt8)) (hrx : RdV B [] xa (textCells xs)) (hv : Inv B H w) :
  Calls Tryz.prog 23 #[.agg #[vI cn, .slice xa xs.length xc]] w fun e w' => ∃ b, e = .returned (.bool b) ∧ (b = true → xs.length ≤ 14 ∧ ∀ x ∈ xs, x.length ≤ 4200) ∧ Inv B H w' := by
 refine cW Tryz.func23 rfl Tryz.ntmps23 ?_
 simp only [al]
 refine sK fun _ k1 => rL (sl_box (L := [vI cn, .slice xa xs.length xc]) tV (wn rfl) rfl rfl hv (fun w => by kernel_rfl) (fun b2 w3 hv => ?_))
 refine uA rfl (uW k1 ?_)
 refine sK fun _ k4 => sK fun _ k5 => rL (uF (.pointer (some ⟨b2, 1, none⟩)) rfl (kUfa65_1 _ _ _) ?_)
 refine uL _ rfl (run_load1 s1na26 (hv.load 0 1 rfl rfl)) ?_
 refine uG (vI (xs.length : Int)) rfl (ex_len0 Tryz.underlying26 rfl rfl) ?_
 by_cases hb6 : (xs.length : Int) > 14
 ·refine uG (.bool true) rfl (ex_gtr rfl rfl rfl (qT hb6)) (uW k5 ?_)
  refine cT rfl (sK fun _ k7 => ?_)
  refine rL (uA rfl ?_)
  refine uW k7 (rR ?_)
  refine tR (bR rfl rfl ?_)
  exact ⟨false, rfl, fun h9 => (by cases h9), (hv.kp [] 0 1)⟩
 refine uG (.bool false) rfl (ex_gtr rfl rfl rfl (qF hb6)) (uW k5 ?_)
 refine cF rfl (kS ?_)
 refine tK k4 (sK fun _ k8 => ?_)
 refine sK fun _ k9 => rL (uA rfl ?_)
 refine uW k9 (bB ?_)
 gi_loopw [3] (fun x3 wr => ∃ (i : Nat), x3 = vI i ∧ i ≤ xs.length ∧ (∀ x ∈ xs.take i, x.length ≤ 4200) ∧ Inv B (Res.cell b2 [vI cn, .slice xa xs.length xc] 65 :: H) wr) (fun x3 _ => xs.length - (intOf x3).toNat)
 case atStart => exact ⟨0, rfl, Nat.zero_le _, fun x h => (by cases h), hv⟩
 case round =>
  obtain ⟨i, rfl, hi, hall, hv⟩ := hrel
  refine sK fun _ k11 => sK fun _ k12 => rL (uM rfl ?_)
  refine uF (.pointer (some ⟨b2, 1, none⟩)) rfl (kUfa65_1 _ _ _) ?_
  refine uL _ rfl (run_load1 s1na26 (hv.load 0 1 rfl rfl)) ?_
  refine uG (vI (xs.length : Int)) rfl (ex_len0 Tryz.underlying26 rfl rfl) ?_
  by_cases hb13 : (i : Int) < (xs.length : Int)
  ·refine uG (.bool true) rfl (ex_lss rfl rfl rfl (qT hb13)) (uW k12 ?_)
   refine cT rfl (kS ?_)
   refine tK k11 (sK fun _ k14 => ?_)
   refine bB (sK fun _ k15 => ?_)
   obtain ⟨x, hx⟩ : ∃ x, xs[i]? = some x := ⟨_, List.getElem?_eq_getElem (show i < xs.length by omega)⟩
   obtain ⟨xb, xo, had, hrdx⟩ := text_reads hrx hx
   subst had
   refine rL (uF (.pointer (some ⟨b2, 1, none⟩)) rfl (kUfa65_1 _ _ _) ?_)
   refine uL _ rfl (run_load1 s1na26 (hv.load 0 1 rfl rfl)) (uM rfl ?_)
   refine uG (.pointer (some ⟨xb, xo + i, none⟩)) rfl (ex_index rfl rfl rfl (run_idx1 (k := i) Tryz.underlying26 s9es26 (by omega))) ?_
   refine uL _ rfl (run_load1 s9na9 (hrdx _ _ _ (Base.Le.refl _) no_res hv 0 _ rfl)) ?_
   refine uG (vI (x.length : Int)) rfl (ex_lenStr Tryz.underlying9 rfl rfl) ?_
   by_cases hb16 : (x.length : Int) > 4200
   ·refine uG (.bool true) rfl (ex_gtr rfl rfl rfl (qT hb16)) (uW k15 ?_)
    refine cT rfl (sK fun _ k17 => ?_)
    refine rL (uA rfl ?_)
    refine uW k17 (rR ?_)
    refine bZ (tR ?_)
    refine tR (bZ ?_)
    refine tR (bR rfl rfl ?_)
    exact ⟨false, rfl, fun h9 => (by cases h9), (hv.kp [] 0 1)⟩
   refine uG (.bool false) rfl (ex_gtr rfl rfl rfl (qF hb16)) (uW k15 ?_)
   refine cF rfl (kS ?_)
   refine bN (tK k14 ?_)
   refine rL (uM rfl ?_)
   refine uG (vI ((i + 1 : Nat) : Int)) rfl (ex_add rfl rfl rfl (by rw [i64_in (by omega)]; omega)) (uA rfl ?_)
   refine uZ (then_normal ?_)
   go_roundw
   case rel => exact ⟨i + 1, rfl, by omega, fun y hy => (by rw [take_next hx] at hy; rcases List.mem_append.1 hy with h9 | h9; exact hall y h9; rw [List.mem_singleton.1 h9]; omega), hv⟩
   case measure => show xs.length - (((i + 1 : Nat) : Int)).toNat < xs.length - ((i : Int)).toNat; omega
  refine uG (.bool false) rfl (ex_lss rfl rfl rfl (qF hb13)) (uW k12 ?_)
  refine cF rfl (xE ?_)
  refine tX (tX ?_)
  refine bH (tK k8 ?_)
  refine sK fun _ k18 => rL (uA rfl ?_)
  refine uW k18 (rR ?_)
  refine bR rfl rfl ?_
  obtain rfl : i = xs.length := by omega
  rw [List.take_length] at hall
  exact ⟨true, rfl, fun _ => ⟨by omega, hall⟩, (hv.kp [] 0 1)⟩
section
variable {M M' : List (List UInt8 × Ver)} {clk : Int} {k l : List UInt8} {y : Ver} {ok : Bool} {r : Rp} {ec : Int}
def gotM (M : List (List UInt8 × Ver)) (clk : Int) (k : List UInt8) : Option Ver := match lookA M k with
 | some y => if aliveB y clk = true then some y else none
 | none => none
theorem got_of (h : (ok = true ∧ lookA M k = some y ∧ aliveB y clk = true) ∨ (ok = false ∧ y = zver0 ∧ ∀ y9, lookA M k = some y9 → aliveB y9 clk = false)) : (ok = true ∧ gotM M clk k = some y) ∨ (ok = false ∧ y = zver0 ∧ gotM M clk k = none) := by
 rcases h with ⟨h1, h2, h3⟩ | ⟨h1, h2, h3⟩
 ·exact .inl ⟨h1, by unfold gotM; rw [h2]; exact if_pos h3⟩
 refine .inr ⟨h1, h2, ?_⟩
 unfold gotM
 cases hl : lookA M k with
 | none => rfl
 | some y9 => exact if_neg (by rw [h3 y9 hl]; decide)
theorem got_some (h : gotM M clk k = some y) : lookA M k = some y ∧ aliveB y clk = true := by
 unfold gotM at h
 cases hl : lookA M k with
 | none => rw [hl] at h; cases h
 | some y9 =>
  rw [hl] at h
  by_cases h9 : aliveB y9 clk = true
  ·simp only [h9, if_true] at h; cases h; exact ⟨rfl, h9⟩
  simp only [h9] at h; cases h
def DelI (M : List (List UInt8 × Ver)) (ks : List (List UInt8)) (ec : Int) (M' : List (List UInt8 × Ver)) : Prop := (ec = 0 ∧ (∀ k ∈ ks, k.length ≤ 256) ∧ M' = delM M ks) ∨ (ec ≠ 0 ∧ (∃ k ∈ ks, 256 < k.length) ∧ M' = M)
theorem delI_of {ks : List (List UInt8)} {B : Base} {es es' : List (List UInt8 × Value)} (hM : VM B es M) (h : (ec = 0 ∧ ks.any (fun s : List UInt8 => decide (s.length > 256)) = false ∧ VM B es' (delM M ks)) ∨ (ec = 2 ∧ ks.any (fun s : List UInt8 => decide (s.length > 256)) = true ∧ es' = es)) : ∃ M', VM B es' M' ∧ DelI M ks ec M' := by
 rcases h with ⟨h1, h2, h3⟩ | ⟨h1, h2, rfl⟩
 ·refine ⟨_, h3, .inl ⟨h1, fun k hk => ?_, rfl⟩⟩
  have := List.any_eq_false.1 h2 k hk
  simp only [decide_eq_true_eq] at this
  omega
 obtain ⟨k, h3, h4⟩ := List.any_eq_true.1 h2
 exact ⟨M, hM, .inr ⟨by omega, ⟨k, h3, of_decide_eq_true h4⟩, rfl⟩⟩
def stepK (M : List (List UInt8 × Ver)) (clk : Int) (acc : List (List UInt8)) (x : List UInt8) : List (List UInt8) := if x ∈ acc then acc else if (gotM M clk x).isSome then acc ++ [x] else acc
def dropK (M : List (List UInt8 × Ver)) (clk : Int) (ks : List (List UInt8)) : List (List UInt8) := ks.foldl (stepK M clk) []
theorem dropK_next {ks : List (List UInt8)} {i : Nat} {x : List UInt8} (hx : ks[i]? = some x) : dropK M clk (ks.take (i + 1)) = stepK M clk (dropK M clk (ks.take i)) x := by
 unfold dropK
 rw [take_next hx, List.foldl_append]; rfl
theorem stepK_in {acc : List (List UInt8)} {x : List UInt8} (h : x ∈ acc) : stepK M clk acc x = acc := if_pos h
theorem stepK_no {acc : List (List UInt8)} {x : List UInt8} (h : gotM M clk x = none) : stepK M clk acc x = acc := by
 unfold stepK; rw [h]; split <;> rfl
theorem stepK_add {acc : List (List UInt8)} {x : List UInt8} (h : x ∉ acc) (h2 : gotM M clk x ≠ none) : stepK M clk acc x = acc ++ [x] := by
 unfold stepK
 rw [if_neg h]
 cases hg : gotM M clk x with
 | none => exact absurd hg h2
 | some y => rfl
theorem dropK_le {ks : List (List UInt8)} : ∀ (i : Nat), i ≤ ks.length → (dropK M clk (ks.take i)).length ≤ i := fun i => by
 induction i with
 | zero => intro _; exact Nat.le_refl _
 | succ i ih =>
  intro hi
  rw [dropK_next (List.getElem?_eq_getElem (show i < ks.length by omega))]
  have := ih (by omega)
  unfold stepK
  split
  ·omega
  split
  ·rw [List.length_append, List.length_singleton]; omega
  omega
def SeenK (es : List (List UInt8 × Value)) (gn : List (List UInt8)) : Prop := ∀ q, (lookA es q = none ∧ q ∉ gn) ∨ (lookA es q = some (.agg #[]) ∧ q ∈ gn)
theorem SeenK.nil : SeenK [] [] := fun _ => .inl ⟨rfl, List.not_mem_nil⟩
theorem SeenK.upd {es : List (List UInt8 × Value)} {gn : List (List UInt8)} {x : List UInt8} (h : SeenK es gn) : SeenK (updA es x (.agg #[])) (gn ++ [x]) := fun q => by
 rw [look_upd]
 split
 ·rename_i e; exact .inr ⟨rfl, by rw [List.mem_append, List.mem_singleton]; first | exact .inr e | exact .inr e.symm⟩
 rename_i e
 rcases h q with ⟨h1, h2⟩ | ⟨h1, h2⟩
 ·refine .inl ⟨h1, fun h9 => ?_⟩
  rcases List.mem_append.1 h9 with h9 | h9
  ·exact h2 h9
  first | exact e (List.mem_singleton.1 h9) | exact e (List.mem_singleton.1 h9).symm
 exact .inr ⟨h1, List.mem_append_left _ h2⟩
def RenameR (M : List (List UInt8 × Ver)) (clk : Int) (k l : List UInt8) (M' : List (List UInt8 × Ver)) (r : Rp) : Prop :=
 (gotM M clk k = none ∧ M' = M ∧ IsF r) ∨ ∃ y, gotM M clk k = some y ∧ ((k = l ∧ M' = M ∧ r = rText [79, 75]) ∨ (k ≠ l ∧ ∃ e M1, KeepI M clk l y.val y.expire e M1 ∧ ((e ≠ 0 ∧ M' = M1 ∧ IsF r) ∨ (e = 0 ∧ ∃ e2, DelI M1 [k] e2 M' ∧ DoneR e2 (rText [79, 75]) r))))
def RenamenxR (M : List (List UInt8 × Ver)) (clk : Int) (k l : List UInt8) (M' : List (List UInt8 × Ver)) (r : Rp) : Prop :=
 (gotM M clk k = none ∧ M' = M ∧ IsF r) ∨ (gotM M clk k ≠ none ∧ ((gotM M clk l ≠ none ∧ M' = M ∧ r = rInt 0) ∨ (gotM M clk l = none ∧ ∃ r1, RenameR M clk k l M' r1 ∧ ((IsF r1 ∧ r = r1) ∨ (¬ IsF r1 ∧ r = rInt 1)))))
def CopyR (M : List (List UInt8 × Ver)) (clk : Int) (k l : List UInt8) (ws : List (List UInt8)) (M' : List (List UInt8 × Ver)) (r : Rp) : Prop :=
 (ws ≠ [] ∧ M' = M ∧ IsF r) ∨ ((gotM M clk k = none ∨ k = l ∨ (ws = [] ∧ gotM M clk l ≠ none)) ∧ M' = M ∧ r = rInt 0) ∨ (∃ y, gotM M clk k = some y ∧ k ≠ l ∧ (ws = [] → gotM M clk l = none) ∧ ∃ e, KeepI M clk l y.val y.expire e M' ∧ DoneR e (rInt 1) r)
end
theorem k6fa80_0 : FA Tryz.prog 80 0 0 := fun w b o => by kernel_rfl
theorem k6na24 (w : World) : (isAgg 24).run Tryz.prog w = .ok false w := by kernel_rfl
theorem k6al50 : AL Tryz.prog 50 [vI 0, .bool false, vI 0, vI 0, vS [], vN, vN, vN] := fun w => by kernel_rfl
theorem ckHas (B : Base) (H : List Res) (w : World) (v t m s p wb : Nat) (va : Option Addr) (vc : Nat) (sv : Value) (clk : Int) (es : List (List UInt8 × Value)) (M : List (List UInt8 × Ver)) (hM : VM B es M) (aa : Option Addr) (an ac : Nat) (k : List UInt8) (hv : Inv B (Res.cell v [.iface 100 (vP t)] 56 :: txR t m s p wb va vc sv clk es :: H) w) :
  Calls Tryz.prog 76 #[.agg #[vP v, .slice aa an ac], vS k] w fun e w' => ∃ C b, B.Le C ∧ e = .returned (.bool b) ∧ ((b = true ∧ gotM M clk k ≠ none) ∨ (b = false ∧ gotM M clk k = none)) ∧ Inv C (Res.cell v [.iface 100 (vP t)] 56 :: txR t m s p wb va vc sv clk es :: H) w' := by
 refine cW Tryz.func76 rfl Tryz.ntmps76 ?_
 simp only [al]
 refine sK fun _ k1 => rL (sl_box (L := [vP v, .slice aa an ac]) tV (wn rfl) rfl rfl hv (fun w => by kernel_rfl) (fun b2 w3 hv => ?_))
 refine uA rfl (uW k1 ?_)
 refine sK fun _ k4 => rL (uF (vP b2) rfl (k6fa80_0 _ _ _) ?_)
 refine uL _ rfl (run_load1 k6na24 (hv.load 0 0 rfl rfl)) ?_
 refine uG (vP v) rfl (ex_nil rfl rfl) ?_
 refine uF (vP v) rfl (v1fa56_0 _ _ _) ?_
 refine uL _ rfl (run_load1 v1na54 (hv.load 1 0 rfl rfl)) (uM rfl ?_)
 replace hv := hv.front 2 rfl
 simp only [eS, eZ] at hv
 refine wpi_callI v1callable215 tV wideC rfl (wn rfl) rfl rfl (r := vP t) (fun w => by kernel_rfl) (args := #[vS k]) (by simp only [List.map_toArray, List.map_cons, List.map_nil]; rfl) ((txnGet B _ _ t m s p wb va vc sv clk es M k (hM.more (Base.Le.refl _)) hv).mono ?_)
 rintro e w5 ⟨G, y, yp, yt, yz, oky, hG, rfl, hgot, hyv, hv⟩
 refine ⟨_, rfl, ?_⟩
 rcases got_of hgot with ⟨rfl, hg⟩ | ⟨rfl, rfl, hg⟩
 ·refine uM rfl (uE rfl ?_)
  refine uE rfl ?_
  refine sl_alloc tV (wn rfl) rfl hv k6al50 (fun b6 w7 hv => ?_)
  refine xS 0 rfl hv x0sz50 rfl (by exact ⟨rfl, rfl, rfl, rfl, rfl, hyv.p.one, hyv.t.one, hyv.z.one, trivial⟩) (fun w8 hv => ?_)
  simp only [zO, sp] at hv
  refine uA rfl (uW k4 ?_)
  refine sK fun _ k9 => rL (uM rfl ?_)
  refine uA rfl (uW k9 ?_)
  refine rR (bR rfl rfl ?_)
  exact ⟨G, _, hG, rfl, .inl ⟨rfl, by rw [hg]; exact Option.some_ne_none _⟩, (hv.kp [1, 3] 2 2)⟩
 refine uM rfl (uE rfl ?_)
 refine uE rfl ?_
 refine sl_alloc tV (wn rfl) rfl hv k6al50 (fun b10 w11 hv => ?_)
 refine xS 0 rfl hv x0sz50 rfl (by exact ⟨rfl, rfl, rfl, rfl, rfl, hyv.p.one, hyv.t.one, hyv.z.one, trivial⟩) (fun w12 hv => ?_)
 simp only [zO, sp] at hv
 refine uA rfl (uW k4 ?_)
 refine sK fun _ k13 => rL (uM rfl ?_)
 refine uA rfl (uW k13 ?_)
 refine rR (bR rfl rfl ?_)
 exact ⟨G, _, hG, rfl, .inr ⟨rfl, hg⟩, (hv.kp [1, 3] 2 2)⟩
theorem rp_kind {B : Base} {r : Rp} {k : Int} {s : List UInt8} {n : Int} {v : Value} (h : RpAt B r (rpCells k s n v)) : r.kind = k := by
 cases r; simp only [RpAt] at h
 obtain ⟨v2, xs, h1, -⟩ := h
 simp only [List.cons.injEq, Value.int.injEq, true_and] at h1
 exact h1.1.symm
theorem k6al34 : AL Tryz.prog 34 [vI 0, vS [], vI 0, vN] := fun w => by kernel_rfl
theorem k6callable58 : Callable Tryz.prog 58 := cb Tryz.func58 (by kernel_rfl)
theorem k6callable16 : Callable Tryz.prog 16 := cb Tryz.func16 (by kernel_rfl)
theorem k6mk9 : (Tryz.prog.info? 9).map (fun i => (i.zero, i.size, i.bytes)) = some (some (vS []), 1, 16) := by kernel_rfl
theorem k6el26 : Elem Tryz.prog 26 9 (vS []) 1 16 := elem_of Tryz.underlying26 k6mk9 (by rfl) (by decide)
theorem k6callable56 : Callable Tryz.prog 56 := cb Tryz.func56 (by kernel_rfl)
theorem ckRename (B : Base) (H : List Res) (w : World) (v t m s p wb : Nat) (va : Option Addr) (vc : Nat) (sv : Value) (clk : Int) (es : List (List UInt8 × Value)) (M : List (List UInt8 × Ver)) (hM : VM B es M) (aa : Option Addr) (an ac : Nat) (k l : List UInt8) (hv : Inv B (Res.cell v [.iface 100 (vP t)] 56 :: txR t m s p wb va vc sv clk es :: H) w) :
  Calls Tryz.prog 61 #[.agg #[vP v, .slice aa an ac], vS k, vS l] w fun e w' => ∃ C es' M' r cs, B.Le C ∧ e = .returned (.agg cs.toArray) ∧ RpAt C r cs ∧ VM C es' M' ∧ RenameR M clk k l M' r ∧ Inv C (Res.cell v [.iface 100 (vP t)] 56 :: txR t m s p wb va vc sv clk es' :: H) w' := by
 refine cW Tryz.func61 rfl Tryz.ntmps61 ?_
 simp only [al]
 refine sK fun _ k1 => rL (sl_box (L := [vP v, .slice aa an ac]) tV (wn rfl) rfl rfl hv (fun w => by kernel_rfl) (fun b2 w3 hv => ?_))
 refine sl_alloc tV (wn rfl) rfl hv k6al34 (fun b4 w5 hv => ?_)
 refine uW k1 (sK fun _ k6 => ?_)
 refine rL (uF (vP b2) rfl (k6fa80_0 _ _ _) ?_)
 refine uL _ rfl (run_load1 k6na24 (hv.load 1 0 rfl rfl)) ?_
 refine uG (vP v) rfl (ex_nil rfl rfl) ?_
 refine uF (vP v) rfl (v1fa56_0 _ _ _) ?_
 refine uL _ rfl (run_load1 v1na54 (hv.load 2 0 rfl rfl)) (uM rfl ?_)
 replace hv := hv.front 3 rfl
 simp only [eS, eZ] at hv
 refine wpi_callI v1callable215 tV wideC rfl (wn rfl) rfl rfl (r := vP t) (fun w => by kernel_rfl) (args := #[vS k]) (by simp only [List.map_toArray, List.map_cons, List.map_nil]; rfl) ((txnGet B _ _ t m s p wb va vc sv clk es M k (hM.more (Base.Le.refl _)) hv).mono ?_)
 rintro e w7 ⟨G, y, yp, yt, yz, oky, hG, rfl, hgot, hyv, hv⟩
 refine ⟨_, rfl, ?_⟩
 rcases got_of hgot with ⟨rfl, hg⟩ | ⟨rfl, rfl, hg⟩
 ·refine uM rfl (uE rfl ?_)
  refine uE rfl ?_
  refine sl_alloc tV (wn rfl) rfl hv k6al50 (fun b8 w9 hv => ?_)
  refine xS 0 rfl hv x0sz50 rfl (by exact ⟨rfl, rfl, rfl, rfl, rfl, hyv.p.one, hyv.t.one, hyv.z.one, trivial⟩) (fun w10 hv => ?_)
  simp only [zO, sp] at hv
  refine uA rfl (uW k6 ?_)
  refine sK fun _ k11 => sK fun _ k12 => rL (uM rfl ?_)
  refine uG (.bool false) rfl (ex_not rfl rfl rfl) (uW k12 ?_)
  refine cF rfl (kS ?_)
  refine tK k11 (sK fun _ k13 => ?_)
  refine sK fun _ k14 => rL (uM rfl ?_)
  refine uM rfl ?_
  by_cases hb15 : k = l
  ·refine uG (.bool true) rfl (ex_seql rfl rfl rfl (qT hb15)) (uW k14 ?_)
   refine cT rfl (sK fun _ k16 => ?_)
   refine rL (xC k6callable58 rfl ((respText G _ _ ([79, 75] : List UInt8) hv).mono ?_) rfl)
   rintro e w17 ⟨rfl, hv⟩
   refine ⟨_, rfl, ?_⟩
   refine xS 2 rfl hv rssz34 rfl (by exact ⟨rfl, rfl, rfl, rfl, trivial⟩) (fun w18 hv => ?_)
   simp only [zS, zO, sp] at hv
   refine uW k16 (rR ?_)
   refine tR (bC 2 rswd34 hv rfl rfl rfl rfl ?_)
   exact ⟨G, es, M, (.mk 0 ([79, 75] : List UInt8) 0 []), _, hG, rfl, rpAt_leaf, hM.more hG, .inr ⟨y, hg, .inl ⟨hb15, rfl, rfl⟩⟩, (hv.kp [1, 4] 2 3)⟩
  refine uG (.bool false) rfl (ex_seql rfl rfl rfl (qF hb15)) (uW k14 ?_)
  refine cF rfl (kS ?_)
  refine tK k13 (sK fun _ k19 => ?_)
  refine sK fun _ k20 => rL (uF (vP b2) rfl (k6fa80_0 _ _ _) ?_)
  refine uL _ rfl (run_load1 k6na24 (hv.load 3 0 rfl rfl)) (uM rfl ?_)
  refine uF (.pointer (some ⟨b8, 3, none⟩)) rfl (x2fa50_3 _ _ _) ?_
  refine uL (.agg #[vI y.val.kind, vS y.val.text, yp, yt, yz]) rfl (lM 0 s1wd43 hv rfl rfl rfl rfl) ?_
  refine uF (.pointer (some ⟨b8, 2, none⟩)) rfl (s2fa50_2 _ _ _) ?_
  refine uL _ rfl (run_load1 s2na3 (hv.load 0 2 rfl rfl)) ?_
  replace hv := hv.front 1 rfl
  simp only [eS, eZ] at hv
  replace hv := hv.front 4 rfl
  simp only [eS, eZ] at hv
  refine xC k6callable16 rfl ((viewKeep G _ _ v t m s p wb va vc sv clk es M l y.val yp yt yz y.expire (hM.more hG) (hyv.more (Base.Le.refl _)) hv).mono ?_) rfl
  rintro e w21 ⟨D, es1, M1, e1, hD, rfl, hM1, hkp, hv⟩
  refine ⟨_, rfl, uA rfl ?_⟩
  refine uW k20 (sK fun _ k22 => ?_)
  refine rL (uM rfl ?_)
  by_cases hb23 : e1 ≠ 0
  ·refine uG (.bool true) rfl (ex_neq rfl rfl rfl (qT hb23)) (uW k22 ?_)
   refine cT rfl (sK fun _ k24 => ?_)
   refine rL (uM rfl ?_)
   refine xC rscallable29 rfl ((viewWrong D _ _ e1 hv).mono ?_) rfl
   rintro e w26 ⟨s25, rfl, hv⟩
   refine ⟨_, rfl, ?_⟩
   refine xS 3 rfl hv rssz34 rfl (by exact ⟨rfl, rfl, rfl, rfl, trivial⟩) (fun w27 hv => ?_)
   simp only [zS, zO, sp] at hv
   refine uW k24 (rR ?_)
   refine tR (bC 3 rswd34 hv rfl rfl rfl rfl ?_)
   exact ⟨D, es1, M1, (.mk 1 s25 0 []), _, (hG.trans hD), rfl, rpAt_leaf, hM1.more (Base.Le.refl _), .inr ⟨y, hg, .inr ⟨hb15, e1, M1, hkp, .inl ⟨by omega, rfl, rfl⟩⟩⟩, (hv.kp [1, 1] 2 3)⟩
  refine uG (.bool false) rfl (ex_neq rfl rfl rfl (qF hb23)) (uW k22 ?_)
  refine cF rfl (kS ?_)
  refine tK k19 (sK fun _ k28 => ?_)
  refine rL (uF (vP b2) rfl (k6fa80_0 _ _ _) ?_)
  refine uL _ rfl (run_load1 k6na24 (hv.load 4 0 rfl rfl)) ?_
  refine uG (vP v) rfl (ex_nil rfl rfl) ?_
  refine uF (vP v) rfl (v1fa56_0 _ _ _) ?_
  refine uL _ rfl (run_load1 v1na54 (hv.load 0 0 rfl rfl)) (uM rfl ?_)
  refine sl_rowOne (v := vS k) tV (wn rfl) rfl rfl hv k6el26 rfl (fun b29 w30 hv => ?_)
  obtain ⟨K31, hK31, hv, hrkK31, hokK31, -⟩ := (hv.cellRow (n := 1) (c := 1) (size := 1) rfl (by decide) (by decide)).rowBy
  replace hv := hv.front 1 rfl
  simp only [eS, eZ] at hv
  refine wpi_callI v1callable214 tV wideC rfl (wn rfl) rfl rfl (r := vP t) (fun w => by kernel_rfl) (args := #[.slice (some ⟨b29, 0, none⟩) 1 1]) (by simp only [List.map_toArray, List.map_cons, List.map_nil]; rfl) ((txnDel K31 _ _ t m s p wb va vc sv clk es1 M1 _ 1 [k] hrkK31 (by simp) (hM1.more hK31) hv).mono ?_)
  rintro e w32 ⟨es2, e2, rfl, hdel, hv⟩
  refine ⟨_, rfl, ?_⟩
  obtain ⟨M2, hM2, hdl⟩ := delI_of (hM1.more hK31) hdel
  refine xC k6callable58 rfl ((respText K31 _ _ ([79, 75] : List UInt8) hv).mono ?_) rfl
  rintro e w33 ⟨rfl, hv⟩
  refine ⟨_, rfl, ?_⟩
  simp only [zP, po]
  refine xC k6callable56 rfl ((viewDone K31 _ _ e2 0 0 ([79, 75] : List UInt8) (vN) rfl rfl hv).mono ?_) rfl
  rintro e w34 ⟨xr, hxr, rfl, hv⟩
  refine ⟨_, rfl, ?_⟩
  rcases hxr with ⟨hec0, rfl⟩ | ⟨hec0, s35, rfl⟩
  ·refine xS 3 rfl hv rssz34 rfl (by exact ⟨rfl, rfl, rfl, rfl, trivial⟩) (fun w36 hv => ?_)
   simp only [zS, zO, sp] at hv
   refine uW k28 (rR ?_)
   refine bC 3 rswd34 hv rfl rfl rfl rfl (⟨K31, es2, M2, (.mk 0 ([79, 75] : List UInt8) 0 []), _, ((hG.trans hD).trans hK31), rfl, rpAt_leaf, hM2.more (Base.Le.refl _), .inr ⟨y, hg, .inr ⟨hb15, e1, M1, hkp, .inr ⟨by omega, e2, hdl, .inl ⟨by omega, rfl⟩⟩⟩⟩, (hv.kp [1] 2 3)⟩)
  refine xS 3 rfl hv rssz34 rfl (by exact ⟨rfl, rfl, rfl, rfl, trivial⟩) (fun w37 hv => ?_)
  simp only [zS, zO, sp] at hv
  refine uW k28 (rR ?_)
  refine bC 3 rswd34 hv rfl rfl rfl rfl (⟨K31, es2, M2, (.mk 1 s35 0 []), _, ((hG.trans hD).trans hK31), rfl, rpAt_leaf, hM2.more (Base.Le.refl _), .inr ⟨y, hg, .inr ⟨hb15, e1, M1, hkp, .inr ⟨by omega, e2, hdl, .inr ⟨by omega, rfl⟩⟩⟩⟩, (hv.kp [1] 2 3)⟩)
 refine uM rfl (uE rfl ?_)
 refine uE rfl ?_
 refine sl_alloc tV (wn rfl) rfl hv k6al50 (fun b38 w39 hv => ?_)
 refine xS 0 rfl hv x0sz50 rfl (by exact ⟨rfl, rfl, rfl, rfl, rfl, hyv.p.one, hyv.t.one, hyv.z.one, trivial⟩) (fun w40 hv => ?_)
 simp only [zO, sp] at hv
 refine uA rfl (uW k6 ?_)
 refine sK fun _ k41 => sK fun _ k42 => rL (uM rfl ?_)
 refine uG (.bool true) rfl (ex_not rfl rfl rfl) (uW k42 ?_)
 refine cT rfl (sK fun _ k43 => ?_)
 refine rL (xC rscallable29 rfl ((viewWrong G _ _ 23 hv).mono ?_) rfl)
 rintro e w45 ⟨s44, rfl, hv⟩
 refine ⟨_, rfl, ?_⟩
 refine xS 2 rfl hv rssz34 rfl (by exact ⟨rfl, rfl, rfl, rfl, trivial⟩) (fun w46 hv => ?_)
 simp only [zS, zO, sp] at hv
 refine uW k43 (rR ?_)
 refine tR (bC 2 rswd34 hv rfl rfl rfl rfl ?_)
 exact ⟨G, es, M, (.mk 1 s44 0 []), _, hG, rfl, rpAt_leaf, hM.more hG, .inl ⟨hg, rfl, rfl⟩, (hv.kp [1, 4] 2 3)⟩
theorem k6wd80 : Wide Tryz.prog 80 2 := wide_of (fun w => by kernel_rfl) (by kernel_rfl)
theorem k6callable76 : Callable Tryz.prog 76 := cb Tryz.func76 (by kernel_rfl)
theorem k6callable54 : Callable Tryz.prog 54 := cb Tryz.func54 (by kernel_rfl)
theorem k6callable61 : Callable Tryz.prog 61 := cb Tryz.func61 (by kernel_rfl)
theorem ckRenamenx (B : Base) (H : List Res) (w : World) (v t m s p wb : Nat) (va : Option Addr) (vc : Nat) (sv : Value) (clk : Int) (es : List (List UInt8 × Value)) (M : List (List UInt8 × Ver)) (hM : VM B es M) (aa : Option Addr) (an ac : Nat) (k l : List UInt8) (hv : Inv B (Res.cell v [.iface 100 (vP t)] 56 :: txR t m s p wb va vc sv clk es :: H) w) :
  Calls Tryz.prog 62 #[.agg #[vP v, .slice aa an ac], vS k, vS l] w fun e w' => ∃ C es' M' r cs, B.Le C ∧ e = .returned (.agg cs.toArray) ∧ RpAt C r cs ∧ VM C es' M' ∧ RenamenxR M clk k l M' r ∧ Inv C (Res.cell v [.iface 100 (vP t)] 56 :: txR t m s p wb va vc sv clk es' :: H) w' := by
 refine cW Tryz.func62 rfl Tryz.ntmps62 ?_
 simp only [al]
 refine sK fun _ k1 => rL (sl_box (L := [vP v, .slice aa an ac]) tV (wn rfl) rfl rfl hv (fun w => by kernel_rfl) (fun b2 w3 hv => ?_))
 refine sl_alloc tV (wn rfl) rfl hv k6al34 (fun b4 w5 hv => ?_)
 refine uW k1 (sK fun _ k6 => ?_)
 refine sK fun _ k7 => rL (uL (.agg #[vP v, .slice aa an ac]) rfl (lM 1 k6wd80 hv rfl rfl rfl rfl) ?_)
 refine uM rfl ?_
 replace hv := hv.front 3 rfl
 simp only [eS, eZ] at hv
 replace hv := hv.front 3 rfl
 simp only [eS, eZ] at hv
 refine xC k6callable76 rfl ((ckHas B _ _ v t m s p wb va vc sv clk es M (hM.more (Base.Le.refl _)) aa an ac k hv).mono ?_) rfl
 rintro e w8 ⟨P1, b1, hP1, rfl, hh1, hv⟩
 refine ⟨_, rfl, ?_⟩
 rcases hh1 with ⟨rfl, hg1⟩ | ⟨rfl, hg1⟩
 ·refine uG (.bool false) rfl (ex_not rfl rfl rfl) (uW k7 ?_)
  refine cF rfl (kS ?_)
  refine tK k6 (sK fun _ k9 => ?_)
  refine sK fun _ k10 => rL (uL (.agg #[vP v, .slice aa an ac]) rfl (lM 3 k6wd80 hv rfl rfl rfl rfl) ?_)
  refine uM rfl ?_
  replace hv := hv.front 1 rfl
  simp only [eS, eZ] at hv
  replace hv := hv.front 1 rfl
  simp only [eS, eZ] at hv
  refine xC k6callable76 rfl ((ckHas P1 _ _ v t m s p wb va vc sv clk es M (hM.more hP1) aa an ac l hv).mono ?_) rfl
  rintro e w11 ⟨P2, b2, hP2, rfl, hh2, hv⟩
  refine ⟨_, rfl, ?_⟩
  rcases hh2 with ⟨rfl, hg2⟩ | ⟨rfl, hg2⟩
  ·refine uW k10 (cT rfl ?_)
   refine sK fun _ k12 => rL (xC k6callable54 rfl ((respInt P2 _ _ 0 hv).mono ?_) rfl)
   rintro e w13 ⟨rfl, hv⟩
   refine ⟨_, rfl, ?_⟩
   refine xS 2 rfl hv rssz34 rfl (by exact ⟨rfl, rfl, rfl, rfl, trivial⟩) (fun w14 hv => ?_)
   simp only [zS, zO, sp] at hv
   refine uW k12 (rR ?_)
   refine tR (bC 2 rswd34 hv rfl rfl rfl rfl ?_)
   exact ⟨P2, es, M, (.mk 2 ([] : List UInt8) 0 []), _, (hP1.trans hP2), rfl, rpAt_leaf, hM.more (hP1.trans hP2), .inr ⟨hg1, .inl ⟨hg2, rfl, rfl⟩⟩, (hv.kp [1, 1] 2 2)⟩
  refine uW k10 (cF rfl ?_)
  refine kS (tK k9 ?_)
  refine sK fun _ k15 => sK fun _ k16 => rL (uL (.agg #[vP v, .slice aa an ac]) rfl (lM 3 k6wd80 hv rfl rfl rfl rfl) ?_)
  refine uM rfl (uM rfl ?_)
  replace hv := hv.front 1 rfl
  simp only [eS, eZ] at hv
  replace hv := hv.front 1 rfl
  simp only [eS, eZ] at hv
  refine xC k6callable61 rfl ((ckRename P2 _ _ v t m s p wb va vc sv clk es M (hM.more (hP1.trans hP2)) aa an ac k l hv).mono ?_) rfl
  rintro e w17 ⟨D, es1, M1, r1, cs, hD, rfl, hrp, hM1, hrn, hv⟩
  refine ⟨_, rfl, ?_⟩
  obtain ⟨rk, rs, rn, rv, rfl⟩ := rp_parts hrp
  refine sl_alloc tV (wn rfl) rfl hv k6al34 (fun b18 w19 hv => ?_)
  refine xS 0 rfl hv rssz34 rfl (by exact ⟨rfl, rfl, rfl, hrp.lv.2, trivial⟩) (fun w20 hv => ?_)
  simp only [zO, sp] at hv
  refine uW k16 (sK fun _ k21 => ?_)
  refine rL (uF (vP b18) rfl (k0fa34_0 _ _ _) ?_)
  refine uL _ rfl (run_load1 s2na3 (hv.load 0 0 rfl rfl)) ?_
  by_cases hb22 : rk = 1
  ·refine uG (.bool true) rfl (ex_eql rfl rfl rfl (qT hb22)) (uW k21 ?_)
   refine cT rfl (sK fun _ k23 => ?_)
   refine rL (uL (.agg #[vI rk, vS rs, vI rn, rv]) rfl (lM 0 rswd34 hv rfl rfl rfl rfl) ?_)
   refine xS 3 rfl hv rssz34 rfl (by exact ⟨rfl, rfl, rfl, hrp.lv.2, trivial⟩) (fun w24 hv => ?_)
   simp only [zS, zO, sp] at hv
   refine uW k23 (rR ?_)
   refine tR (bC 3 rswd34 hv rfl rfl rfl rfl ?_)
   exact ⟨D, es1, M1, r1, _, ((hP1.trans hP2).trans hD), rfl, (hrp.more (Base.Le.refl _)), hM1.more (Base.Le.refl _), .inr ⟨hg1, .inr ⟨hg2, r1, hrn, .inl ⟨(rp_kind hrp).trans hb22, rfl⟩⟩⟩, (hv.kp [2, 2] 2 3)⟩
  refine uG (.bool false) rfl (ex_eql rfl rfl rfl (qF hb22)) (uW k21 ?_)
  refine cF rfl (kS ?_)
  refine tK k15 (sK fun _ k25 => ?_)
  refine rL (xC k6callable54 rfl ((respInt D _ _ 1 hv).mono ?_) rfl)
  rintro e w26 ⟨rfl, hv⟩
  refine ⟨_, rfl, ?_⟩
  refine xS 3 rfl hv rssz34 rfl (by exact ⟨rfl, rfl, rfl, rfl, trivial⟩) (fun w27 hv => ?_)
  simp only [zS, zO, sp] at hv
  refine uW k25 (rR ?_)
  refine bC 3 rswd34 hv rfl rfl rfl rfl (⟨D, es1, M1, (.mk 2 ([] : List UInt8) 1 []), _, ((hP1.trans hP2).trans hD), rfl, rpAt_leaf, hM1.more (Base.Le.refl _), .inr ⟨hg1, .inr ⟨hg2, r1, hrn, .inr ⟨fun h9 => hb22 ((rp_kind hrp).symm.trans h9), rfl⟩⟩⟩, (hv.kp [2, 2] 2 3)⟩)
 refine uG (.bool true) rfl (ex_not rfl rfl rfl) (uW k7 ?_)
 refine cT rfl (sK fun _ k28 => ?_)
 refine rL (xC rscallable29 rfl ((viewWrong P1 _ _ 23 hv).mono ?_) rfl)
 rintro e w30 ⟨s29, rfl, hv⟩
 refine ⟨_, rfl, ?_⟩
 refine xS 2 rfl hv rssz34 rfl (by exact ⟨rfl, rfl, rfl, rfl, trivial⟩) (fun w31 hv => ?_)
 simp only [zS, zO, sp] at hv
 refine uW k28 (rR ?_)
 refine tR (bC 2 rswd34 hv rfl rfl rfl rfl ?_)
 exact ⟨P1, es, M, (.mk 1 s29 0 []), _, hP1, rfl, rpAt_leaf, hM.more hP1, .inl ⟨hg1, rfl, rfl⟩, (hv.kp [1, 1] 2 2)⟩
theorem k7al34 : AL Tryz.prog 34 [vI 0, vS [], vI 0, vN] := fun w => by kernel_rfl
theorem k7mk9 : (Tryz.prog.info? 9).map (fun i => (i.zero, i.size, i.bytes)) = some (some (vS []), 1, 16) := by kernel_rfl
theorem k7el26 : Elem Tryz.prog 26 9 (vS []) 1 16 := elem_of Tryz.underlying26 k7mk9 (by rfl) (by decide)
theorem k7al50 : AL Tryz.prog 50 [vI 0, .bool false, vI 0, vI 0, vS [], vN, vN, vN] := fun w => by kernel_rfl
theorem ckCopy (B : Base) (H : List Res) (w : World) (v t m s p wb : Nat) (va : Option Addr) (vc : Nat) (sv : Value) (clk : Int) (es : List (List UInt8 × Value)) (M : List (List UInt8 × Ver)) (hM : VM B es M) (aa : Option Addr) (an ac : Nat) (k l : List UInt8) (xa : Option Addr) (xc : Nat) (xs : List (List UInt8)) (hrx : RdV B [] xa (textCells xs)) (hxl : ∀ x ∈ xs, x.length ≤ 9223372036854775807) (hv : Inv B (Res.cell v [.iface 100 (vP t)] 56 :: txR t m s p wb va vc sv clk es :: H) w) :
  Calls Tryz.prog 53 #[.agg #[vP v, .slice aa an ac], vS k, vS l, .slice xa xs.length xc] w fun e w' => ∃ C es' M' r cs, B.Le C ∧ e = .returned (.agg cs.toArray) ∧ RpAt C r cs ∧ VM C es' M' ∧ CopyR M clk k l xs M' r ∧ Inv C (Res.cell v [.iface 100 (vP t)] 56 :: txR t m s p wb va vc sv clk es' :: H) w' := by
 refine cW Tryz.func53 rfl Tryz.ntmps53 ?_
 simp only [al]
 refine sK fun _ k1 => rL (sl_box (L := [vP v, .slice aa an ac]) tV (wn rfl) rfl rfl hv (fun w => by kernel_rfl) (fun b2 w3 hv => ?_))
 refine sl_alloc tV (wn rfl) rfl hv k7al34 (fun b4 w5 hv => ?_)
 refine uW k1 (sK fun _ k6 => ?_)
 refine sK fun _ k7 => rL (uM rfl ?_)
 refine uG (vI (xs.length : Int)) rfl (ex_len0 Tryz.underlying26 rfl rfl) ?_
 by_cases hb8 : (xs.length : Int) > 1
 ·refine uG (.bool true) rfl (ex_gtr rfl rfl rfl (qT hb8)) (uM rfl ?_)
  iterate 11 refine uP rfl ?_
  refine uK rfl (uW k7 ?_)
  refine cT rfl (sK fun _ k9 => ?_)
  refine rL (xC rscallable29 rfl ((viewWrong B _ _ 42 hv).mono ?_) rfl)
  rintro e w11 ⟨s10, rfl, hv⟩
  refine ⟨_, rfl, ?_⟩
  refine xS 0 rfl hv rssz34 rfl (by exact ⟨rfl, rfl, rfl, rfl, trivial⟩) (fun w12 hv => ?_)
  simp only [zO, sp] at hv
  refine uW k9 (rR ?_)
  refine tR (bC 0 rswd34 hv rfl rfl rfl rfl ?_)
  exact ⟨B, es, M, (.mk 1 s10 0 []), _, (Base.Le.refl _), rfl, rpAt_leaf, hM.more (Base.Le.refl _), .inl ⟨fun h9 => (by subst h9; simp only [List.length_nil] at *; omega), rfl, rfl⟩, (hv.kp [3, 3] 2 2)⟩
 refine uG (.bool false) rfl (ex_gtr rfl rfl rfl (qF hb8)) (uM rfl ?_)
 refine uM rfl ?_
 refine uG (vI (xs.length : Int)) rfl (ex_len0 Tryz.underlying26 rfl rfl) ?_
 by_cases hb13 : (xs.length : Int) = 1
 ·refine uG (.bool true) rfl (ex_eql rfl rfl rfl (qT hb13)) ?_
  refine uM rfl ?_
  refine uM rfl ?_
  obtain ⟨x, hx⟩ : ∃ x, xs[0]? = some x := ⟨_, List.getElem?_eq_getElem (show 0 < xs.length by omega)⟩
  obtain ⟨xb, xo, had, hrdx⟩ := text_reads hrx hx
  subst had
  refine uG (.pointer (some ⟨xb, xo + 0, none⟩)) rfl (ex_index rfl rfl rfl (run_idx1 (k := 0) Tryz.underlying26 s9es26 (by omega))) ?_
  refine uL _ rfl (run_load1 s9na9 (hrdx _ _ _ (Base.Le.refl _) no_res hv 0 _ rfl)) ?_
  refine sl_rowOne (v := vS [82, 69, 80, 76, 65, 67, 69]) tV (wanted_of (j := 7) (d := 18) (b := true) rfl rfl rfl) rfl rfl hv k7el26 rfl (fun b14 w15 hv => ?_)
  simp only [zP, po]
  obtain ⟨K16, hK16, hv, hrkK16, hokK16, -⟩ := (hv.cellRow (n := 1) (c := 1) (size := 1) rfl (by decide) (by decide)).rowBy
  refine xC v8callable75 rfl ((viewIs K16 _ _ x _ 1 [([82, 69, 80, 76, 65, 67, 69] : List UInt8)] hrkK16 (by simp) (hxl x (List.mem_of_getElem? hx)) hv).mono ?_) rfl
  rintro e w17 ⟨ri, rfl, -, hv⟩
  refine ⟨_, rfl, ?_⟩
  by_cases hb18 : ri < 0
  ·refine uG (.bool true) rfl (ex_lss rfl rfl rfl (qT hb18)) ?_
   refine uK rfl (uK rfl ?_)
   refine uW k7 (cT rfl ?_)
   refine sK fun _ k19 => rL (xC rscallable29 rfl ((viewWrong K16 _ _ 42 hv).mono ?_) rfl)
   rintro e w21 ⟨s20, rfl, hv⟩
   refine ⟨_, rfl, ?_⟩
   refine xS 0 rfl hv rssz34 rfl (by exact ⟨rfl, rfl, rfl, rfl, trivial⟩) (fun w22 hv => ?_)
   simp only [zO, sp] at hv
   refine uW k19 (rR ?_)
   refine tR (bC 0 rswd34 hv rfl rfl rfl rfl ?_)
   exact ⟨K16, es, M, (.mk 1 s20 0 []), _, hK16, rfl, rpAt_leaf, hM.more hK16, .inl ⟨fun h9 => (by subst h9; simp only [List.length_nil] at *; omega), rfl, rfl⟩, (hv.kp [3, 3] 2 2)⟩
  refine uG (.bool false) rfl (ex_lss rfl rfl rfl (qF hb18)) ?_
  refine uK rfl (uK rfl ?_)
  refine uW k7 (cF rfl ?_)
  refine kS (tK k6 ?_)
  refine sK fun _ k23 => rL (uF (vP b2) rfl (k6fa80_0 _ _ _) ?_)
  refine uL _ rfl (run_load1 k6na24 (hv.load 1 0 rfl rfl)) ?_
  refine uG (vP v) rfl (ex_nil rfl rfl) ?_
  refine uF (vP v) rfl (v1fa56_0 _ _ _) ?_
  refine uL _ rfl (run_load1 v1na54 (hv.load 2 0 rfl rfl)) (uM rfl ?_)
  replace hv := hv.front 3 rfl
  simp only [eS, eZ] at hv
  refine wpi_callI v1callable215 tV wideC rfl (wn rfl) rfl rfl (r := vP t) (fun w => by kernel_rfl) (args := #[vS k]) (by simp only [List.map_toArray, List.map_cons, List.map_nil]; rfl) ((txnGet K16 _ _ t m s p wb va vc sv clk es M k (hM.more hK16) hv).mono ?_)
  rintro e w24 ⟨G, y, yp, yt, yz, oky, hG, rfl, hgot, hyv, hv⟩
  refine ⟨_, rfl, ?_⟩
  rcases got_of hgot with ⟨rfl, hg⟩ | ⟨rfl, rfl, hg⟩
  ·refine uM rfl (uE rfl ?_)
   refine uE rfl ?_
   refine sl_alloc tV (wn rfl) rfl hv k7al50 (fun b25 w26 hv => ?_)
   refine xS 0 rfl hv x0sz50 rfl (by exact ⟨rfl, rfl, rfl, rfl, rfl, hyv.p.one, hyv.t.one, hyv.z.one, trivial⟩) (fun w27 hv => ?_)
   simp only [zO, sp] at hv
   refine uA rfl (uW k23 ?_)
   refine sK fun _ k28 => sK fun _ k29 => rL (uM rfl ?_)
   refine uG (.bool false) rfl (ex_not rfl rfl rfl) (uM rfl ?_)
   refine uM rfl ?_
   refine uM rfl ?_
   by_cases hb30 : k = l
   ·refine uG (.bool true) rfl (ex_seql rfl rfl rfl (qT hb30)) (uK rfl ?_)
    refine uM rfl ?_
    iterate 8 refine uP rfl ?_
    refine uK rfl (uW k29 ?_)
    refine cT rfl (sK fun _ k31 => ?_)
    refine rL (xC k6callable54 rfl ((respInt G _ _ 0 hv).mono ?_) rfl)
    rintro e w32 ⟨rfl, hv⟩
    refine ⟨_, rfl, ?_⟩
    refine xS 2 rfl hv rssz34 rfl (by exact ⟨rfl, rfl, rfl, rfl, trivial⟩) (fun w33 hv => ?_)
    simp only [zS, zO, sp] at hv
    refine uW k31 (rR ?_)
    refine tR (bC 2 rswd34 hv rfl rfl rfl rfl ?_)
    exact ⟨G, es, M, (.mk 2 ([] : List UInt8) 0 []), _, (hK16.trans hG), rfl, rpAt_leaf, hM.more (hK16.trans hG), .inr (.inl ⟨.inr (.inl hb30), rfl, rfl⟩), (hv.kp [1, 4] 2 3)⟩
   refine uG (.bool false) rfl (ex_seql rfl rfl rfl (qF hb30)) (uK rfl ?_)
   refine uM rfl ?_
   refine uM rfl ?_
   refine uG (vI (xs.length : Int)) rfl (ex_len0 Tryz.underlying26 rfl rfl) ?_
   by_cases hb34 : (xs.length : Int) = 0
   ·refine uG (.bool true) rfl (ex_eql rfl rfl rfl (qT hb34)) ?_
    refine uM rfl ?_
    refine uL (.agg #[vP v, .slice aa an ac]) rfl (lM 3 k6wd80 hv rfl rfl rfl rfl) ?_
    refine uM rfl ?_
    replace hv := hv.front 1 rfl
    simp only [eS, eZ] at hv
    replace hv := hv.front 4 rfl
    simp only [eS, eZ] at hv
    refine xC k6callable76 rfl ((ckHas G _ _ v t m s p wb va vc sv clk es M (hM.more (hK16.trans hG)) aa an ac l hv).mono ?_) rfl
    rintro e w35 ⟨P1, b1, hP1, rfl, hh1, hv⟩
    refine ⟨_, rfl, ?_⟩
    rcases hh1 with ⟨rfl, hg1⟩ | ⟨rfl, hg1⟩
    ·refine uK rfl (uK rfl ?_)
     refine uW k29 (cT rfl ?_)
     refine sK fun _ k36 => rL (xC k6callable54 rfl ((respInt P1 _ _ 0 hv).mono ?_) rfl)
     rintro e w37 ⟨rfl, hv⟩
     refine ⟨_, rfl, ?_⟩
     refine xS 3 rfl hv rssz34 rfl (by exact ⟨rfl, rfl, rfl, rfl, trivial⟩) (fun w38 hv => ?_)
     simp only [zS, zO, sp] at hv
     refine uW k36 (rR ?_)
     refine tR (bC 3 rswd34 hv rfl rfl rfl rfl ?_)
     exact ⟨P1, es, M, (.mk 2 ([] : List UInt8) 0 []), _, ((hK16.trans hG).trans hP1), rfl, rpAt_leaf, hM.more ((hK16.trans hG).trans hP1), .inr (.inl ⟨.inr (.inr ⟨List.eq_nil_of_length_eq_zero (by omega), hg1⟩), rfl, rfl⟩), (hv.kp [1, 1] 2 3)⟩
    refine uK rfl (uK rfl ?_)
    refine uW k29 (cF rfl ?_)
    refine kS (tK k28 ?_)
    refine sK fun _ k39 => rL (uF (vP b2) rfl (k6fa80_0 _ _ _) ?_)
    refine uL _ rfl (run_load1 k6na24 (hv.load 4 0 rfl rfl)) (uM rfl ?_)
    refine uF (.pointer (some ⟨b25, 3, none⟩)) rfl (x2fa50_3 _ _ _) ?_
    refine uL (.agg #[vI y.val.kind, vS y.val.text, yp, yt, yz]) rfl (lM 2 s1wd43 hv rfl rfl rfl rfl) ?_
    refine uF (.pointer (some ⟨b25, 2, none⟩)) rfl (s2fa50_2 _ _ _) ?_
    refine uL _ rfl (run_load1 s2na3 (hv.load 2 2 rfl rfl)) ?_
    replace hv := hv.front 1 rfl
    simp only [eS, eZ] at hv
    replace hv := hv.front 1 rfl
    simp only [eS, eZ] at hv
    refine xC k6callable16 rfl ((viewKeep P1 _ _ v t m s p wb va vc sv clk es M l y.val yp yt yz y.expire (hM.more ((hK16.trans hG).trans hP1)) (hyv.more hP1) hv).mono ?_) rfl
    rintro e w40 ⟨D, es1, M1, e1, hD, rfl, hM1, hkp, hv⟩
    refine ⟨_, rfl, ?_⟩
    refine xC k6callable54 rfl ((respInt D _ _ 1 hv).mono ?_) rfl
    rintro e w41 ⟨rfl, hv⟩
    refine ⟨_, rfl, ?_⟩
    simp only [zP, po]
    refine xC k6callable56 rfl ((viewDone D _ _ e1 2 1 ([] : List UInt8) (vN) rfl rfl hv).mono ?_) rfl
    rintro e w42 ⟨xr, hxr, rfl, hv⟩
    refine ⟨_, rfl, ?_⟩
    rcases hxr with ⟨hec0, rfl⟩ | ⟨hec0, s43, rfl⟩
    ·refine xS 3 rfl hv rssz34 rfl (by exact ⟨rfl, rfl, rfl, rfl, trivial⟩) (fun w44 hv => ?_)
     simp only [zS, zO, sp] at hv
     refine uW k39 (rR ?_)
     refine bC 3 rswd34 hv rfl rfl rfl rfl (⟨D, es1, M1, (.mk 2 ([] : List UInt8) 1 []), _, (((hK16.trans hG).trans hP1).trans hD), rfl, rpAt_leaf, hM1.more (Base.Le.refl _), .inr (.inr ⟨y, hg, hb30, fun _ => hg1, e1, hkp, .inl ⟨by omega, rfl⟩⟩), (hv.kp [1, 1] 2 3)⟩)
    refine xS 3 rfl hv rssz34 rfl (by exact ⟨rfl, rfl, rfl, rfl, trivial⟩) (fun w45 hv => ?_)
    simp only [zS, zO, sp] at hv
    refine uW k39 (rR ?_)
    refine bC 3 rswd34 hv rfl rfl rfl rfl (⟨D, es1, M1, (.mk 1 s43 0 []), _, (((hK16.trans hG).trans hP1).trans hD), rfl, rpAt_leaf, hM1.more (Base.Le.refl _), .inr (.inr ⟨y, hg, hb30, fun _ => hg1, e1, hkp, .inr ⟨by omega, rfl⟩⟩), (hv.kp [1, 1] 2 3)⟩)
   refine uG (.bool false) rfl (ex_eql rfl rfl rfl (qF hb34)) ?_
   refine uM rfl ?_
   iterate 3 refine uP rfl ?_
   refine uK rfl (uK rfl ?_)
   refine uW k29 (cF rfl ?_)
   refine kS (tK k28 ?_)
   refine sK fun _ k46 => rL (uF (vP b2) rfl (k6fa80_0 _ _ _) ?_)
   refine uL _ rfl (run_load1 k6na24 (hv.load 3 0 rfl rfl)) (uM rfl ?_)
   refine uF (.pointer (some ⟨b25, 3, none⟩)) rfl (x2fa50_3 _ _ _) ?_
   refine uL (.agg #[vI y.val.kind, vS y.val.text, yp, yt, yz]) rfl (lM 0 s1wd43 hv rfl rfl rfl rfl) ?_
   refine uF (.pointer (some ⟨b25, 2, none⟩)) rfl (s2fa50_2 _ _ _) ?_
   refine uL _ rfl (run_load1 s2na3 (hv.load 0 2 rfl rfl)) ?_
   replace hv := hv.front 1 rfl
   simp only [eS, eZ] at hv
   replace hv := hv.front 4 rfl
   simp only [eS, eZ] at hv
   refine xC k6callable16 rfl ((viewKeep G _ _ v t m s p wb va vc sv clk es M l y.val yp yt yz y.expire (hM.more (hK16.trans hG)) (hyv.more (Base.Le.refl _)) hv).mono ?_) rfl
   rintro e w47 ⟨D, es1, M1, e1, hD, rfl, hM1, hkp, hv⟩
   refine ⟨_, rfl, ?_⟩
   refine xC k6callable54 rfl ((respInt D _ _ 1 hv).mono ?_) rfl
   rintro e w48 ⟨rfl, hv⟩
   refine ⟨_, rfl, ?_⟩
   simp only [zP, po]
   refine xC k6callable56 rfl ((viewDone D _ _ e1 2 1 ([] : List UInt8) (vN) rfl rfl hv).mono ?_) rfl
   rintro e w49 ⟨xr, hxr, rfl, hv⟩
   refine ⟨_, rfl, ?_⟩
   rcases hxr with ⟨hec0, rfl⟩ | ⟨hec0, s50, rfl⟩
   ·refine xS 3 rfl hv rssz34 rfl (by exact ⟨rfl, rfl, rfl, rfl, trivial⟩) (fun w51 hv => ?_)
    simp only [zS, zO, sp] at hv
    refine uW k46 (rR ?_)
    refine bC 3 rswd34 hv rfl rfl rfl rfl (⟨D, es1, M1, (.mk 2 ([] : List UInt8) 1 []), _, ((hK16.trans hG).trans hD), rfl, rpAt_leaf, hM1.more (Base.Le.refl _), .inr (.inr ⟨y, hg, hb30, fun h9 => (by subst h9; exact absurd (show (([] : List (List UInt8)).length : Int) = 0 from rfl) (by omega)), e1, hkp, .inl ⟨by omega, rfl⟩⟩), (hv.kp [1, 1] 2 3)⟩)
   refine xS 3 rfl hv rssz34 rfl (by exact ⟨rfl, rfl, rfl, rfl, trivial⟩) (fun w52 hv => ?_)
   simp only [zS, zO, sp] at hv
   refine uW k46 (rR ?_)
   refine bC 3 rswd34 hv rfl rfl rfl rfl (⟨D, es1, M1, (.mk 1 s50 0 []), _, ((hK16.trans hG).trans hD), rfl, rpAt_leaf, hM1.more (Base.Le.refl _), .inr (.inr ⟨y, hg, hb30, fun h9 => (by subst h9; exact absurd (show (([] : List (List UInt8)).length : Int) = 0 from rfl) (by omega)), e1, hkp, .inr ⟨by omega, rfl⟩⟩), (hv.kp [1, 1] 2 3)⟩)
  refine uM rfl (uE rfl ?_)
  refine uE rfl ?_
  refine sl_alloc tV (wn rfl) rfl hv k7al50 (fun b53 w54 hv => ?_)
  refine xS 0 rfl hv x0sz50 rfl (by exact ⟨rfl, rfl, rfl, rfl, rfl, hyv.p.one, hyv.t.one, hyv.z.one, trivial⟩) (fun w55 hv => ?_)
  simp only [zO, sp] at hv
  refine uA rfl (uW k23 ?_)
  refine sK fun _ k56 => sK fun _ k57 => rL (uM rfl ?_)
  refine uG (.bool true) rfl (ex_not rfl rfl rfl) (uM rfl ?_)
  iterate 3 refine uP rfl ?_
  refine uK rfl (uM rfl ?_)
  iterate 8 refine uP rfl ?_
  refine uK rfl (uW k57 ?_)
  refine cT rfl (sK fun _ k58 => ?_)
  refine rL (xC k6callable54 rfl ((respInt G _ _ 0 hv).mono ?_) rfl)
  rintro e w59 ⟨rfl, hv⟩
  refine ⟨_, rfl, ?_⟩
  refine xS 2 rfl hv rssz34 rfl (by exact ⟨rfl, rfl, rfl, rfl, trivial⟩) (fun w60 hv => ?_)
  simp only [zS, zO, sp] at hv
  refine uW k58 (rR ?_)
  refine tR (bC 2 rswd34 hv rfl rfl rfl rfl ?_)
  exact ⟨G, es, M, (.mk 2 ([] : List UInt8) 0 []), _, (hK16.trans hG), rfl, rpAt_leaf, hM.more (hK16.trans hG), .inr (.inl ⟨.inl hg, rfl, rfl⟩), (hv.kp [1, 4] 2 3)⟩
 refine uG (.bool false) rfl (ex_eql rfl rfl rfl (qF hb13)) ?_
 refine uM rfl ?_
 iterate 6 refine uP rfl ?_
 refine uK rfl (uK rfl ?_)
 refine uW k7 (cF rfl ?_)
 refine kS (tK k6 ?_)
 refine sK fun _ k61 => rL (uF (vP b2) rfl (k6fa80_0 _ _ _) ?_)
 refine uL _ rfl (run_load1 k6na24 (hv.load 1 0 rfl rfl)) ?_
 refine uG (vP v) rfl (ex_nil rfl rfl) ?_
 refine uF (vP v) rfl (v1fa56_0 _ _ _) ?_
 refine uL _ rfl (run_load1 v1na54 (hv.load 2 0 rfl rfl)) (uM rfl ?_)
 replace hv := hv.front 3 rfl
 simp only [eS, eZ] at hv
 refine wpi_callI v1callable215 tV wideC rfl (wn rfl) rfl rfl (r := vP t) (fun w => by kernel_rfl) (args := #[vS k]) (by simp only [List.map_toArray, List.map_cons, List.map_nil]; rfl) ((txnGet B _ _ t m s p wb va vc sv clk es M k (hM.more (Base.Le.refl _)) hv).mono ?_)
 rintro e w62 ⟨G, y, yp, yt, yz, oky, hG, rfl, hgot, hyv, hv⟩
 refine ⟨_, rfl, ?_⟩
 rcases got_of hgot with ⟨rfl, hg⟩ | ⟨rfl, rfl, hg⟩
 ·refine uM rfl (uE rfl ?_)
  refine uE rfl ?_
  refine sl_alloc tV (wn rfl) rfl hv k7al50 (fun b63 w64 hv => ?_)
  refine xS 0 rfl hv x0sz50 rfl (by exact ⟨rfl, rfl, rfl, rfl, rfl, hyv.p.one, hyv.t.one, hyv.z.one, trivial⟩) (fun w65 hv => ?_)
  simp only [zO, sp] at hv
  refine uA rfl (uW k61 ?_)
  refine sK fun _ k66 => sK fun _ k67 => rL (uM rfl ?_)
  refine uG (.bool false) rfl (ex_not rfl rfl rfl) (uM rfl ?_)
  refine uM rfl ?_
  refine uM rfl ?_
  by_cases hb68 : k = l
  ·refine uG (.bool true) rfl (ex_seql rfl rfl rfl (qT hb68)) (uK rfl ?_)
   refine uM rfl ?_
   iterate 8 refine uP rfl ?_
   refine uK rfl (uW k67 ?_)
   refine cT rfl (sK fun _ k69 => ?_)
   refine rL (xC k6callable54 rfl ((respInt G _ _ 0 hv).mono ?_) rfl)
   rintro e w70 ⟨rfl, hv⟩
   refine ⟨_, rfl, ?_⟩
   refine xS 2 rfl hv rssz34 rfl (by exact ⟨rfl, rfl, rfl, rfl, trivial⟩) (fun w71 hv => ?_)
   simp only [zS, zO, sp] at hv
   refine uW k69 (rR ?_)
   refine tR (bC 2 rswd34 hv rfl rfl rfl rfl ?_)
   exact ⟨G, es, M, (.mk 2 ([] : List UInt8) 0 []), _, hG, rfl, rpAt_leaf, hM.more hG, .inr (.inl ⟨.inr (.inl hb68), rfl, rfl⟩), (hv.kp [1, 4] 2 3)⟩
  refine uG (.bool false) rfl (ex_seql rfl rfl rfl (qF hb68)) (uK rfl ?_)
  refine uM rfl ?_
  refine uM rfl ?_
  refine uG (vI (xs.length : Int)) rfl (ex_len0 Tryz.underlying26 rfl rfl) ?_
  by_cases hb72 : (xs.length : Int) = 0
  ·refine uG (.bool true) rfl (ex_eql rfl rfl rfl (qT hb72)) ?_
   refine uM rfl ?_
   refine uL (.agg #[vP v, .slice aa an ac]) rfl (lM 3 k6wd80 hv rfl rfl rfl rfl) ?_
   refine uM rfl ?_
   replace hv := hv.front 1 rfl
   simp only [eS, eZ] at hv
   replace hv := hv.front 4 rfl
   simp only [eS, eZ] at hv
   refine xC k6callable76 rfl ((ckHas G _ _ v t m s p wb va vc sv clk es M (hM.more hG) aa an ac l hv).mono ?_) rfl
   rintro e w73 ⟨P1, b1, hP1, rfl, hh1, hv⟩
   refine ⟨_, rfl, ?_⟩
   rcases hh1 with ⟨rfl, hg1⟩ | ⟨rfl, hg1⟩
   ·refine uK rfl (uK rfl ?_)
    refine uW k67 (cT rfl ?_)
    refine sK fun _ k74 => rL (xC k6callable54 rfl ((respInt P1 _ _ 0 hv).mono ?_) rfl)
    rintro e w75 ⟨rfl, hv⟩
    refine ⟨_, rfl, ?_⟩
    refine xS 3 rfl hv rssz34 rfl (by exact ⟨rfl, rfl, rfl, rfl, trivial⟩) (fun w76 hv => ?_)
    simp only [zS, zO, sp] at hv
    refine uW k74 (rR ?_)
    refine tR (bC 3 rswd34 hv rfl rfl rfl rfl ?_)
    exact ⟨P1, es, M, (.mk 2 ([] : List UInt8) 0 []), _, (hG.trans hP1), rfl, rpAt_leaf, hM.more (hG.trans hP1), .inr (.inl ⟨.inr (.inr ⟨List.eq_nil_of_length_eq_zero (by omega), hg1⟩), rfl, rfl⟩), (hv.kp [1, 1] 2 3)⟩
   refine uK rfl (uK rfl ?_)
   refine uW k67 (cF rfl ?_)
   refine kS (tK k66 ?_)
   refine sK fun _ k77 => rL (uF (vP b2) rfl (k6fa80_0 _ _ _) ?_)
   refine uL _ rfl (run_load1 k6na24 (hv.load 4 0 rfl rfl)) (uM rfl ?_)
   refine uF (.pointer (some ⟨b63, 3, none⟩)) rfl (x2fa50_3 _ _ _) ?_
   refine uL (.agg #[vI y.val.kind, vS y.val.text, yp, yt, yz]) rfl (lM 2 s1wd43 hv rfl rfl rfl rfl) ?_
   refine uF (.pointer (some ⟨b63, 2, none⟩)) rfl (s2fa50_2 _ _ _) ?_
   refine uL _ rfl (run_load1 s2na3 (hv.load 2 2 rfl rfl)) ?_
   replace hv := hv.front 1 rfl
   simp only [eS, eZ] at hv
   replace hv := hv.front 1 rfl
   simp only [eS, eZ] at hv
   refine xC k6callable16 rfl ((viewKeep P1 _ _ v t m s p wb va vc sv clk es M l y.val yp yt yz y.expire (hM.more (hG.trans hP1)) (hyv.more hP1) hv).mono ?_) rfl
   rintro e w78 ⟨D, es1, M1, e1, hD, rfl, hM1, hkp, hv⟩
   refine ⟨_, rfl, ?_⟩
   refine xC k6callable54 rfl ((respInt D _ _ 1 hv).mono ?_) rfl
   rintro e w79 ⟨rfl, hv⟩
   refine ⟨_, rfl, ?_⟩
   simp only [zP, po]
   refine xC k6callable56 rfl ((viewDone D _ _ e1 2 1 ([] : List UInt8) (vN) rfl rfl hv).mono ?_) rfl
   rintro e w80 ⟨xr, hxr, rfl, hv⟩
   refine ⟨_, rfl, ?_⟩
   rcases hxr with ⟨hec0, rfl⟩ | ⟨hec0, s81, rfl⟩
   ·refine xS 3 rfl hv rssz34 rfl (by exact ⟨rfl, rfl, rfl, rfl, trivial⟩) (fun w82 hv => ?_)
    simp only [zS, zO, sp] at hv
    refine uW k77 (rR ?_)
    refine bC 3 rswd34 hv rfl rfl rfl rfl (⟨D, es1, M1, (.mk 2 ([] : List UInt8) 1 []), _, ((hG.trans hP1).trans hD), rfl, rpAt_leaf, hM1.more (Base.Le.refl _), .inr (.inr ⟨y, hg, hb68, fun _ => hg1, e1, hkp, .inl ⟨by omega, rfl⟩⟩), (hv.kp [1, 1] 2 3)⟩)
   refine xS 3 rfl hv rssz34 rfl (by exact ⟨rfl, rfl, rfl, rfl, trivial⟩) (fun w83 hv => ?_)
   simp only [zS, zO, sp] at hv
   refine uW k77 (rR ?_)
   refine bC 3 rswd34 hv rfl rfl rfl rfl (⟨D, es1, M1, (.mk 1 s81 0 []), _, ((hG.trans hP1).trans hD), rfl, rpAt_leaf, hM1.more (Base.Le.refl _), .inr (.inr ⟨y, hg, hb68, fun _ => hg1, e1, hkp, .inr ⟨by omega, rfl⟩⟩), (hv.kp [1, 1] 2 3)⟩)
  refine uG (.bool false) rfl (ex_eql rfl rfl rfl (qF hb72)) ?_
  refine uM rfl ?_
  iterate 3 refine uP rfl ?_
  refine uK rfl (uK rfl ?_)
  refine uW k67 (cF rfl ?_)
  refine kS (tK k66 ?_)
  refine sK fun _ k84 => rL (uF (vP b2) rfl (k6fa80_0 _ _ _) ?_)
  refine uL _ rfl (run_load1 k6na24 (hv.load 3 0 rfl rfl)) (uM rfl ?_)
  refine uF (.pointer (some ⟨b63, 3, none⟩)) rfl (x2fa50_3 _ _ _) ?_
  refine uL (.agg #[vI y.val.kind, vS y.val.text, yp, yt, yz]) rfl (lM 0 s1wd43 hv rfl rfl rfl rfl) ?_
  refine uF (.pointer (some ⟨b63, 2, none⟩)) rfl (s2fa50_2 _ _ _) ?_
  refine uL _ rfl (run_load1 s2na3 (hv.load 0 2 rfl rfl)) ?_
  replace hv := hv.front 1 rfl
  simp only [eS, eZ] at hv
  replace hv := hv.front 4 rfl
  simp only [eS, eZ] at hv
  refine xC k6callable16 rfl ((viewKeep G _ _ v t m s p wb va vc sv clk es M l y.val yp yt yz y.expire (hM.more hG) (hyv.more (Base.Le.refl _)) hv).mono ?_) rfl
  rintro e w85 ⟨D, es1, M1, e1, hD, rfl, hM1, hkp, hv⟩
  refine ⟨_, rfl, ?_⟩
  refine xC k6callable54 rfl ((respInt D _ _ 1 hv).mono ?_) rfl
  rintro e w86 ⟨rfl, hv⟩
  refine ⟨_, rfl, ?_⟩
  simp only [zP, po]
  refine xC k6callable56 rfl ((viewDone D _ _ e1 2 1 ([] : List UInt8) (vN) rfl rfl hv).mono ?_) rfl
  rintro e w87 ⟨xr, hxr, rfl, hv⟩
  refine ⟨_, rfl, ?_⟩
  rcases hxr with ⟨hec0, rfl⟩ | ⟨hec0, s88, rfl⟩
  ·refine xS 3 rfl hv rssz34 rfl (by exact ⟨rfl, rfl, rfl, rfl, trivial⟩) (fun w89 hv => ?_)
   simp only [zS, zO, sp] at hv
   refine uW k84 (rR ?_)
   refine bC 3 rswd34 hv rfl rfl rfl rfl (⟨D, es1, M1, (.mk 2 ([] : List UInt8) 1 []), _, (hG.trans hD), rfl, rpAt_leaf, hM1.more (Base.Le.refl _), .inr (.inr ⟨y, hg, hb68, fun h9 => (by subst h9; exact absurd (show (([] : List (List UInt8)).length : Int) = 0 from rfl) (by omega)), e1, hkp, .inl ⟨by omega, rfl⟩⟩), (hv.kp [1, 1] 2 3)⟩)
  refine xS 3 rfl hv rssz34 rfl (by exact ⟨rfl, rfl, rfl, rfl, trivial⟩) (fun w90 hv => ?_)
  simp only [zS, zO, sp] at hv
  refine uW k84 (rR ?_)
  refine bC 3 rswd34 hv rfl rfl rfl rfl (⟨D, es1, M1, (.mk 1 s88 0 []), _, (hG.trans hD), rfl, rpAt_leaf, hM1.more (Base.Le.refl _), .inr (.inr ⟨y, hg, hb68, fun h9 => (by subst h9; exact absurd (show (([] : List (List UInt8)).length : Int) = 0 from rfl) (by omega)), e1, hkp, .inr ⟨by omega, rfl⟩⟩), (hv.kp [1, 1] 2 3)⟩)
 refine uM rfl (uE rfl ?_)
 refine uE rfl ?_
 refine sl_alloc tV (wn rfl) rfl hv k7al50 (fun b91 w92 hv => ?_)
 refine xS 0 rfl hv x0sz50 rfl (by exact ⟨rfl, rfl, rfl, rfl, rfl, hyv.p.one, hyv.t.one, hyv.z.one, trivial⟩) (fun w93 hv => ?_)
 simp only [zO, sp] at hv
 refine uA rfl (uW k61 ?_)
 refine sK fun _ k94 => sK fun _ k95 => rL (uM rfl ?_)
 refine uG (.bool true) rfl (ex_not rfl rfl rfl) (uM rfl ?_)
 iterate 3 refine uP rfl ?_
 refine uK rfl (uM rfl ?_)
 iterate 8 refine uP rfl ?_
 refine uK rfl (uW k95 ?_)
 refine cT rfl (sK fun _ k96 => ?_)
 refine rL (xC k6callable54 rfl ((respInt G _ _ 0 hv).mono ?_) rfl)
 rintro e w97 ⟨rfl, hv⟩
 refine ⟨_, rfl, ?_⟩
 refine xS 2 rfl hv rssz34 rfl (by exact ⟨rfl, rfl, rfl, rfl, trivial⟩) (fun w98 hv => ?_)
 simp only [zS, zO, sp] at hv
 refine uW k96 (rR ?_)
 refine tR (bC 2 rswd34 hv rfl rfl rfl rfl ?_)
 exact ⟨G, es, M, (.mk 2 ([] : List UInt8) 0 []), _, hG, rfl, rpAt_leaf, hM.more hG, .inr (.inl ⟨.inl hg, rfl, rfl⟩), (hv.kp [1, 4] 2 3)⟩
end Go.Proofs.YtngpmolbphinnaaGreatDoor
