/- Replies: a tree of kinds, texts, numbers and lists, in memory that stays. -/
import Derived.Test.YtffnhfkkochnhaaGreatDoorChBakD
import Derived.Shelf.Strconv.ParseIntPublic10
import Derived.Shelf.Strconv.Itoa4
import Derived.Ground.NamesProg
import Derived.Test.YtffnhfkkochnhaaGreatDoorRows
import Derived.Lib.ItoaNum
import Derived.Lib.AtoiAll
import Derived.Lib.ParseIntBTie
import Derived.Test.YtffnhfkkochnhaaGreatDoorChBakB
import Derived.Test.YtffnhfkkochnhaaGreatDoorChBakA
import Derived.LaidLaws
import Derived.LaidSub
import Derived.Test.YtffnhfkkochnhaaGreatDoorChBakC
set_option maxRecDepth 100000
set_option maxHeartbeats 16000000
set_option synthInstance.maxSize 4096
set_option synthInstance.maxHeartbeats 400000
namespace Go.Pm
open Go.RowKit
inductive Rp where
 | mk (kind : Int) (s : List UInt8) (n : Int) (l : List Rp)
def Rp.kind : Rp → Int
 | .mk k _ _ _ => k
abbrev rpCells (k : Int) (s : List UInt8) (n : Int) (v : Value) : List Value := [.int .i64 k, strV s, .int .i64 n, v]
mutual
def RpAt (B : Base) : Rp → List Value → Prop
 | .mk k s n l, cs => ∃ v xs, cs = rpCells k s n v ∧ RowB B v l.length xs ∧ RpsAt B l xs
def RpsAt (B : Base) : List Rp → List Value → Prop
 | [], xs => xs = []
 | r :: l, xs => ∃ cs ys, xs = cs ++ ys ∧ RpAt B r cs ∧ RpsAt B l ys
end
mutual
theorem RpAt.more {B C : Base} (hB : B.Le C) : ∀ {r : Rp} {cs : List Value}, RpAt B r cs → RpAt C r cs
 | .mk _ _ _ _, _, h => by
  simp only [RpAt] at h ⊢
  obtain ⟨v, xs, h1, h2, h3⟩ := h
  exact ⟨v, xs, h1, h2.more hB, RpsAt.more hB h3⟩
theorem RpsAt.more {B C : Base} (hB : B.Le C) : ∀ {l : List Rp} {xs : List Value}, RpsAt B l xs → RpsAt C l xs
 | [], _, h => by simp only [RpsAt] at h ⊢; exact h
 | _ :: _, _, h => by
  simp only [RpsAt] at h ⊢
  obtain ⟨cs, ys, h1, h2, h3⟩ := h
  exact ⟨cs, ys, h1, RpAt.more hB h2, RpsAt.more hB h3⟩
end
theorem RpAt.len {B : Base} {r : Rp} {cs : List Value} (h : RpAt B r cs) : cs.length = 4 := by
 cases r; simp only [RpAt] at h
 obtain ⟨v, xs, rfl, -⟩ := h; rfl
theorem RpsAt.nil {B : Base} : RpsAt B [] [] := by simp only [RpsAt]
theorem RpsAt.cons {B : Base} {r : Rp} {l : List Rp} {cs ys : List Value} (h1 : RpAt B r cs) (h2 : RpsAt B l ys) : RpsAt B (r :: l) (cs ++ ys) := by
 simp only [RpsAt]; exact ⟨cs, ys, rfl, h1, h2⟩
theorem RpsAt.uncons {B : Base} {r : Rp} {l : List Rp} {xs : List Value} (h : RpsAt B (r :: l) xs) : ∃ cs ys, xs = cs ++ ys ∧ RpAt B r cs ∧ RpsAt B l ys := by
 simp only [RpsAt] at h; exact h
theorem RpsAt.append {B : Base} {k : List Rp} {ys : List Value} (hk : RpsAt B k ys) : ∀ {l : List Rp} {xs : List Value}, RpsAt B l xs → RpsAt B (l ++ k) (xs ++ ys)
 | [], xs, h => by
  simp only [RpsAt] at h; subst h; exact hk
 | r :: l, xs, h => by
  obtain ⟨cs, zs, rfl, h1, h2⟩ := h.uncons
  rw [List.append_assoc]
  exact RpsAt.cons h1 (RpsAt.append hk h2)
theorem RpsAt.single {B : Base} {r : Rp} {cs : List Value} (h : RpAt B r cs) : RpsAt B [r] cs := by
 have := RpsAt.cons h (RpsAt.nil (B := B))
 rwa [List.append_nil] at this
theorem RpsAt.len {B : Base} : ∀ {l : List Rp} {xs : List Value}, RpsAt B l xs → xs.length = l.length * 4
 | [], xs, h => by simp only [RpsAt] at h; subst h; rfl
 | r :: l, xs, h => by
  obtain ⟨cs, zs, rfl, h1, h2⟩ := h.uncons
  rw [List.length_append, RpsAt.len h2, h1.len, List.length_cons]; omega
theorem RpsAt.get {B : Base} : ∀ {l : List Rp} {xs : List Value}, RpsAt B l xs → ∀ i (hi : i < l.length), ∃ cs, RpAt B l[i] cs ∧ ∀ j, j < 4 → cs[j]? = (xs.drop (i * 4))[j]?
 | [], _, _, i, hi => by simp at hi
 | r :: l, xs, h, i, hi => by
  obtain ⟨cs, zs, rfl, h1, h2⟩ := h.uncons
  cases i with
  | zero => exact ⟨cs, h1, fun j hj => by rw [Nat.zero_mul, List.drop_zero, List.getElem?_append_left (by rw [h1.len]; exact hj)]⟩
  | succ i =>
   obtain ⟨cs', e1, e2⟩ := RpsAt.get h2 i (by simpa using hi)
   refine ⟨cs', e1, fun j hj => (e2 j hj).trans ?_⟩
   rw [show (i + 1) * 4 = cs.length + i * 4 by rw [h1.len, Nat.succ_mul]; omega, ← List.drop_drop, List.drop_left]
theorem RpsAt.reads {B : Base} {l : List Rp} {xs : List Value} {ad : Option Addr} {i : Nat} {k : Int} {s : List UInt8} {n : Int} {q : List Rp} (h : RpsAt B l xs) (hr : RdV B [] ad xs) (hx : l[i]? = some (.mk k s n q)) :
  ∃ b off v ys, ad = some ⟨b, off, none⟩ ∧ RowB B v q.length ys ∧ RpsAt B q ys ∧ Reads B [] b (off + i * 4) (rpCells k s n v) := by
 obtain ⟨hi, hx⟩ := List.getElem?_eq_some_iff.1 hx
 obtain ⟨cs, h1, h2⟩ := h.get i hi
 rw [hx] at h1
 simp only [RpAt] at h1
 obtain ⟨v, ys, rfl, h3, h4⟩ := h1
 have hl := h.len
 have hle : i * 4 + 4 ≤ xs.length := by rw [hl]; have := Nat.mul_le_mul_right 4 (show i + 1 ≤ l.length by omega); rw [Nat.succ_mul] at this; exact this
 obtain ⟨b, off, h5, h6⟩ := rdW_reads (cs := rpCells k s n v) (k := i * 4) (m := 4) (hr.rdW []) hle (by decide) rfl (fun j hj => by
  rw [h2 j hj, List.getElem?_drop])
 exact ⟨b, off, v, ys, h5, h3, h4, h6⟩
def rInt (n : Int) : Rp := .mk 2 [] n []
def rStr (s : List UInt8) : Rp := .mk 3 s 0 []
def rText (s : List UInt8) : Rp := .mk 0 s 0 []
def rFault (s : List UInt8) : Rp := .mk 1 s 0 []
def rList (l : List Rp) : Rp := .mk 5 [] 0 l
def rStrs (l : List (List UInt8)) : Rp := rList (l.map rStr)
theorem RpAt.lv {B : Base} {r : Rp} {k : Int} {s : List UInt8} {n : Int} {v : Value} (h : RpAt B r (rpCells k s n v)) : v.cells = #[v] ∧ v.oneCell' = true := by
 cases r; simp only [RpAt] at h
 obtain ⟨v2, xs, h1, h2, -⟩ := h
 simp only [List.cons.injEq, and_true] at h1
 obtain ⟨-, -, -, rfl⟩ := h1
 exact ⟨h2.cells, h2.one⟩
theorem rpAt_leaf {B : Base} {k : Int} {s : List UInt8} {n : Int} : RpAt B (.mk k s n []) (rpCells k s n (.slice none 0 0)) := by
 simp only [RpAt]
 exact ⟨_, [], rfl, ⟨none, 0, rfl, ⟨Nat.le_refl _, Nat.zero_le _, fun _ => rfl⟩, rdV_nil⟩, RpsAt.nil⟩
theorem rpAt_of {B : Base} {k : Int} {s : List UInt8} {n : Int} {l : List Rp} {v : Value} {xs : List Value} (h1 : RowB B v l.length xs) (h2 : RpsAt B l xs) : RpAt B (.mk k s n l) (rpCells k s n v) := by
 simp only [RpAt]; exact ⟨v, xs, rfl, h1, h2⟩
def strsCells (l : List (List UInt8)) : List Value := l.flatMap fun s => rpCells 3 s 0 (.slice none 0 0)
theorem strsCells_at {B : Base} : ∀ (l : List (List UInt8)), RpsAt B (l.map rStr) (strsCells l)
 | [] => RpsAt.nil
 | s :: l => RpsAt.cons (rpAt_leaf (k := 3) (s := s) (n := 0)) (strsCells_at l)
theorem strsCells_next {l : List (List UInt8)} {i : Nat} {x : List UInt8} (h : l[i]? = some x) : strsCells (l.take (i + 1)) = strsCells (l.take i) ++ rpCells 3 x 0 (.slice none 0 0) := by
 rw [take_next h]; unfold strsCells; rw [List.flatMap_append]; rfl
end Go.Pm
namespace Go.Proofs.YtffnhfkkochnhaaGreatDoor
open Go.RowKit Go.Pm
def OkM (M : List (List UInt8 × Ver)) : Prop := ∀ k y, lookA M k = some y → y.gone = true ∨ PutOk k y.val y.expire
section
variable {M M' : List (List UInt8 × Ver)} {clk exp ec : Int} {key : List UInt8} {x : Val} {y : Ver}
theorem OkM.nil : OkM [] := fun k y h => by cases h
theorem OkM.upd (h : OkM M) {k : List UInt8} {y : Ver} (hy : y.gone = true ∨ PutOk k y.val y.expire) : OkM (updA M k y) := fun k2 y2 h2 => by
 rw [look_upd] at h2
 split at h2
 ·rename_i e; cases h2; subst e; exact hy
 exact h k2 y2 h2
theorem OkM.keep (h : OkM M) (hk : KeepI M clk key x exp ec M') : OkM M' := by
 rcases hk with ⟨-, h1, -, rfl⟩ | ⟨-, -, -, rfl⟩ | ⟨-, -, -, rfl⟩ | ⟨-, -, ⟨-, -, rfl⟩ | ⟨-, -, rfl⟩⟩
 ·exact h.upd (.inr h1)
 ·exact h
 ·exact h
 ·exact h.upd (.inl rfl)
 exact h
theorem keep_not (hk : KeepI M clk key x exp ec M') (he : ec ≠ 0) : M' = M := by
 rcases hk with ⟨-, -, h, -⟩ | ⟨-, -, -, rfl⟩ | ⟨-, -, -, rfl⟩ | ⟨-, -, ⟨-, h, -⟩ | ⟨-, -, rfl⟩⟩
 ·exact absurd h he
 ·rfl
 ·rfl
 ·exact absurd h he
 rfl
theorem alive_gone {y : Ver} (h : aliveB y clk = true) : y.gone = false := by
 unfold aliveB at h
 cases hy : y.gone <;> simp [hy] at h ⊢
theorem OkM.alive (h : OkM M) (hl : lookA M key = some y) (ha : aliveB y clk = true) : PutOk key y.val y.expire := by
 rcases h key y hl with h1 | h1
 ·rw [alive_gone ha] at h1; cases h1
 exact h1
end
def IsF (r : Rp) : Prop := r.kind = 1
def DoneR (ec : Int) (r0 r : Rp) : Prop := (ec = 0 ∧ r = r0) ∨ (ec ≠ 0 ∧ IsF r)
def CmdR (M M' : List (List UInt8 × Ver)) (r : Rp) : Prop := OkM M' ∧ (IsF r → M' = M)
theorem isF_int {n : Int} : ¬ IsF (rInt n) := fun h => absurd (show (2 : Int) = 1 from h) (by decide)
theorem DoneR.keep {M M' : List (List UInt8 × Ver)} {clk exp ec : Int} {key : List UInt8} {x : Val} {r0 r : Rp} (hM : OkM M) (hk : KeepI M clk key x exp ec M') (hd : DoneR ec r0 r) (h0 : ¬ IsF r0) : CmdR M M' r := by
 refine ⟨hM.keep hk, fun hf => ?_⟩
 rcases hd with ⟨-, rfl⟩ | ⟨he, -⟩
 ·exact absurd hf h0
 exact keep_not hk he
end Go.Proofs.YtffnhfkkochnhaaGreatDoor
namespace Go.Proofs
open Go.Shelf
def Tryz.laysPI_ren : Go.Shelf.Ren := ⟨fun | 174 => 98 | 247 => 109 | 245 => 110 | 287 => 121 | 279 => 122 | 280 => 123 | 281 => 124 | 282 => 125 | 321 => 129 | 322 => 130 | 316 => 131 | 171 => 133 | 205 => 132 | 243 => 134 | 246 => 97 | 283 => 105 | 284 => 106 | 285 => 107 | 286 => 108 | 129 => 117 | 317 => 116 | 318 => 118 | 319 => 119 | 320 => 120 | 337 => 127 | 338 => 128 | n => n, fun | 9 => 9 | 3 => 3 | 2 => 2 | 75 => 194 | 85 => 195 | 4 => 4 | 167 => 221 | 5 => 5 | 53 => 187 | 175 => 222 | 46 => 198 | 168 => 224 | 37 => 31 | 0 => 0 | 210 => 231 | 21 => 21 | 127 => 235 | 145 => 238 | 143 => 236 | 171 => 206 | 173 => 209 | 212 => 217 | 51 => 218 | 20 => 20 | 213 => 219 | 232 => 233 | 233 => 234 | 80 => 239 | n => n, fun | 15 => 1 | 16 => 2 | 17 => 0 | 18 => 3 | 19 => 4 | n => n⟩
theorem Tryz.laysPI : Go.Proofs.LaysC.n174 Tryz.prog Tryz.laysPI_ren := {
 mixed := by kernel_rfl
 f129 := Tryz.func117.trans (congrArg some (by kernel_rfl))
 f171 := Tryz.func133.trans (congrArg some (by kernel_rfl))
 f174 := Tryz.func98.trans (congrArg some (by kernel_rfl))
 f205 := Tryz.func132.trans (congrArg some (by kernel_rfl))
 f243 := Tryz.func134.trans (congrArg some (by kernel_rfl))
 f245 := Tryz.func110.trans (congrArg some (by kernel_rfl))
 f246 := Tryz.func97.trans (congrArg some (by kernel_rfl))
 f247 := Tryz.func109.trans (congrArg some (by kernel_rfl))
 f279 := Tryz.func122.trans (congrArg some (by kernel_rfl))
 f280 := Tryz.func123.trans (congrArg some (by kernel_rfl))
 f281 := Tryz.func124.trans (congrArg some (by kernel_rfl))
 f282 := Tryz.func125.trans (congrArg some (by kernel_rfl))
 f283 := Tryz.func105.trans (congrArg some (by kernel_rfl))
 f284 := Tryz.func106.trans (congrArg some (by kernel_rfl))
 f285 := Tryz.func107.trans (congrArg some (by kernel_rfl))
 f286 := Tryz.func108.trans (congrArg some (by kernel_rfl))
 f287 := Tryz.func121.trans (congrArg some (by kernel_rfl))
 f316 := Tryz.func131.trans (congrArg some (by kernel_rfl))
 f317 := Tryz.func116.trans (congrArg some (by kernel_rfl))
 f318 := Tryz.func118.trans (congrArg some (by kernel_rfl))
 f319 := Tryz.func119.trans (congrArg some (by kernel_rfl))
 f320 := Tryz.func120.trans (congrArg some (by kernel_rfl))
 f321 := Tryz.func129.trans (congrArg some (by kernel_rfl))
 f322 := Tryz.func130.trans (congrArg some (by kernel_rfl))
 f337 := Tryz.func127.trans (congrArg some (by kernel_rfl))
 f338 := Tryz.func128.trans (congrArg some (by kernel_rfl))
 t0 := Tryz.underlying0
 a0 := Tryz.isAgg0
 z0 := Tryz.sizeOf0
 v0 := Tryz.zeroValue0
 t2 := Tryz.underlying2
 a2 := Tryz.isAgg2
 z2 := Tryz.sizeOf2
 v2 := Tryz.zeroValue2
 t3 := Tryz.underlying3
 a3 := Tryz.isAgg3
 z3 := Tryz.sizeOf3
 v3 := Tryz.zeroValue3
 t4 := Tryz.underlying4
 a4 := Tryz.isAgg4
 z4 := Tryz.sizeOf4
 v4 := Tryz.zeroValue4
 t5 := Tryz.underlying5
 a5 := Tryz.isAgg5
 z5 := Tryz.sizeOf5
 v5 := Tryz.zeroValue5
 t9 := Tryz.underlying9
 a9 := Tryz.isAgg9
 z9 := Tryz.sizeOf9
 v9 := Tryz.zeroValue9
 t20 := Tryz.underlying20
 a20 := Tryz.isAgg20
 z20 := Tryz.sizeOf20
 v20 := Tryz.zeroValue20
 t21 := Tryz.underlying21
 a21 := Tryz.isAgg21
 z21 := Tryz.sizeOf21
 v21 := Tryz.zeroValue21
 t37 := Tryz.underlying31
 a37 := Tryz.isAgg31
 z37 := Tryz.sizeOf31
 v37 := Tryz.zeroValue31
 t46 := Tryz.underlying198
 a46 := Tryz.isAgg198
 z46 := Tryz.sizeOf198
 v46 := Tryz.zeroValue198
 t51 := Tryz.underlying218
 a51 := Tryz.isAgg218
 z51 := Tryz.sizeOf218
 v51 := Tryz.zeroValue218
 t53 := Tryz.underlying187
 a53 := Tryz.isAgg187
 z53 := Tryz.sizeOf187
 v53 := Tryz.zeroValue187
 t75 := Tryz.underlying194
 a75 := Tryz.isAgg194
 z75 := Tryz.sizeOf194
 v75 := Tryz.zeroValue194
 t85 := Tryz.underlying195
 a85 := Tryz.isAgg195
 z85 := Tryz.sizeOf195
 v85 := Tryz.zeroValue195
 t127 := Tryz.underlying235
 a127 := Tryz.isAgg235
 z127 := Tryz.sizeOf235
 v127 := Tryz.zeroValue235
 t143 := Tryz.underlying236
 a143 := Tryz.isAgg236
 z143 := Tryz.sizeOf236
 v143 := Tryz.zeroValue236
 t145 := Tryz.underlying238
 a145 := Tryz.isAgg238
 z145 := Tryz.sizeOf238
 v145 := Tryz.zeroValue238
 t167 := Tryz.underlying221
 a167 := Tryz.isAgg221
 z167 := Tryz.sizeOf221
 v167 := Tryz.zeroValue221
 t168 := Tryz.underlying224
 a168 := Tryz.isAgg224
 z168 := Tryz.sizeOf224
 v168 := Tryz.zeroValue224
 t171 := Tryz.underlying206
 a171 := Tryz.isAgg206
 z171 := Tryz.sizeOf206
 v171 := Tryz.zeroValue206
 t173 := Tryz.underlying209
 a173 := Tryz.isAgg209
 z173 := Tryz.sizeOf209
 v173 := Tryz.zeroValue209
 t175 := Tryz.underlying222
 a175 := Tryz.isAgg222
 z175 := Tryz.sizeOf222
 v175 := Tryz.zeroValue222
 t210 := Tryz.underlying231
 a210 := Tryz.isAgg231
 z210 := Tryz.sizeOf231
 v210 := Tryz.zeroValue231
 t212 := Tryz.underlying217
 a212 := Tryz.isAgg217
 z212 := Tryz.sizeOf217
 v212 := Tryz.zeroValue217
 t213 := Tryz.underlying219
 a213 := Tryz.isAgg219
 z213 := Tryz.sizeOf219
 t232 := Tryz.underlying233
 a232 := Tryz.isAgg233
 z232 := Tryz.sizeOf233
 v232 := Tryz.zeroValue233
 t233 := Tryz.underlying234
 a233 := Tryz.isAgg234
 z233 := Tryz.sizeOf234
 v233 := Tryz.zeroValue234
 g15 := by kernel_rfl
 g16 := by kernel_rfl
 g17 := by kernel_rfl
 g18 := by kernel_rfl
 g19 := by kernel_rfl
 t80 := Tryz.underlying239
 a80 := Tryz.isAgg239
 z80 := Tryz.sizeOf239
 v80 := Tryz.zeroValue239
 i0 := by kernel_rfl
 i2 := by kernel_rfl
 i3 := by kernel_rfl
 i4 := by kernel_rfl
 i5 := by kernel_rfl
 i9 := by kernel_rfl
 i20 := by kernel_rfl
 i21 := by kernel_rfl
 i37 := by kernel_rfl
 i46 := by kernel_rfl
 i51 := by kernel_rfl
 i53 := by kernel_rfl
 i75 := by kernel_rfl
 i80 := by kernel_rfl
 i85 := by kernel_rfl
 i127 := by kernel_rfl
 i143 := by kernel_rfl
 i145 := by kernel_rfl
 i167 := by kernel_rfl
 i168 := by kernel_rfl
 i171 := by kernel_rfl
 i173 := by kernel_rfl
 i175 := by kernel_rfl
 i210 := by kernel_rfl
 i212 := by kernel_rfl
 i232 := by kernel_rfl
 i233 := by kernel_rfl
 m15 := by kernel_rfl
 m16 := by kernel_rfl
 m17 := by kernel_rfl
 m18 := by kernel_rfl
 m19 := by kernel_rfl
 c0 := by kernel_rfl
 c2 := by kernel_rfl
 c3 := by kernel_rfl
 c4 := by kernel_rfl
 c5 := by kernel_rfl
 c9 := by kernel_rfl
 c20 := by kernel_rfl
 c21 := by kernel_rfl
 c37 := by kernel_rfl
 c46 := by kernel_rfl
 c51 := by kernel_rfl
 c53 := by kernel_rfl
 c75 := by kernel_rfl
 c80 := by kernel_rfl
 c85 := by kernel_rfl
 c127 := by kernel_rfl
 c143 := by kernel_rfl
 c145 := by kernel_rfl
 c167 := by kernel_rfl
 c168 := by kernel_rfl
 c171 := by kernel_rfl
 c173 := by kernel_rfl
 c175 := by kernel_rfl
 c210 := by kernel_rfl
 c212 := by kernel_rfl
 c213 := by kernel_rfl
 c232 := by kernel_rfl
 c233 := by kernel_rfl }
def Tryz.laysFI_ren : Go.Shelf.Ren := ⟨fun | 173 => 86 | 246 => 97 | 283 => 105 | 284 => 106 | 285 => 107 | 286 => 108 | 129 => 117 | 317 => 116 | 318 => 118 | 319 => 119 | 320 => 120 | 337 => 127 | 338 => 128 | n => n, fun | 2 => 2 | 3 => 3 | 9 => 9 | 4 => 4 | 171 => 206 | 0 => 0 | 53 => 187 | 37 => 31 | 5 => 5 | 173 => 209 | 212 => 217 | 51 => 218 | 20 => 20 | 213 => 219 | 46 => 198 | 232 => 233 | 233 => 234 | n => n, fun | 17 => 0 | 18 => 3 | 19 => 4 | n => n⟩
theorem Tryz.laysFI : Go.Proofs.LaysM.n173 Tryz.prog Tryz.laysFI_ren := {
 mixed := by kernel_rfl
 f129 := Tryz.func117.trans (congrArg some (by kernel_rfl))
 f173 := Tryz.func86.trans (congrArg some (by kernel_rfl))
 f246 := Tryz.func97.trans (congrArg some (by kernel_rfl))
 f283 := Tryz.func105.trans (congrArg some (by kernel_rfl))
 f284 := Tryz.func106.trans (congrArg some (by kernel_rfl))
 f285 := Tryz.func107.trans (congrArg some (by kernel_rfl))
 f286 := Tryz.func108.trans (congrArg some (by kernel_rfl))
 f317 := Tryz.func116.trans (congrArg some (by kernel_rfl))
 f318 := Tryz.func118.trans (congrArg some (by kernel_rfl))
 f319 := Tryz.func119.trans (congrArg some (by kernel_rfl))
 f320 := Tryz.func120.trans (congrArg some (by kernel_rfl))
 f337 := Tryz.func127.trans (congrArg some (by kernel_rfl))
 f338 := Tryz.func128.trans (congrArg some (by kernel_rfl))
 t0 := Tryz.underlying0
 a0 := Tryz.isAgg0
 z0 := Tryz.sizeOf0
 v0 := Tryz.zeroValue0
 t2 := Tryz.underlying2
 a2 := Tryz.isAgg2
 z2 := Tryz.sizeOf2
 v2 := Tryz.zeroValue2
 t3 := Tryz.underlying3
 a3 := Tryz.isAgg3
 z3 := Tryz.sizeOf3
 v3 := Tryz.zeroValue3
 t4 := Tryz.underlying4
 a4 := Tryz.isAgg4
 z4 := Tryz.sizeOf4
 v4 := Tryz.zeroValue4
 t5 := Tryz.underlying5
 a5 := Tryz.isAgg5
 z5 := Tryz.sizeOf5
 v5 := Tryz.zeroValue5
 t9 := Tryz.underlying9
 a9 := Tryz.isAgg9
 z9 := Tryz.sizeOf9
 v9 := Tryz.zeroValue9
 t20 := Tryz.underlying20
 a20 := Tryz.isAgg20
 z20 := Tryz.sizeOf20
 v20 := Tryz.zeroValue20
 t37 := Tryz.underlying31
 a37 := Tryz.isAgg31
 z37 := Tryz.sizeOf31
 v37 := Tryz.zeroValue31
 t46 := Tryz.underlying198
 a46 := Tryz.isAgg198
 z46 := Tryz.sizeOf198
 v46 := Tryz.zeroValue198
 t51 := Tryz.underlying218
 a51 := Tryz.isAgg218
 z51 := Tryz.sizeOf218
 v51 := Tryz.zeroValue218
 t53 := Tryz.underlying187
 a53 := Tryz.isAgg187
 z53 := Tryz.sizeOf187
 v53 := Tryz.zeroValue187
 t171 := Tryz.underlying206
 a171 := Tryz.isAgg206
 z171 := Tryz.sizeOf206
 v171 := Tryz.zeroValue206
 t173 := Tryz.underlying209
 a173 := Tryz.isAgg209
 z173 := Tryz.sizeOf209
 v173 := Tryz.zeroValue209
 t212 := Tryz.underlying217
 a212 := Tryz.isAgg217
 z212 := Tryz.sizeOf217
 v212 := Tryz.zeroValue217
 t213 := Tryz.underlying219
 a213 := Tryz.isAgg219
 z213 := Tryz.sizeOf219
 t232 := Tryz.underlying233
 a232 := Tryz.isAgg233
 z232 := Tryz.sizeOf233
 v232 := Tryz.zeroValue233
 t233 := Tryz.underlying234
 a233 := Tryz.isAgg234
 z233 := Tryz.sizeOf234
 v233 := Tryz.zeroValue234
 g17 := by kernel_rfl
 g18 := by kernel_rfl
 g19 := by kernel_rfl
 i0 := by kernel_rfl
 i2 := by kernel_rfl
 i3 := by kernel_rfl
 i4 := by kernel_rfl
 i5 := by kernel_rfl
 i9 := by kernel_rfl
 i20 := by kernel_rfl
 i37 := by kernel_rfl
 i46 := by kernel_rfl
 i51 := by kernel_rfl
 i53 := by kernel_rfl
 i171 := by kernel_rfl
 i173 := by kernel_rfl
 i212 := by kernel_rfl
 i232 := by kernel_rfl
 i233 := by kernel_rfl
 m17 := by kernel_rfl
 m18 := by kernel_rfl
 m19 := by kernel_rfl }
end Go.Proofs
namespace Go.Pm
open Go.Lib
theorem parseUint10_append {r : List UInt8} : ∀ (l : List UInt8) (a b : Nat), parseUint10 a l = .ok b → parseUint10 a (l ++ r) = parseUint10 b r
 | [], a, b, h => by
  simp only [parseUint10, NumEnd.ok.injEq] at h
  subst h; rfl
 | c :: l, a, b, h => by
  simp only [parseUint10] at h
  simp only [List.cons_append, parseUint10]
  split at h
  ·rename_i h1
   rw [if_pos h1]
   split at h
   ·cases h
   rename_i h2
   rw [if_neg h2]
   split at h
   ·cases h
   rename_i h3
   rw [if_neg h3]
   exact parseUint10_append l _ b h
  cases h
theorem dig_toNat {d : Nat} (h : d < 10) : (UInt8.ofNat (48 + d)).toNat = 48 + d := by
 rw [UInt8.toNat_ofNat']
 exact Nat.mod_eq_of_lt (by omega)
theorem parse_dec (u : Nat) (h : u < 18446744073709551616) : parseUint10 0 (decDigits u) = .ok u := by
 induction u using Nat.strongRecOn with
 | _ u ih =>
  rw [decDigits]
  split
  ·rename_i h1
   simp only [parseUint10, dig_toNat h1]
   rw [if_pos (by omega), if_neg (by omega), if_neg (by omega)]
   congr 1
   omega
  rename_i h1
  rw [parseUint10_append _ 0 (u / 10) (ih (u / 10) (by omega) (by omega))]
  have hd : u % 10 < 10 := Nat.mod_lt _ (by omega)
  simp only [parseUint10, dig_toNat hd]
  rw [if_pos (by omega), if_neg (by omega), if_neg (by omega)]
  congr 1
  omega
theorem dec_bytes (u : Nat) : ∀ c ∈ decDigits u, 48 ≤ c.toNat ∧ c.toNat ≤ 57 := by
 induction u using Nat.strongRecOn with
 | _ u ih =>
  intro c hc
  rw [decDigits] at hc
  split at hc
  ·rename_i h1
   simp only [List.mem_singleton] at hc
   subst hc
   rw [dig_toNat h1]; omega
  rename_i h1
  rcases List.mem_append.1 hc with hc | hc
  ·exact ih (u / 10) (by omega) c hc
  simp only [List.mem_singleton] at hc
  subst hc
  rw [dig_toNat (Nat.mod_lt _ (by omega))]; omega
theorem dec_ne (u : Nat) : decDigits u ≠ [] := by
 rw [decDigits]
 split <;> simp
theorem parseMag_dec (u : Nat) (h : u < 18446744073709551616) : parseMag (decDigits u) = .ok u := by
 unfold parseMag
 rw [if_neg (dec_ne u), parse_dec u h]
theorem parse_itoa (n : Int) (h0 : -9223372036854775808 ≤ n) (h1 : n ≤ 9223372036854775807) : parseIntB 64 (itoa n) = .ok n := by
 rw [parseIntB_64]
 unfold itoa
 split
 ·rename_i hn
  have h45 : (45 : UInt8).toNat = 45 := rfl
  simp only [atoiAll, h45]
  rw [if_pos (by simp), parseMag_dec _ (by omega)]
  simp only [not_true_eq_false, false_and, if_false, true_and, if_true]
  rw [if_neg (by omega)]
  congr 1
  omega
 rename_i hn
 have hm := parseMag_dec n.toNat (by omega)
 have hb := dec_bytes n.toNat
 cases hl : decDigits n.toNat with
 | nil => exact absurd hl (dec_ne _)
 | cons c r =>
  rw [hl] at hm hb
  have hc := hb c (by simp)
  have h43 : ¬ c.toNat = 43 := by omega
  have h45 : ¬ c.toNat = 45 := by omega
  simp only [atoiAll, h43, h45, or_self, if_false, hm, not_false_eq_true, true_and, false_and]
  rw [if_neg (by omega)]
  congr 1
  omega
theorem nDigits_le : ∀ (k u : Nat), u < 10 ^ (k + 1) → nDigits u ≤ k + 1
 | 0, u, h => by rw [nDigits_small (by simpa using h)]; exact Nat.le_refl _
 | k + 1, u, h => by
  by_cases hu : u < 10
  ·rw [nDigits_small hu]; omega
  rw [nDigits_big hu]
  have := nDigits_le k (u / 10) (by rw [Nat.pow_succ] at h; omega)
  omega
theorem itoa_length (n : Int) (h0 : -9223372036854775808 ≤ n) (h1 : n ≤ 9223372036854775807) : 1 ≤ (itoa n).length ∧ (itoa n).length ≤ 20 := by
 have hp : (10 : Nat) ^ 19 = 10000000000000000000 := by decide
 unfold itoa
 split
 ·have := nDigits_le 18 n.natAbs (by rw [hp]; omega)
  simp only [List.length_cons, decDigits_length]; omega
 have := nDigits_le 18 n.toNat (by rw [hp]; omega)
 have := nDigits_pos n.toNat
 rw [decDigits_length]; omega
end Go.Pm
namespace Go.Proofs.YtffnhfkkochnhaaGreatDoor
open Go.RowKit Go.Pm
def FormatsInt (B : Base) (H : List Res) : Prop := ∀ (w : World) (n : Int), -9223372036854775808 ≤ n → n ≤ 9223372036854775807 → Inv B H w →
 Calls Tryz.prog 86 #[vI n, vI 10] w fun e w' => e = .returned (vS (Lib.itoa n)) ∧ Inv B H w'
theorem ex_ifaceNil {P : Program} {o : Oper} {a : Act} {w : World} {t u : TypeId} {x : Operand} {c : Value} (hu : P.underlying t = some (.interface (P.methodsAt t))) (ho : o.op = .binOp .neq t x (.const c) u) (hx : a.eval x = .nilIface) (hy : a.eval (.const c) = .nilIface) : Ex P a o w (.bool false) w := by
 have hg : (eqGuard .neq t x (.const c) .nilIface .nilIface).run P w = .ok () w := by simp [eqGuard]
 have hr : (binOp .neq t .nilIface .nilIface).run P w = .ok (.bool false) w := by simp [binOp, run_equal_nil_nil w t hu]
 unfold Ex; simp [execOp, ho, hx, hy, hg, hr]
theorem prcallable86 : Callable Tryz.prog 86 := cb Tryz.func86 (by kernel_rfl)
theorem numPrint (B : Base) (H : List Res) (hF : FormatsInt B H) (w : World) (n : Int) (h0 : -9223372036854775808 ≤ n) (h1 : n ≤ 9223372036854775807) (hv : Inv B H w) :
  Calls Tryz.prog 70 #[vI n] w fun e w' => e = .returned (vS (Lib.itoa n)) ∧ Inv B H w' := by
 refine cW Tryz.func70 rfl Tryz.ntmps70 ?_
 simp only [al]
 refine sK fun _ k1 => rL (uA rfl ?_)
 refine uW k1 (sK fun _ k2 => ?_)
 refine rL (uM rfl ?_)
 refine xC prcallable86 rfl ((hF _ n h0 h1 hv).mono ?_) rfl
 rintro e w3 ⟨rfl, hv⟩
 refine ⟨_, rfl, uA rfl ?_⟩
 refine uW k2 (rR ?_)
 refine bR rfl rfl (⟨rfl, hv⟩)
theorem bytesWorld_ext (w : World) (e : TypeId) (t : ByteArray) : Ext w (Lib.bytesWorld w e t) := by
 have h : ∀ k, k < w.heap.size → (Lib.bytesWorld w e t).heap[k]? = w.heap[k]? := by
  intro k hk
  unfold Lib.bytesWorld World.freeze
  split
  ·show (w.heap.push _)[k]? = _
   rw [Array.getElem?_push_lt hk, Array.getElem?_eq_getElem hk]
  show ((w.heap.push _).modify w.heap.size _)[k]? = _
  rw [Array.getElem?_modify, if_neg (by omega), Array.getElem?_push_lt hk, Array.getElem?_eq_getElem hk]
 have hs : w.heap.size ≤ (Lib.bytesWorld w e t).heap.size := by
  unfold Lib.bytesWorld World.freeze
  split
  ·show _ ≤ (w.heap.push _).size
   simp
  show _ ≤ ((w.heap.push _).modify _ _).size
  simp
 refine ⟨?_, ?_, ?_, hs, h⟩ <;> (unfold Lib.bytesWorld World.freeze; split <;> rfl)
theorem growN_ext (w : World) (k : Nat) (os : Array Obj) : Ext w (Go.Sort.grow (w.drewN k) os) := by
 refine ⟨rfl, rfl, rfl, ?_, fun b hb => ?_⟩
 ·show _ ≤ (w.heap ++ os).size
  simp
 show (w.heap ++ os)[b]? = _
 rw [Array.getElem?_append_left hb]
theorem tab_below {P : Program} {W w : World} {n : String} {k : IntKind} {l : List Int} (h : Lib.TabIs P W n k l) (hb : Below W.heap.size W w) : Lib.TabIs P w n k l := by
 unfold Lib.TabIs World.var? at h ⊢
 cases hg : P.globalNamed n with
 | none => rw [hg] at h; cases h
 | some g =>
  rw [hg] at h
  simp only [Option.bind_some] at h ⊢
  have hlt : g < W.heap.size := by
   rcases Nat.lt_or_ge g W.heap.size with hlt | hge
   ·exact hlt
   rw [Array.getElem?_eq_none hge] at h; cases h
  rw [hb.block g hlt]; exact h
theorem formatsInt (B : Base) (H : List Res) (W : World) (hB : (Base.of W).Le B) (ht : Lib.TabIs Tryz.prog W "internal/strconv.uint64pow10" .u64 Lib.pow10Tab) : FormatsInt B H := fun w n h0 h1 hv => by
 have h : Calls Tryz.prog 86 #[vI n, vI 10] w _ := Any.strconv_FormatInt_10 Tryz.laysFI n h0 h1 w (tab_below ht (hv.below hB))
 refine h.mono ?_
 rintro e w' ⟨rfl, k, os, rfl⟩
 exact ⟨rfl, hv.ext (growN_ext w k os)⟩
def NumP (s : List UInt8) (n : Int) (b : Bool) : Prop := (b = true ∧ -9223372036854775808 ≤ n ∧ n ≤ 9223372036854775807 ∧ s = Lib.itoa n) ∨ (b = false ∧ n = 0 ∧ ∀ m : Int, -9223372036854775808 ≤ m → m ≤ 9223372036854775807 → s ≠ Lib.itoa m)
def ParsesAny (B : Base) (H : List Res) : Prop := ∀ (w : World) (s : List UInt8), s.length ≤ 20 → Inv B H w →
 Calls Tryz.prog 98 #[vS s, vI 10, vI 64] w fun e w' => ∃ (n : Int) (ev : Value), e = .returned (.tuple #[vI n, ev]) ∧ (ev = .nilIface ∨ ∃ t v, ev = .iface t v) ∧ (-9223372036854775808 ≤ n ∧ n ≤ 9223372036854775807) ∧ (∀ m : Int, -9223372036854775808 ≤ m → m ≤ 9223372036854775807 → s = Lib.itoa m → ev = .nilIface ∧ n = m) ∧ Inv B H w'
theorem ex_ifaceNe {P : Program} {o : Oper} {a : Act} {w : World} {t u d : TypeId} {v : Value} {ms : Array (String × TypeId)} {x : Operand} {c : Value} (hu : P.underlying t = some (.interface ms)) (ho : o.op = .binOp .neq t x (.const c) u) (hx : a.eval x = .iface d v) (hc : c = .nilIface) : Ex P a o w (.bool true) w := by
 subst hc
 have hg : (eqGuard .neq t x (.const .nilIface) (.iface d v) .nilIface).run P w = .ok () w := by simp [eqGuard]
 have h : ∀ k : Nat, (Op.equalIn (k + 1) t (.iface d v) .nilIface).run P w = .ok false w := fun k => by simp [Op.equalIn, run_underlying hu]
 have hr : (binOp .neq t (.iface d v) .nilIface).run P w = .ok (.bool true) w := by
  simp only [binOp]; simp [Op.equal, Op.maxDepth, h 9999]
 have hy : a.eval (.const .nilIface) = .nilIface := rfl
 unfold Ex; simp [execOp, ho, hx, hy, hg, hr]
def HasErr (B : Base) (g : Nat) : Prop := ∃ t v, ∀ C K w, B.Le C → Inv C K w → w.cell? ⟨g, 0, none⟩ = some (.iface t v)
theorem HasErr.more {B C : Base} {g : Nat} (h : HasErr B g) (hB : B.Le C) : HasErr C g := by
 obtain ⟨t, v, h⟩ := h
 exact ⟨t, v, fun D K w hD hv => h D K w (hB.trans hD) hv⟩
theorem hasErr_of {W : World} {g : Nat} {t : TypeId} {v : Value} (h : W.cell? ⟨g, 0, none⟩ = some (.iface t v)) : HasErr (Base.of W) g := by
 have hlt : g < W.heap.size := Lib.lt_of_cell h
 exact ⟨t, v, fun C K w hC hv => ((hv.below hC).cell (show (⟨g, 0, none⟩ : Addr).block < W.heap.size from hlt)).trans h⟩
theorem errOf {W : World} {l : List (String × DataW Unit)} {name nm : String} {d : DataW Unit} {g t : Nat} {ms : Array (String × TypeId)} (hl : l.filter (fun x => x.1 == name) = [(name, .iface nm d)]) (he : ([(name, (DataW.iface nm d : DataW Unit))].filter fun x => x.2.handleName?.isNone) = [(name, .iface nm d)])
  (hg : Tryz.prog.globalNamed name = some g) (hty : (Tryz.prog.globals[g]?).map (·.type) = some t) (ht : Tryz.prog.underlying t = some (.interface ms)) (hL : laidMetH Tryz.prog l W) : ∃ u v, W.cell? ⟨g, 0, none⟩ = some (.iface u v) := by
 have h := hL.filter (fun x => x.1 == name)
 rw [hl] at h
 have h2 := (laidMetH_iff.1 h).1
 rw [he] at h2
 obtain ⟨ps, ⟨g', t', cs, fuel, p, q, hg', ht', hvar, hd, _, _⟩, _⟩ := h2
 obtain rfl := Option.some.inj (hg.symm.trans hg')
 obtain rfl := Option.some.inj (hty.symm.trans ht')
 obtain ⟨f', u, v, hcs, -, -⟩ := iface_of_trod ht hd
 refine ⟨u, v, ?_⟩
 have := World.var?_cell hg hvar 0
 rw [this]
 have hcs' : cs.toList = [.iface u v] := hcs
 rw [← Array.getElem?_toList, hcs']; rfl
theorem pzcallable98 : Callable Tryz.prog 98 := cb Tryz.func98 (by kernel_rfl)
theorem pzcallable70 : Callable Tryz.prog 70 := cb Tryz.func70 (by kernel_rfl)
theorem numParseAny (B : Base) (H : List Res) (hF : FormatsInt B H) (hP : ParsesAny B H) (w : World) (s : List UInt8) (hv : Inv B H w) :
  Calls Tryz.prog 87 #[vS s] w fun e w' => ∃ n b, e = .returned (.tuple #[vI n, .bool b]) ∧ NumP s n b ∧ Inv B H w' := by
 refine cW Tryz.func87 rfl Tryz.ntmps87 ?_
 simp only [al]
 refine sK fun _ k1 => rL (uA rfl ?_)
 refine uA rfl (uW k1 ?_)
 refine sK fun _ k2 => sK fun _ k3 => rL (uM rfl ?_)
 refine uG (vI (s.length : Int)) rfl (ex_lenStr Tryz.underlying9 rfl rfl) ?_
 by_cases hb4 : (s.length : Int) > 20
 ·refine uG (.bool true) rfl (ex_gtr rfl rfl rfl (qT hb4)) (uW k3 ?_)
  refine cT rfl (sK fun _ k5 => ?_)
  refine rL (uA rfl ?_)
  refine uA rfl (uW k5 ?_)
  refine rR (tR ?_)
  refine bodyPost_ret (results_tmp2 rfl _ _ _) rfl (⟨_, _, rfl, .inr ⟨rfl, rfl, fun m h0 h1 e9 => by have := itoa_length m h0 h1; rw [← e9] at this; omega⟩, hv⟩)
 refine uG (.bool false) rfl (ex_gtr rfl rfl rfl (qF hb4)) (uW k3 ?_)
 refine cF rfl (kS ?_)
 refine tK k2 (sK fun _ k6 => ?_)
 refine rL (uM rfl ?_)
 refine xC pzcallable98 rfl ((hP _ s (by omega) hv).mono ?_) rfl
 rintro e w7 ⟨n, ev, rfl, hev, hn, hno, hv⟩
 refine ⟨_, rfl, ?_⟩
 rcases hev with rfl | ⟨t9, v9, rfl⟩
 ·refine uM rfl (uE rfl ?_)
  refine uE rfl (uA rfl ?_)
  refine uA rfl (uW k6 ?_)
  refine sK fun _ k8 => sK fun _ k9 => rL (uM rfl ?_)
  refine uG (.bool false) rfl (ex_ifaceNil Tryz.underlying194 rfl rfl rfl) (uW k9 ?_)
  refine cF rfl (kS ?_)
  refine tK k8 (sK fun _ k10 => ?_)
  refine rL (uM rfl ?_)
  refine uA rfl (uW k10 ?_)
  refine sK fun _ k11 => sK fun _ k12 => rL (uM rfl ?_)
  refine xC pzcallable70 rfl ((numPrint B H hF _ n hn.1 hn.2 hv).mono ?_) rfl
  rintro e w13 ⟨rfl, hv⟩
  refine ⟨_, rfl, uM rfl ?_⟩
  by_cases hb14 : (Lib.itoa n) ≠ s
  ·refine uG (.bool true) rfl (ex_sneq rfl rfl rfl (qT hb14)) (uW k12 ?_)
   refine cT rfl (sK fun _ k15 => ?_)
   refine rL (uA rfl ?_)
   refine uA rfl (uW k15 ?_)
   refine rR (tR ?_)
   refine bodyPost_ret (results_tmp2 rfl _ _ _) rfl (⟨_, _, rfl, .inr ⟨rfl, rfl, fun m h0 h1 e9 => by have h8 := (hno m h0 h1 e9).2; subst h8; exact hb14 e9.symm⟩, hv⟩)
  refine uG (.bool false) rfl (ex_sneq rfl rfl rfl (qF hb14)) (uW k12 ?_)
  refine cF rfl (kS ?_)
  refine tK k11 (sK fun _ k16 => ?_)
  refine rL (uM rfl ?_)
  refine uA rfl (uA rfl ?_)
  refine uW k16 (rR ?_)
  refine bodyPost_ret (results_tmp2 rfl _ _ _) rfl (⟨_, _, rfl, .inl ⟨rfl, hn.1, hn.2, (Classical.byContradiction fun h9 => hb14 (fun e9 => h9 e9.symm))⟩, hv⟩)
 refine uM rfl (uE rfl ?_)
 refine uE rfl (uA rfl ?_)
 refine uA rfl (uW k6 ?_)
 refine sK fun _ k17 => sK fun _ k18 => rL (uM rfl ?_)
 refine uG (.bool true) rfl (ex_ifaceNe Tryz.underlying194 rfl rfl rfl) (uW k18 ?_)
 refine cT rfl (sK fun _ k19 => ?_)
 refine rL (uA rfl ?_)
 refine uA rfl (uW k19 ?_)
 refine rR (tR ?_)
 refine bodyPost_ret (results_tmp2 rfl _ _ _) rfl (⟨_, _, rfl, .inr ⟨rfl, rfl, fun m h0 h1 e9 => by have := (hno m h0 h1 e9).1; cases this⟩, hv⟩)
end Go.Proofs.YtffnhfkkochnhaaGreatDoor
namespace Go.Pm
open Go.RowKit
section
variable {α : Type} {f : α → List Value} {k : Nat}
theorem rowk_len (hk : ∀ x, (f x).length = k) (l : List α) : (l.flatMap f).length = l.length * k := by
 induction l with
 | nil => simp
 | cons a l ih => rw [List.flatMap_cons, List.length_append, ih, hk, List.length_cons, Nat.succ_mul]; omega
theorem rowk_get (hk : ∀ x, (f x).length = k) {l : List α} {i j : Nat} {x : α} (hx : l[i]? = some x) (hj : j < k) : (l.flatMap f)[i * k + j]? = (f x)[j]? := by
 have hi := (List.getElem?_eq_some_iff.1 hx).1
 have h : l = l.take i ++ x :: l.drop (i + 1) := by
  have h9 := (List.take_append_drop i l).symm
  rw [List.drop_eq_getElem_cons hi, (List.getElem?_eq_some_iff.1 hx).2] at h9
  exact h9
 rw [h, List.flatMap_append, List.flatMap_cons, List.getElem?_append_right (by rw [rowk_len hk, List.length_take, Nat.min_eq_left (by omega)]; omega),
  rowk_len hk, List.length_take, Nat.min_eq_left (by omega), Nat.add_sub_cancel_left, List.getElem?_append_left (by rw [hk]; exact hj)]
theorem rowk_reads (hk : ∀ x, (f x).length = k) (h0 : 0 < k) {B : Base} {l : List α} {ad : Option Addr} {i : Nat} {x : α} (hr : RdV B [] ad (l.flatMap f)) (hx : l[i]? = some x) : ∃ b off, ad = some ⟨b, off, none⟩ ∧ Reads B [] b (off + i * k) (f x) := by
 have hi := (List.getElem?_eq_some_iff.1 hx).1
 have hle : i * k + k ≤ l.length * k := by have := Nat.mul_le_mul_right k (show i + 1 ≤ l.length by omega); rw [Nat.succ_mul] at this; exact this
 exact rdW_reads (k := i * k) (m := k) (hr.rdW []) (by rw [rowk_len hk]; exact hle) h0 (hk x) (fun j hj => (rowk_get hk hx hj).symm)
end
end Go.Pm
namespace Go.Proofs.YtffnhfkkochnhaaGreatDoor
open Go.RowKit Go.Pm
def NumB (B : Base) : Prop := ∀ C H, B.Le C → FormatsInt C H ∧ ParsesAny C H
theorem NumB.more {B C : Base} (h : NumB B) (hB : B.Le C) : NumB C := fun D H hD => h D H (hB.trans hD)
def intCells (l : List Int) : List Value := l.flatMap fun n => [vI n]
theorem int_reads {B : Base} {l : List Int} {ad : Option Addr} {i : Nat} {x : Int} (hr : RdV B [] ad (intCells l)) (hx : l[i]? = some x) : ∃ b off, ad = some ⟨b, off, none⟩ ∧ Reads B [] b (off + i) [vI x] := by
 have := rowk_reads (f := fun n : Int => [vI n]) (k := 1) (fun _ => rfl) (by decide) hr hx
 simpa using this
theorem int_snoc (l : List Int) (x : Int) : intCells l ++ [vI x] = intCells (l ++ [x]) := by simp [intCells]
def IntsR (ts : List (List UInt8)) (ns : List Int) (ec : Int) : Prop := (ec = 0 ∧ ns.length = ts.length ∧ ∀ (i : Nat) t n, ts[i]? = some t → ns[i]? = some n → NumP t n true) ∨ (ec = 41 ∧ ns = [] ∧ ∃ t ∈ ts, NumP t 0 false)
theorem itmk3 : (Tryz.prog.info? 3).map (fun i => (i.zero, i.size, i.bytes)) = some (some (vI 0), 1, 8) := by kernel_rfl
theorem itel148 : Elem Tryz.prog 148 3 (vI 0) 1 8 := elem_of Tryz.underlying148 itmk3 (by rfl) (by decide)
theorem ites22 (w : World) : (sizeOf (Tryz.prog.elem 22)).run Tryz.prog w = .ok 1 w := by kernel_rfl
theorem itna9 (w : World) : (isAgg 9).run Tryz.prog w = .ok false w := by kernel_rfl
theorem itcallable87 : Callable Tryz.prog 87 := cb Tryz.func87 (by kernel_rfl)
theorem viewInts (B : Base) (H : List Res) (w : World) (ta : Option Addr) (tc : Nat) (ts : List (List UInt8)) (hr : RdV B [] ta (textCells ts)) (hm : ts.length ≤ 1000000) (hN : NumB B) (hv : Inv B H w) :
  Calls Tryz.prog 71 #[.slice ta ts.length tc] w fun e w' => ∃ C oa oc ns ec, B.Le C ∧ e = .returned (.tuple #[.slice oa ns.length oc, vI ec]) ∧ RdV C [] oa (intCells ns) ∧ IntsR ts ns ec ∧ Inv C H w' := by
 refine cW Tryz.func71 rfl Tryz.ntmps71 ?_
 simp only [al]
 refine sK fun _ k1 => rL (uA rfl ?_)
 refine uA rfl (uW k1 ?_)
 refine sK fun _ k2 => rL (uM rfl ?_)
 refine uG (vI (ts.length : Int)) rfl (ex_len0 Tryz.underlying22 rfl rfl) ?_
 refine sl_makeRow (cap := ts.length) tV (wn rfl) rfl rfl rfl itel148 (by unfold maxLen; omega) (by omega) hv (fun b3 w4 hv => ?_)
 refine uA rfl (uW k2 ?_)
 refine sK fun _ k5 => sK fun _ k6 => rL (uM rfl ?_)
 refine uG (vI (ts.length : Int)) rfl (ex_len0 Tryz.underlying22 rfl rfl) (uM rfl ?_)
 refine uW k6 (bB ?_)
 gi_loopw [14, 4] (fun x14 x4 wr => ∃ (i : Nat) (ns : List Int) (ra : Option Addr) (rc : Nat), x14 = vI i ∧ x4 = .slice ra ns.length rc ∧ i ≤ ts.length ∧ ns.length = i ∧ (∀ (j : Nat) t n, ts[j]? = some t → ns[j]? = some n → NumP t n true) ∧ Inv B (Res.row 3 1 (.slice ra ns.length rc) ns.length (intCells ns) :: H) wr) (fun x14 x4 _ => ts.length - (intOf x14).toNat)
 case atStart => exact ⟨0, [], _, _, rfl, rfl, Nat.zero_le _, rfl, fun j t n _ h => by simp at h, hv⟩
 case round =>
  obtain ⟨i, ns, ra, rc, rfl, rfl, hi, hnl, hall, hv⟩ := hrel
  refine sK fun _ k8 => rL ?_
  by_cases hb9 : (i : Int) < (ts.length : Int)
  ·refine uG (.bool true) rfl (ex_lss rfl rfl rfl (qT hb9)) (uW k8 ?_)
   refine sK fun _ k10 => cT rfl (kS ?_)
   refine tK k10 (sK fun _ k11 => ?_)
   refine bB (sK fun _ k12 => ?_)
   obtain ⟨x, hx⟩ : ∃ x, ts[i]? = some x := ⟨_, List.getElem?_eq_getElem (show i < ts.length by omega)⟩
   obtain ⟨bb, bo, had, hrdx⟩ := text_reads hr hx
   subst had
   refine rL (uG (.pointer (some ⟨bb, bo + i, none⟩)) rfl (ex_index rfl rfl rfl (run_idx1 (k := i) Tryz.underlying22 ites22 (by omega))) ?_)
   refine uL _ rfl (run_load1 itna9 (hrdx _ _ _ (Base.Le.refl _) no_res hv 0 _ rfl)) (uA rfl ?_)
   refine uW k12 (sK fun _ k13 => ?_)
   refine rL (uM rfl ?_)
   refine xC itcallable87 rfl ((numParseAny B _ (hN B _ (Base.Le.refl _)).1 (hN B _ (Base.Le.refl _)).2 _ x hv).mono ?_) rfl
   rintro e w14 ⟨n, b, rfl, hnp, hv⟩
   refine ⟨_, rfl, ?_⟩
   cases b
   ·refine uM rfl (uE rfl ?_)
    refine uE rfl (uA rfl ?_)
    refine uA rfl (uW k13 ?_)
    refine sK fun _ k15 => sK fun _ k16 => rL (uM rfl ?_)
    refine uG (.bool true) rfl (ex_not rfl rfl rfl) (uW k16 ?_)
    refine cT rfl (sK fun _ k17 => ?_)
    refine rL (uA rfl ?_)
    refine uA rfl (uW k17 ?_)
    refine rR (tR ?_)
    refine bZ (tR ?_)
    refine tR (bZ ?_)
    refine tR (bodyPost_ret (results_tmp2 rfl _ _ _) rfl ?_)
    obtain rfl : n = 0 := hnp.elim (fun h => absurd h.1 (by decide)) (fun h => h.2.1)
    exact ⟨B, none, 0, [], 41, Base.Le.refl _, rfl, rdV_nil, .inr ⟨rfl, rfl, x, List.mem_of_getElem? hx, hnp⟩, (hv.kp [] 0 1)⟩
   refine uM rfl (uE rfl ?_)
   refine uE rfl (uA rfl ?_)
   refine uA rfl (uW k13 ?_)
   refine sK fun _ k18 => sK fun _ k19 => rL (uM rfl ?_)
   refine uG (.bool false) rfl (ex_not rfl rfl rfl) (uW k19 ?_)
   refine cF rfl (kS ?_)
   refine tK k18 (rL ?_)
   refine uM rfl (uM rfl ?_)
   refine sl_rowOne (v := vI n) tV (wn rfl) rfl rfl hv itel148 rfl (fun b20 w21 hv => ?_)
   simp only [zP, po]
   replace hv := hv.front 1 rfl
   simp only [eS, eZ] at hv
   refine sl_append (news := [vI n]) tV (wn rfl) rfl rfl rfl itel148 hv (ok_full (by omega)) rfl (rd_all (hv.get 1 rfl)) (by intro u hu; simp only [List.mem_cons, List.not_mem_nil, or_false] at hu; rcases hu with rfl <;> rfl) (by unfold maxLen; omega) (by omega) (fun rv22 w25 hv => ?_)
   obtain ⟨ra23, rc24, rfl⟩ := row_slice hv.head
   refine uA rfl (uZ ?_)
   refine bN (tK k11 ?_)
   refine rL (uG (vI ((i + 1 : Nat) : Int)) rfl (ex_add rfl rfl rfl (by rw [i64_in (by omega)]; omega)) ?_)
   refine uM rfl (uZ ?_)
   refine then_normal ?_
   go_roundw
   case rel => exact ⟨i + 1, ns ++ [n], _, _, rfl, by rw [List.length_append, List.length_singleton], by omega, by rw [List.length_append, List.length_singleton, hnl], fun j t' n' ht' hn' => (by
      rcases Nat.lt_or_ge j ns.length with h | h
      ·rw [List.getElem?_append_left h] at hn'; exact hall j t' n' ht' hn'
      have hj := (List.getElem?_eq_some_iff.1 hn').1
      rw [List.length_append, List.length_singleton] at hj
      obtain rfl : j = ns.length := by omega
      rw [List.getElem?_append_right (Nat.le_refl _), Nat.sub_self] at hn'
      rw [hnl, hx] at ht'
      cases ht'; cases hn'; exact hnp), by rw [List.length_append, List.length_singleton, ← int_snoc]; exact (hv.kp [] 1 1)⟩
   case measure => show ts.length - (((i + 1 : Nat) : Int)).toNat < ts.length - ((i : Int)).toNat; omega
  refine uG (.bool false) rfl (ex_lss rfl rfl rfl (qF hb9)) (uW k8 ?_)
  refine sK fun _ k26 => cF rfl (xE ?_)
  refine tX (tX ?_)
  refine bH (tK k5 ?_)
  refine sK fun _ k27 => rL (uM rfl ?_)
  refine uA rfl (uA rfl ?_)
  refine uW k27 (rR ?_)
  refine bodyPost_ret (results_tmp2 rfl _ _ _) rfl ?_
  obtain rfl : i = ts.length := by omega
  obtain ⟨D, hD, hv, hro, hoko, -⟩ := (hv).rowBy
  exact ⟨D, ra, rc, ns, 0, hD, rfl, hro, .inl ⟨rfl, hnl, hall⟩, hv⟩
def fitsI (n : Int) : Prop := -9223372036854775808 ≤ n ∧ n ≤ 9223372036854775807
instance (n : Int) : Decidable (fitsI n) := inferInstanceAs (Decidable (_ ∧ _))
def addF (a : Int) : List Int → Option Int
 | [] => some a
 | b :: bs => if fitsI (a + b) then addF (a + b) bs else none
theorem addF_at {bs : List Int} {i : Nat} {b s : Int} {r : Option Int} (h : r = addF s (bs.drop i)) (hb : bs[i]? = some b) : r = if fitsI (s + b) then addF (s + b) (bs.drop (i + 1)) else none := by
 obtain ⟨hi, rfl⟩ := List.getElem?_eq_some_iff.1 hb
 rw [h, List.drop_eq_getElem_cons hi]; rfl
theorem addF_one {a b : Int} : addF a [b] = if fitsI (a + b) then some (a + b) else none := rfl
theorem ndes148 (w : World) : (sizeOf (Tryz.prog.elem 148)).run Tryz.prog w = .ok 1 w := by kernel_rfl
theorem ndna3 (w : World) : (isAgg 3).run Tryz.prog w = .ok false w := by kernel_rfl
theorem numAdd (B : Base) (H : List Res) (w : World) (a : Int) (ha : -9223372036854775808 ≤ a ∧ a ≤ 9223372036854775807) (ba : Option Addr) (bc : Nat) (bs : List Int) (hrb : RdV B [] ba (intCells bs)) (hm : bs.length ≤ 1000000) (hbs : ∀ b ∈ bs, -9223372036854775808 ≤ b ∧ b ≤ 9223372036854775807) (hv : Inv B H w) :
  Calls Tryz.prog 88 #[vI a, .slice ba bs.length bc] w fun e w' => ∃ r ok, e = .returned (.tuple #[vI r, .bool ok]) ∧ ((ok = true ∧ (-9223372036854775808 ≤ r ∧ r ≤ 9223372036854775807) ∧ addF a bs = some r) ∨ (ok = false ∧ addF a bs = none)) ∧ Inv B H w' := by
 refine cW Tryz.func88 rfl Tryz.ntmps88 ?_
 simp only [al]
 refine sK fun _ k1 => rL (uA rfl ?_)
 refine uA rfl (uW k1 ?_)
 refine sK fun _ k2 => rL (uM rfl ?_)
 refine uA rfl (uW k2 ?_)
 refine sK fun _ k3 => sK fun _ k4 => rL (uM rfl ?_)
 refine uG (vI (bs.length : Int)) rfl (ex_len0 Tryz.underlying148 rfl rfl) (uM rfl ?_)
 refine uW k4 (bB ?_)
 gi_loopw [6, 12] (fun x6 x12 wr => ∃ (i : Nat) (s : Int), x6 = vI s ∧ x12 = vI i ∧ i ≤ bs.length ∧ (-9223372036854775808 ≤ s ∧ s ≤ 9223372036854775807) ∧ addF a bs = addF s (bs.drop i) ∧ Inv B H wr) (fun x6 x12 _ => bs.length - (intOf x12).toNat)
 case atStart => exact ⟨0, a, rfl, rfl, Nat.zero_le _, ha, rfl, hv⟩
 case round =>
  obtain ⟨i, s, rfl, rfl, hi, hs, hsum, hv⟩ := hrel
  refine sK fun _ k6 => rL ?_
  by_cases hb7 : (i : Int) < (bs.length : Int)
  ·refine uG (.bool true) rfl (ex_lss rfl rfl rfl (qT hb7)) (uW k6 ?_)
   refine sK fun _ k8 => cT rfl (kS ?_)
   refine tK k8 (sK fun _ k9 => ?_)
   refine bB (sK fun _ k10 => ?_)
   obtain ⟨b, hb⟩ : ∃ x, bs[i]? = some x := ⟨_, List.getElem?_eq_getElem (show i < bs.length by omega)⟩
   have hbf : -9223372036854775808 ≤ b ∧ b ≤ 9223372036854775807 := hbs b (List.mem_of_getElem? hb)
   obtain ⟨ib, io, had, hrdb⟩ := int_reads hrb hb
   subst had
   refine rL (uG (.pointer (some ⟨ib, io + i, none⟩)) rfl (ex_index rfl rfl rfl (run_idx1 (k := i) Tryz.underlying148 ndes148 (by omega))) ?_)
   refine uL _ rfl (run_load1 ndna3 (hrdb _ _ _ (Base.Le.refl _) no_res hv 0 _ rfl)) (uA rfl ?_)
   refine uW k10 (sK fun _ k11 => ?_)
   refine sK fun _ k12 => rL (uM rfl ?_)
   by_cases hb13 : b > 0
   ·refine uG (.bool true) rfl (ex_gtr rfl rfl rfl (qT hb13)) (uM rfl ?_)
    refine uM rfl ?_
    refine uM rfl ?_
    refine uG (vI (9223372036854775807 - b)) rfl (ex_sub rfl rfl rfl (i64_in (by omega))) ?_
    by_cases hb14 : s > (9223372036854775807 - b)
    ·refine uG (.bool true) rfl (ex_gtr rfl rfl rfl (qT hb14)) (uK rfl ?_)
     refine uW k12 (cT rfl ?_)
     refine sK fun _ k15 => rL (uA rfl ?_)
     refine uA rfl (uW k15 ?_)
     refine rR (tR ?_)
     refine bZ (tR ?_)
     refine tR (bZ ?_)
     refine tR (bodyPost_ret (results_tmp2 rfl _ _ _) rfl ?_)
     exact ⟨0, false, rfl, .inr ⟨rfl, by rw [addF_at hsum hb, if_neg (fun h9 : fitsI (s + b) => by have h8 := h9.1; have h7 := h9.2; omega)]⟩, hv⟩
    refine uG (.bool false) rfl (ex_gtr rfl rfl rfl (qF hb14)) (uK rfl ?_)
    refine uW k12 (cF rfl ?_)
    refine kS (tK k11 ?_)
    refine sK fun _ k16 => sK fun _ k17 => rL (uM rfl ?_)
    by_cases hb18 : b < 0
    ·refine uG (.bool true) rfl (ex_lss rfl rfl rfl (qT hb18)) (uM rfl ?_)
     refine uM rfl ?_
     refine uM rfl ?_
     refine uG (vI ((-9223372036854775808) - b)) rfl (ex_sub rfl rfl rfl (i64_in (by omega))) ?_
     by_cases hb19 : s < ((-9223372036854775808) - b)
     ·refine uG (.bool true) rfl (ex_lss rfl rfl rfl (qT hb19)) (uK rfl ?_)
      refine uW k17 (cT rfl ?_)
      refine sK fun _ k20 => rL (uA rfl ?_)
      refine uA rfl (uW k20 ?_)
      refine rR (tR ?_)
      refine bZ (tR ?_)
      refine tR (bZ ?_)
      refine tR (bodyPost_ret (results_tmp2 rfl _ _ _) rfl ?_)
      exact ⟨0, false, rfl, .inr ⟨rfl, by rw [addF_at hsum hb, if_neg (fun h9 : fitsI (s + b) => by have h8 := h9.1; have h7 := h9.2; omega)]⟩, hv⟩
     refine uG (.bool false) rfl (ex_lss rfl rfl rfl (qF hb19)) (uK rfl ?_)
     refine uW k17 (cF rfl ?_)
     refine kS (tK k16 ?_)
     refine rL (uM rfl ?_)
     refine uM rfl ?_
     refine uG (vI (s + b)) rfl (ex_add rfl rfl rfl (i64_in (by omega))) (uA rfl ?_)
     refine uZ (bN ?_)
     refine tK k9 (rL ?_)
     refine uG (vI ((i + 1 : Nat) : Int)) rfl (ex_add rfl rfl rfl (by rw [i64_in (by omega)]; omega)) (uM rfl ?_)
     refine uZ (then_normal ?_)
     go_roundw
     case rel => exact ⟨i + 1, s + b, rfl, rfl, by omega, by omega, by rw [addF_at hsum hb, if_pos (show fitsI (s + b) from ⟨by omega, by omega⟩)], hv⟩
     case measure => show bs.length - (((i + 1 : Nat) : Int)).toNat < bs.length - ((i : Int)).toNat; omega
    refine uG (.bool false) rfl (ex_lss rfl rfl rfl (qF hb18)) (uM rfl ?_)
    iterate 4 refine uP rfl ?_
    refine uK rfl (uW k17 ?_)
    refine cF rfl (kS ?_)
    refine tK k16 (rL ?_)
    refine uM rfl (uM rfl ?_)
    refine uG (vI (s + b)) rfl (ex_add rfl rfl rfl (i64_in (by omega))) (uA rfl ?_)
    refine uZ (bN ?_)
    refine tK k9 (rL ?_)
    refine uG (vI ((i + 1 : Nat) : Int)) rfl (ex_add rfl rfl rfl (by rw [i64_in (by omega)]; omega)) (uM rfl ?_)
    refine uZ (then_normal ?_)
    go_roundw
    case rel => exact ⟨i + 1, s + b, rfl, rfl, by omega, by omega, by rw [addF_at hsum hb, if_pos (show fitsI (s + b) from ⟨by omega, by omega⟩)], hv⟩
    case measure => show bs.length - (((i + 1 : Nat) : Int)).toNat < bs.length - ((i : Int)).toNat; omega
   refine uG (.bool false) rfl (ex_gtr rfl rfl rfl (qF hb13)) (uM rfl ?_)
   iterate 4 refine uP rfl ?_
   refine uK rfl (uW k12 ?_)
   refine cF rfl (kS ?_)
   refine tK k11 (sK fun _ k21 => ?_)
   refine sK fun _ k22 => rL (uM rfl ?_)
   by_cases hb23 : b < 0
   ·refine uG (.bool true) rfl (ex_lss rfl rfl rfl (qT hb23)) (uM rfl ?_)
    refine uM rfl ?_
    refine uM rfl ?_
    refine uG (vI ((-9223372036854775808) - b)) rfl (ex_sub rfl rfl rfl (i64_in (by omega))) ?_
    by_cases hb24 : s < ((-9223372036854775808) - b)
    ·refine uG (.bool true) rfl (ex_lss rfl rfl rfl (qT hb24)) (uK rfl ?_)
     refine uW k22 (cT rfl ?_)
     refine sK fun _ k25 => rL (uA rfl ?_)
     refine uA rfl (uW k25 ?_)
     refine rR (tR ?_)
     refine bZ (tR ?_)
     refine tR (bZ ?_)
     refine tR (bodyPost_ret (results_tmp2 rfl _ _ _) rfl ?_)
     exact ⟨0, false, rfl, .inr ⟨rfl, by rw [addF_at hsum hb, if_neg (fun h9 : fitsI (s + b) => by have h8 := h9.1; have h7 := h9.2; omega)]⟩, hv⟩
    refine uG (.bool false) rfl (ex_lss rfl rfl rfl (qF hb24)) (uK rfl ?_)
    refine uW k22 (cF rfl ?_)
    refine kS (tK k21 ?_)
    refine rL (uM rfl ?_)
    refine uM rfl ?_
    refine uG (vI (s + b)) rfl (ex_add rfl rfl rfl (i64_in (by omega))) (uA rfl ?_)
    refine uZ (bN ?_)
    refine tK k9 (rL ?_)
    refine uG (vI ((i + 1 : Nat) : Int)) rfl (ex_add rfl rfl rfl (by rw [i64_in (by omega)]; omega)) (uM rfl ?_)
    refine uZ (then_normal ?_)
    go_roundw
    case rel => exact ⟨i + 1, s + b, rfl, rfl, by omega, by omega, by rw [addF_at hsum hb, if_pos (show fitsI (s + b) from ⟨by omega, by omega⟩)], hv⟩
    case measure => show bs.length - (((i + 1 : Nat) : Int)).toNat < bs.length - ((i : Int)).toNat; omega
   refine uG (.bool false) rfl (ex_lss rfl rfl rfl (qF hb23)) (uM rfl ?_)
   iterate 4 refine uP rfl ?_
   refine uK rfl (uW k22 ?_)
   refine cF rfl (kS ?_)
   refine tK k21 (rL ?_)
   refine uM rfl (uM rfl ?_)
   refine uG (vI (s + b)) rfl (ex_add rfl rfl rfl (i64_in (by omega))) (uA rfl ?_)
   refine uZ (bN ?_)
   refine tK k9 (rL ?_)
   refine uG (vI ((i + 1 : Nat) : Int)) rfl (ex_add rfl rfl rfl (by rw [i64_in (by omega)]; omega)) (uM rfl ?_)
   refine uZ (then_normal ?_)
   go_roundw
   case rel => exact ⟨i + 1, s + b, rfl, rfl, by omega, by omega, by rw [addF_at hsum hb, if_pos (show fitsI (s + b) from ⟨by omega, by omega⟩)], hv⟩
   case measure => show bs.length - (((i + 1 : Nat) : Int)).toNat < bs.length - ((i : Int)).toNat; omega
  refine uG (.bool false) rfl (ex_lss rfl rfl rfl (qF hb7)) (uW k6 ?_)
  refine sK fun _ k26 => cF rfl (xE ?_)
  refine tX (tX ?_)
  refine bH (tK k3 ?_)
  refine sK fun _ k27 => rL (uM rfl ?_)
  refine uA rfl (uA rfl ?_)
  refine uW k27 (rR ?_)
  refine bodyPost_ret (results_tmp2 rfl _ _ _) rfl ?_
  obtain rfl : i = bs.length := by omega
  rw [List.drop_length] at hsum
  exact ⟨s, true, rfl, .inl ⟨rfl, hs, hsum⟩, hv⟩
theorem hashOk_iff {h : List Pr} : HashOk h ↔ h.length ≤ 512 ∧ (∀ p ∈ h, p.1.length ≤ 4096 ∧ p.2.length ≤ 4096) ∧ SortedH h := by
 constructor
 ·rintro ⟨h1, h2⟩
  refine ⟨h1, fun x hx => ?_, ?_⟩
  ·obtain ⟨i, hi⟩ := List.mem_iff_getElem?.1 hx
   exact (h2 i x hi).1
  have step : ∀ (i : Nat) x y, h[i]? = some x → h[i + 1]? = some y → Op.bytesLess x.1 y.1 = true := fun i x y hx hy => (h2 (i + 1) y hy).2 i x rfl hx
  have far : ∀ (d i : Nat) x y, h[i]? = some x → h[i + d + 1]? = some y → Op.bytesLess x.1 y.1 = true := by
   intro d
   induction d with
   | zero => intro i x y hx hy; exact step i x y hx hy
   | succ d ih =>
    intro i x y hx hy
    obtain ⟨z, hz⟩ : ∃ z, h[i + d + 1]? = some z := ⟨_, List.getElem?_eq_getElem (by have := (List.getElem?_eq_some_iff.1 hy).1; omega)⟩
    exact lt_trans _ _ _ (ih i x z hx hz) (step (i + d + 1) z y hz hy)
  refine List.pairwise_iff_getElem.2 fun i j hi hj hij => ?_
  simp only [List.length_map] at hi hj
  rw [List.getElem_map, List.getElem_map]
  refine far (j - i - 1) i _ _ (List.getElem?_eq_getElem hi) ?_
  rw [show i + (j - i - 1) + 1 = j by omega]; exact List.getElem?_eq_getElem hj
 rintro ⟨h1, h2, h3⟩
 exact ⟨h1, fun i x hx => ⟨h2 x (List.mem_of_getElem? hx), fun j y hj hy => h3.at_ (show j < i by omega) hy hx⟩⟩
section
variable {M M' : List (List UInt8 × Ver)} {clk exp ec : Int} {key : List UInt8} {x : Val} {y : Ver}
theorem valOk2 {v : Val} (h : ValOk v) (hk : v.kind = 2) : HashOk v.pairs ∧ 0 < v.pairs.length := by
 rcases h with ⟨h1, -⟩ | ⟨h1, h2, h3, -⟩ | ⟨h1, -⟩ | ⟨h1, -⟩ | ⟨h1, -⟩
 ·omega
 ·exact ⟨h3, h2⟩
 ·omega
 ·omega
 omega
theorem OkM.hash (h : OkM M) (ho : OfI M clk key 2 y ec) : HashOk y.val.pairs := by
 rcases ho with ⟨-, rfl, -⟩ | ⟨-, rfl, -⟩ | ⟨-, h1, h2, h3⟩
 ·exact ⟨Nat.zero_le _, fun i x hx => by simp [zver0] at hx⟩
 ·exact ⟨Nat.zero_le _, fun i x hx => by simp [zver0] at hx⟩
 exact (valOk2 (h.alive h1 h2).2.1 h3).1
theorem OkM.hsorted (h : OkM M) (ho : OfI M clk key 2 y ec) : SortedH y.val.pairs := (hashOk_iff.1 (h.hash ho)).2.2
end
def hashV (h : List Pr) : Val := ⟨2, [], h, [], []⟩
def FitP (p : Pr) : Prop := p.1.length ≤ 4096 ∧ p.2.length ≤ 4096
def SetHI (h ps out : List Pr) (n ec : Int) : Prop :=
 (ec ≠ 0 ∧ out = [] ∧ n = 0 ∧ ((∃ p ∈ ps, ¬ FitP p) ∨ 512 < (setsH h ps).length)) ∨ (ec = 0 ∧ (∀ p ∈ ps, FitP p) ∧ out = setsH h ps ∧ out.length ≤ 512 ∧ n = (out.length : Int) - h.length)
def HSetR (M : List (List UInt8 × Ver)) (clk : Int) (key : List UInt8) (ps : List Pr) (M' : List (List UInt8 × Ver)) (r : Rp) : Prop :=
 ∃ y ec, OfI M clk key 2 y ec ∧ ((ec ≠ 0 ∧ M' = M ∧ IsF r) ∨ (ec = 0 ∧ ∃ out n e2, SetHI y.val.pairs ps out n e2 ∧ ((e2 ≠ 0 ∧ M' = M ∧ IsF r) ∨ (e2 = 0 ∧ ∃ e3, KeepI M clk key (hashV out) y.expire e3 M' ∧ DoneR e3 (rInt n) r))))
def HDelR (M : List (List UInt8 × Ver)) (clk : Int) (key : List UInt8) (fs : List (List UInt8)) (M' : List (List UInt8 × Ver)) (r : Rp) : Prop :=
 ∃ y ec, OfI M clk key 2 y ec ∧ ((ec ≠ 0 ∧ M' = M ∧ IsF r) ∨ (ec = 0 ∧ ∃ n : Int, n = (y.val.pairs.length : Int) - (delH y.val.pairs fs).length ∧ ((n = 0 ∧ M' = M ∧ r = rInt 0) ∨ (n ≠ 0 ∧ ∃ e3, KeepI M clk key (hashV (delH y.val.pairs fs)) y.expire e3 M' ∧ DoneR e3 (rInt n) r))))
def flatH (h : List Pr) : List (List UInt8) := h.flatMap fun p => [p.1, p.2]
def HAllR (M : List (List UInt8 × Ver)) (clk : Int) (key : List UInt8) (M' : List (List UInt8 × Ver)) (r : Rp) : Prop :=
 M' = M ∧ ∃ y ec, OfI M clk key 2 y ec ∧ ((ec ≠ 0 ∧ IsF r) ∨ (ec = 0 ∧ r = rStrs (flatH y.val.pairs)))
def IncrI (s : List UInt8) (by_ sum ec : Int) : Prop := (ec ≠ 0 ∧ ((s ≠ [] ∧ NumP s 0 false) ∨ ∃ n, ((s = [] ∧ n = 0) ∨ NumP s n true) ∧ ¬ fitsI (n + by_))) ∨ (ec = 0 ∧ fitsI sum ∧ ∃ n, ((s = [] ∧ n = 0) ∨ NumP s n true) ∧ sum = n + by_)
def HIncR (M : List (List UInt8 × Ver)) (clk : Int) (key f by_ : List UInt8) (M' : List (List UInt8 × Ver)) (r : Rp) : Prop :=
 (NumP by_ 0 false ∧ M' = M ∧ IsF r) ∨ ∃ b, NumP by_ b true ∧ ∃ y ec, OfI M clk key 2 y ec ∧ ((ec ≠ 0 ∧ M' = M ∧ IsF r) ∨ (ec = 0 ∧ ((getH y.val.pairs f = some [] ∧ M' = M ∧ IsF r) ∨ (getH y.val.pairs f ≠ some [] ∧ ∃ sum e1, IncrI ((getH y.val.pairs f).getD []) b sum e1 ∧
  ((e1 ≠ 0 ∧ M' = M ∧ IsF r) ∨ (e1 = 0 ∧ ∃ out n e2, SetHI y.val.pairs [(f, Lib.itoa sum)] out n e2 ∧ ((e2 ≠ 0 ∧ M' = M ∧ IsF r) ∨ (e2 = 0 ∧ ∃ e3, KeepI M clk key (hashV out) y.expire e3 M' ∧ DoneR e3 (rInt sum) r))))))))
section
variable {M M' : List (List UInt8 × Ver)} {clk : Int} {key f by_ : List UInt8} {ps : List Pr} {fs : List (List UInt8)} {r : Rp}
theorem HIncR.cmd (hM : OkM M) (h : HIncR M clk key f by_ M' r) : CmdR M M' r := by
 rcases h with ⟨-, rfl, -⟩ | ⟨b, -, y, ec, -, ⟨-, rfl, -⟩ | ⟨-, ⟨-, rfl, -⟩ | ⟨-, sum, e1, -, ⟨-, rfl, -⟩ | ⟨-, out, n, e2, -, ⟨-, rfl, -⟩ | ⟨-, e3, hk, hd⟩⟩⟩⟩⟩
 ·exact ⟨hM, fun _ => rfl⟩
 ·exact ⟨hM, fun _ => rfl⟩
 ·exact ⟨hM, fun _ => rfl⟩
 ·exact ⟨hM, fun _ => rfl⟩
 ·exact ⟨hM, fun _ => rfl⟩
 exact hd.keep hM hk isF_int
end
abbrev kH : List UInt8 := [104]
structure HasH (M : List (List UInt8 × Ver)) (h : List Pr) : Prop where
 so : SortedH h
 at_ : (h = [] ∧ DeadM M 0 kH) ∨ (h ≠ [] ∧ lookA M kH = some ⟨0, false, 0, hashV h⟩)
 no : ∀ k, k ≠ kH → lookA M k = none
 one : M = [] ∨ ∃ v, M = [(kH, v)]
theorem upd_kH {M : List (List UInt8 × Ver)} (h : M = [] ∨ ∃ v, M = [(kH, v)]) (v : Ver) : updA M kH v = [] ∨ ∃ u, updA M kH v = [(kH, u)] := by
 rcases h with rfl | ⟨u, rfl⟩
 ·exact .inr ⟨v, rfl⟩
 exact .inr ⟨v, by unfold updA; rw [if_pos rfl]⟩
theorem HasH.short {M : List (List UInt8 × Ver)} {h : List Pr} (hs : HasH M h) : ∀ k ∈ M.map (·.1), k.length ≤ 256 := fun k hk => by
 rcases hs.one with rfl | ⟨u, rfl⟩
 ·cases hk
 rw [List.mem_singleton.1 hk]; exact show kH.length ≤ 256 by decide
theorem HasH.few {M : List (List UInt8 × Ver)} {h : List Pr} (hs : HasH M h) : M.length ≤ 1 := by
 rcases hs.one with rfl | ⟨u, rfl⟩
 ·exact Nat.zero_le _
 exact Nat.le_refl _
section
variable {M M' : List (List UInt8 × Ver)} {h : List Pr} {y : Ver} {ec : Int} {r : Rp} {ps out : List Pr} {fs : List (List UInt8)}
theorem HasH.nil : HasH [] [] := ⟨List.Pairwise.nil, .inl ⟨rfl, fun y h => by cases h⟩, fun k _ => rfl, .inl rfl⟩
theorem HasH.of_ (hs : HasH M h) (ho : OfI M 0 kH 2 y ec) : ec = 0 ∧ y.val.pairs = h ∧ y.expire = 0 := by
 rcases hs.at_ with ⟨h1, h2⟩ | ⟨h1, h2⟩
 ·rcases ho with ⟨h3, rfl, -⟩ | ⟨-, -, z, h3, h4, -⟩ | ⟨-, h3, h4, -⟩
  ·exact ⟨h3, by rw [h1]; rfl, rfl⟩
  ·rw [h2 z h3] at h4; cases h4
  rw [h2 y h3] at h4; cases h4
 rcases ho with ⟨-, -, h3⟩ | ⟨-, -, z, h3, -, h5⟩ | ⟨h0, h3, -, -⟩
 ·have := h3 _ h2; cases this
 ·rw [h2] at h3; cases h3; exact absurd rfl h5
 rw [h2] at h3; cases h3; exact ⟨h0, rfl, rfl⟩
theorem HasH.keep (hs : HasH M h) (hO : HashOk out) (hk : KeepI M 0 kH (hashV out) 0 ec M') : ec = 0 ∧ HasH M' out := by
 have hso := (hashOk_iff.1 hO).2.2
 have hfull : out ≠ [] → FullV (hashV out) := fun h9 => .inr (by have := List.length_pos_iff.2 h9; show 0 < out.length + 0 + 0; omega)
 have hnot : ¬ FullV (hashV out) → out = [] := fun h9 => Classical.byContradiction fun h8 => h9 (hfull h8)
 have hne : FullV (hashV out) → out ≠ [] := by
  rintro (h9 | h9) rfl
  ·exact absurd h9 (by decide)
  exact absurd h9 (by decide)
 have no : ∀ (v : Ver) k, k ≠ kH → lookA (updA M kH v) k = none := fun v k hn => by rw [look_upd, if_neg (Ne.symm hn)]; exact hs.no k hn
 rcases hk with ⟨h1, -, h3, rfl⟩ | ⟨h1, h2, -⟩ | ⟨h1, h2, h3, rfl⟩ | ⟨h1, -, ⟨-, h4, rfl⟩ | ⟨h4, -⟩⟩
 ·exact ⟨h3, hso, .inr ⟨hne h1, by rw [look_upd, if_pos rfl]⟩, no _, upd_kH hs.one _⟩
 ·exact absurd ⟨by decide, .inr (.inl ⟨rfl, List.length_pos_iff.2 (hne h1), hO, rfl, rfl, rfl⟩), Int.le_refl _, by decide⟩ h2
 ·obtain rfl := hnot h1
  exact ⟨h3, List.Pairwise.nil, .inl ⟨rfl, h2⟩, hs.no, hs.one⟩
 ·obtain rfl := hnot h1
  refine ⟨h4, List.Pairwise.nil, .inl ⟨rfl, fun y hy => ?_⟩, no _, upd_kH hs.one _⟩
  rw [look_upd, if_pos rfl] at hy; cases hy; rfl
 exact absurd h4 (by decide)
theorem done_eq {r0 : Rp} (he : ec = 0) (hd : DoneR ec r0 r) : r = r0 := hd.elim (fun h9 => h9.2) fun h9 => absurd he h9.1
theorem setsH_mem : ∀ (ps h : List Pr) (q : Pr), q ∈ setsH h ps → q ∈ ps ∨ q ∈ h
 | [], h, q, hq => .inr hq
 | p :: ps, h, q, hq => by
  rcases setsH_mem ps (insH h p.1 p.2) q hq with h1 | h1
  ·exact .inl (List.mem_cons_of_mem _ h1)
  exact (insH_mem h1).imp (fun e => by rw [e]; exact List.mem_cons_self) id
theorem setsH_len : ∀ (ps h : List Pr), h.length ≤ (setsH h ps).length ∧ (setsH h ps).length ≤ h.length + ps.length
 | [], h => ⟨Nat.le_refl _, Nat.le_refl _⟩
 | p :: ps, h => by
  have h1 := setsH_len ps (insH h p.1 p.2)
  have h2 := insH_len (h := h) (f := p.1) (t := p.2)
  have e : setsH h (p :: ps) = setsH (insH h p.1 p.2) ps := rfl
  rw [e, List.length_cons]
  omega
theorem HasH.set (hs : HasH M h) (hl : h.length + ps.length ≤ 512) (hf : ∀ p ∈ h, FitP p) (hp : ∀ p ∈ ps, FitP p) (hr : HSetR M 0 kH ps M' r) : HasH M' (setsH h ps) ∧ r = rInt (((setsH h ps).length : Int) - h.length) := by
 obtain ⟨y, e0, ho, hr⟩ := hr
 obtain ⟨rfl, hy, hx⟩ := hs.of_ ho
 have hlen := setsH_len ps h
 rcases hr with ⟨h1, -⟩ | ⟨-, out, n, e2, h2, hr⟩
 ·exact absurd rfl h1
 rw [hy] at h2
 rcases h2 with ⟨-, -, -, ⟨p, h3, h4⟩ | h3⟩ | ⟨rfl, -, rfl, -, rfl⟩
 ·exact absurd (hp p h3) h4
 ·omega
 rcases hr with ⟨h1, -⟩ | ⟨-, e3, hk, hd⟩
 ·exact absurd rfl h1
 rw [hx] at hk
 obtain ⟨h5, h6⟩ := hs.keep (hashOk_iff.2 ⟨by omega, fun q hq => (setsH_mem ps h q hq).elim (hp q) (hf q), setsH_sorted hs.so ps⟩) hk
 exact ⟨h6, done_eq h5 hd⟩
theorem delH_sub {q : Pr} (hq : q ∈ delH h fs) : q ∈ h := (List.mem_filter.1 hq).1
theorem delH_len : (delH h fs).length ≤ h.length := List.length_filter_le _ _
theorem HasH.del (hs : HasH M h) (hl : h.length ≤ 512) (hf : ∀ p ∈ h, FitP p) (hr : HDelR M 0 kH fs M' r) : HasH M' (delH h fs) ∧ r = rInt ((h.length : Int) - (delH h fs).length) := by
 obtain ⟨y, e0, ho, hr⟩ := hr
 obtain ⟨rfl, hy, hx⟩ := hs.of_ ho
 have hlen := delH_len (h := h) (fs := fs)
 rcases hr with ⟨h1, -⟩ | ⟨-, n, hn, hr⟩
 ·exact absurd rfl h1
 rw [hy] at hn hr
 rcases hr with ⟨h1, rfl, rfl⟩ | ⟨-, e3, hk, hd⟩
 ·have e : delH h fs = h := List.Sublist.eq_of_length List.filter_sublist (show (delH h fs).length = h.length by omega)
  rw [e]
  exact ⟨hs, by congr 1; omega⟩
 rw [hx] at hk
 obtain ⟨h5, h6⟩ := hs.keep (hashOk_iff.2 ⟨by omega, fun q hq => hf q (delH_sub hq), hs.so.del fs⟩) hk
 exact ⟨h6, by rw [done_eq h5 hd, hn]⟩
theorem HasH.all (hs : HasH M h) (hr : HAllR M 0 kH M' r) : M' = M ∧ r = rStrs (flatH h) := by
 obtain ⟨hM, y, e0, ho, hr⟩ := hr
 obtain ⟨rfl, hy, -⟩ := hs.of_ ho
 rcases hr with ⟨h1, -⟩ | ⟨-, h1⟩
 ·exact absurd rfl h1
 exact ⟨hM, by rw [h1, hy]⟩
end
open Go.Sort
section
variable {h ps : List Pr} {f t : List UInt8} {fs : List (List UInt8)} {i : Nat} {p : Pr}
-- set
theorem setsH_app (a b : List Pr) : setsH h (a ++ b) = setsH (setsH h a) b := by unfold setsH; rw [List.foldl_append]
theorem setsH_ge (ps : List Pr) : ∀ h : List Pr, h.length ≤ (setsH h ps).length := by
 induction ps with
 | nil => exact fun h => Nat.le_refl _
 | cons p ps ih =>
  intro h
  have h1 := ih (insH h p.1 p.2)
  have h2 := insH_len (h := h) (f := p.1) (t := p.2)
  show h.length ≤ (setsH (insH h p.1 p.2) ps).length
  omega
theorem setsH_more (h ps : List Pr) (i : Nat) : (setsH h (ps.take i)).length ≤ (setsH h ps).length := by
 conv => rhs; rw [← List.take_append_drop i ps, setsH_app]
 exact setsH_ge _ _
theorem _root_.Go.Pm.UptoH.set_len (hs : SortedH h) (hu : UptoH h f i) (hp : h[i]? = some p) (he : p.1 = f) : (insH h f t).length = h.length := by rw [hu.set hs hp he, List.length_set]
theorem _root_.Go.Pm.UptoH.ins_len (hs : SortedH h) (hu : UptoH h f i) (hn : ∀ p, h[i]? = some p → p.1 ≠ f) : (insH h f t).length = h.length + 1 := by
 rw [hu.ins hs hn, List.length_append, List.length_cons, List.length_take, List.length_drop]
 have := hu.1; omega
theorem pairCells_app (a b : List Pr) : pairCells (a ++ b) = pairCells a ++ pairCells b := by unfold pairCells; rw [List.flatMap_append]
theorem pairCells_split (h : List Pr) (i : Nat) : pairCells h = pairCells (h.take i) ++ pairCells (h.drop i) := by rw [← pairCells_app, List.take_append_drop]
theorem pairCells_ins (hs : SortedH h) (hu : UptoH h f i) (hn : ∀ p, h[i]? = some p → p.1 ≠ f) : pairCells (insH h f t) = pairCells (h.take i) ++ [strV f, strV t] ++ pairCells (h.drop i) := by
 rw [hu.ins hs hn, pairCells_app, List.append_assoc]; rfl
theorem pairCells_set : ∀ {h : List Pr} {i : Nat} {p : Pr}, h[i]? = some p → pairCells (h.set i (p.1, t)) = (pairCells h).set (i * 2 + 1) (strV t)
 | q :: h, 0, p, hp => by cases hp; rfl
 | q :: h, i + 1, p, hp => by
  have h1 := pairCells_set (h := h) (i := i) (p := p) hp
  rw [List.set_cons_succ, pairCells, List.flatMap_cons]
  show strV q.1 :: strV q.2 :: pairCells (h.set i (p.1, t)) = _
  rw [h1, show (i + 1) * 2 + 1 = i * 2 + 1 + 2 by omega]
  rfl
-- deleted
def goneH (h : List Pr) (fs : List (List UInt8)) : List Bool := h.map fun p => decide (p.1 ∈ fs)
theorem goneH_len : (goneH h fs).length = h.length := List.length_map ..
theorem goneH_nil : goneH h [] = List.replicate h.length false := by
 unfold goneH
 induction h with
 | nil => rfl
 | cons p h ih => rw [List.map_cons, ih, List.length_cons, List.replicate_succ]; simp
theorem goneH_at {j : Nat} {q : Pr} (hq : h[j]? = some q) : (goneH h fs)[j]? = some (decide (q.1 ∈ fs)) := by unfold goneH; rw [List.getElem?_map, hq]; rfl
theorem goneH_yes (hs : SortedH h) (hp : h[i]? = some p) (he : p.1 = f) : (goneH h fs).set i true = goneH h (fs ++ [f]) := by
 apply List.ext_getElem?
 intro j
 rw [List.getElem?_set, goneH_len]
 have hil := (List.getElem?_eq_some_iff.1 hp).1
 by_cases hij : i = j
 ·subst hij
  rw [if_pos rfl, if_pos hil, goneH_at hp, he]
  simp
 rw [if_neg hij]
 rcases Nat.lt_or_ge j h.length with h1 | h1
 ·obtain ⟨q, hq⟩ : ∃ q, h[j]? = some q := ⟨_, List.getElem?_eq_getElem h1⟩
  have hne : q.1 ≠ f := fun h9 => by
   rcases Nat.lt_or_gt_of_ne hij with h2 | h2
   ·have := hs.at_ h2 hp hq; rw [he, h9, lt_irrefl] at this; cases this
   have := hs.at_ h2 hq hp; rw [he, h9, lt_irrefl] at this; cases this
  rw [goneH_at hq, goneH_at hq]
  simp [hne]
 rw [List.getElem?_eq_none (by rw [goneH_len]; exact h1), List.getElem?_eq_none (by rw [goneH_len]; exact h1)]
theorem goneH_no (hs : SortedH h) (hu : UptoH h f i) (hn : ∀ p, h[i]? = some p → p.1 ≠ f) : goneH h fs = goneH h (fs ++ [f]) := by
 unfold goneH
 refine List.map_congr_left fun p hp => ?_
 have hne : p.1 ≠ f := fun e => by
  obtain ⟨j, hj⟩ := List.mem_iff_getElem?.1 hp
  rcases Nat.lt_trichotomy j i with h1 | rfl | h1
  ·have := hu.le hs j p h1 hj; rw [e, lt_irrefl] at this; cases this
  ·exact hn p hj e
  have := hu.ge hs j p h1 hj; rw [e, lt_irrefl] at this; cases this
 simp [hne]
def boolC (l : List Bool) : List Value := l.map Value.bool
theorem boolC_len (l : List Bool) : (boolC l).length = l.length := List.length_map ..
theorem boolC_zero (h : List Pr) (fs : List (List UInt8)) : boolC (goneH h (fs.take 0)) = List.replicate h.length (.bool false) := by
 rw [List.take_zero, goneH_nil]; unfold boolC; rw [List.map_replicate]
theorem boolC_yes {x : List UInt8} (hs : SortedH h) (hx : fs[i]? = some x) {j : Nat} (hp : h[j]? = some p) (he : p.1 = x) : (boolC (goneH h (fs.take i))).set j (.bool true) = boolC (goneH h (fs.take (i + 1))) := by
 rw [take_next hx, ← goneH_yes hs hp he]
 unfold boolC
 rw [List.map_set]
theorem boolC_no {x : List UInt8} (hs : SortedH h) (hx : fs[i]? = some x) {j : Nat} (hu : UptoH h x j) (hn : ∀ p, h[j]? = some p → p.1 ≠ x) : boolC (goneH h (fs.take (i + 1))) = boolC (goneH h (fs.take i)) := by
 rw [take_next hx, ← goneH_no hs hu hn]
theorem boolC_at {j : Nat} {q : Pr} (hq : h[j]? = some q) : (boolC (goneH h fs))[j]? = some (.bool (decide (q.1 ∈ fs))) := by unfold boolC; rw [List.getElem?_map, goneH_at hq]; rfl
theorem delH_next (hp : h[i]? = some p) : delH (h.take (i + 1)) fs = delH (h.take i) fs ++ (if p.1 ∈ fs then [] else [p]) := by
 unfold delH
 rw [take_next hp, List.filter_append]
 congr 1
 by_cases h1 : p.1 ∈ fs <;> simp [h1]
-- pairs from words
def prsF : List (List UInt8) → List Pr
 | f :: t :: r => (f, t) :: prsF r
 | _ => []
theorem prsF_app : ∀ (k : Nat) {a b : List (List UInt8)}, a.length = 2 * k → prsF (a ++ b) = prsF a ++ prsF b
 | 0, a, b, ha => by rw [List.eq_nil_of_length_eq_zero ha]; rfl
 | k + 1, a, b, ha => by
  match a, ha with
  | [], ha => cases ha
  | [x], ha => simp at ha; omega
  | x :: y :: a, ha =>
   have h1 := prsF_app k (a := a) (b := b) (by simp only [List.length_cons] at ha; omega)
   show (x, y) :: prsF (a ++ b) = (x, y) :: prsF a ++ prsF b
   rw [h1]; rfl
theorem prsF_next {k : Nat} (hf : fs[2 * k]? = some f) (ht : fs[2 * k + 1]? = some t) : prsF (fs.take (2 * (k + 1))) = prsF (fs.take (2 * k)) ++ [(f, t)] := by
 have h1 := (List.getElem?_eq_some_iff.1 ht).1
 rw [show 2 * (k + 1) = 2 * k + 1 + 1 by omega, take_next ht, take_next hf, List.append_assoc]
 exact prsF_app k (by rw [List.length_take]; omega)
theorem prsF_end {k : Nat} (hk : 2 * k ≤ fs.length) (h1 : fs.length ≤ 2 * k + 1) : prsF fs = prsF (fs.take (2 * k)) := by
 conv => lhs; rw [← List.take_append_drop (2 * k) fs, prsF_app k (by rw [List.length_take]; omega)]
 have h2 : prsF (fs.drop (2 * k)) = [] := by
  match hd : fs.drop (2 * k) with
  | [] => rfl
  | [x] => rfl
  | x :: y :: r => have := congrArg List.length hd; rw [List.length_drop] at this; simp only [List.length_cons] at this; omega
 rw [h2, List.append_nil]
theorem flatH_next (hp : h[i]? = some p) : flatH (h.take (i + 1)) = flatH (h.take i) ++ [p.1, p.2] := by
 unfold flatH
 rw [take_next hp, List.flatMap_append]; rfl
theorem flatH_len : (flatH h).length = 2 * h.length := by
 unfold flatH
 induction h with
 | nil => rfl
 | cons p h ih => rw [List.flatMap_cons, List.length_append, ih]; simp only [List.length_cons, List.length_nil]; omega
end
theorem h2mk4 : (Tryz.prog.info? 4).map (fun i => (i.zero, i.size, i.bytes)) = some (some (.bool false), 1, 1) := by kernel_rfl
theorem h2es157 (w : World) : (sizeOf (Tryz.prog.elem 157)).run Tryz.prog w = .ok 1 w := by kernel_rfl
theorem h2sz4 : (Tryz.prog.info? 4).map (·.size) = some 1 := by kernel_rfl
theorem h2al121 : AL Tryz.prog 121 [vS [], vS []] := fun w => by kernel_rfl
theorem h2mk121 : (Tryz.prog.info? 121).map (fun i => (i.zero, i.size, i.bytes)) = some (some (.agg #[vS [], vS []]), 2, 32) := by kernel_rfl
theorem h2el76 : Elem Tryz.prog 76 121 (.agg #[vS [], vS []]) 2 32 := elem_of Tryz.underlying76 h2mk121 (by rfl) (by decide)
theorem hashDel (B : Base) (H : List Res) (w : World) (ad : Option Addr) (c : Nat) (h : List Pr) (hr : RdV B [] ad (pairCells h)) (hm : h.length ≤ 1000000) (hs : SortedH h) (fa : Option Addr) (fc : Nat) (fs : List (List UInt8)) (hrf : RdV B [] fa (textCells fs)) (hmf : fs.length ≤ 1000000) (hv : Inv B H w) :
  Calls Tryz.prog 45 #[.slice ad h.length c, .slice fa fs.length fc] w fun e w' => ∃ C oa oc out, B.Le C ∧ e = .returned (.tuple #[.slice oa out.length oc, vI ((h.length : Int) - (out.length : Int))]) ∧ SliceOk oa out.length oc ∧ RdV C [] oa (pairCells out) ∧ out = delH h fs ∧ Inv C H w' := by
 refine cW Tryz.func45 rfl Tryz.ntmps45 ?_
 simp only [al]
 refine sK fun _ k1 => rL (uA rfl ?_)
 refine uA rfl (uW k1 ?_)
 refine sK fun _ k2 => rL (uM rfl ?_)
 refine uG (vI (h.length : Int)) rfl (ex_len0 Tryz.underlying76 rfl rfl) ?_
 refine sl_make1 (len := h.length) (cap := h.length) tV (wn rfl) rfl rfl rfl Tryz.underlying157 h2mk4 rfl (by omega) (by unfold maxLen; omega) (by omega) hv (fun b3 w4 hv => ?_)
 refine uA rfl (uW k2 ?_)
 refine sK fun _ k5 => sK fun _ k6 => rL (uM rfl ?_)
 refine uG (vI (fs.length : Int)) rfl (ex_len0 Tryz.underlying22 rfl rfl) (uM rfl ?_)
 refine uW k6 (bB ?_)
 gi_loopw [19] (fun x19 wr => ∃ (i : Nat), x19 = vI i ∧ i ≤ fs.length ∧ Inv B (Res.cell b3 (boolC (goneH h (fs.take i))) 4 :: H) wr) (fun x19 _ => fs.length - (intOf x19).toNat)
 case atStart => exact ⟨0, rfl, Nat.zero_le _, by rw [boolC_zero]; exact hv⟩
 case round =>
  obtain ⟨i, rfl, hi, hv⟩ := hrel
  refine sK fun _ k8 => rL ?_
  by_cases hb9 : (i : Int) < (fs.length : Int)
  ·refine uG (.bool true) rfl (ex_lss rfl rfl rfl (qT hb9)) (uW k8 ?_)
   refine sK fun _ k10 => cT rfl (kS ?_)
   refine tK k10 (sK fun _ k11 => ?_)
   refine bB (sK fun _ k12 => ?_)
   obtain ⟨x, hx⟩ : ∃ x, fs[i]? = some x := ⟨_, List.getElem?_eq_getElem (show i < fs.length by omega)⟩
   obtain ⟨fb, fo, had, hrdx⟩ := text_reads hrf hx
   subst had
   refine rL (uG (.pointer (some ⟨fb, fo + i, none⟩)) rfl (ex_index rfl rfl rfl (run_idx1 (k := i) Tryz.underlying22 s9es22 (by omega))) ?_)
   refine uL _ rfl (run_load1 h1na9 (hrdx _ _ _ (Base.Le.refl _) no_res hv 0 _ rfl)) (uA rfl ?_)
   refine uW k12 (sK fun _ k13 => ?_)
   refine rL (uM rfl ?_)
   refine uM rfl ?_
   refine xC h1callable75 rfl ((hashFind B _ _ ad c h x [] (fun r9 h9 => absurd h9 List.not_mem_nil) (hr.rdW []) hm hv).mono ?_) rfl
   rintro e w14 ⟨j, b, hu, rfl, hb, hv⟩
   refine ⟨_, rfl, ?_⟩
   cases b
   ·have hn : ∀ p, h[j]? = some p → p.1 ≠ x := fun p hp he => by have h9 := hb.2 ⟨p, hp, he⟩; cases h9
    refine uM rfl (uE rfl ?_)
    refine uE rfl (uA rfl ?_)
    refine uA rfl (uW k13 ?_)
    refine sK fun _ k15 => rL (uM rfl ?_)
    refine uW k15 (cF rfl ?_)
    refine kS (bN ?_)
    refine tK k11 (rL ?_)
    refine uG (vI ((i + 1 : Nat) : Int)) rfl (ex_add rfl rfl rfl (by rw [i64_in (by omega)]; omega)) (uM rfl ?_)
    refine uZ (then_normal ?_)
    go_roundw
    case rel => exact ⟨i + 1, rfl, by omega, by rw [boolC_no hs hx hu hn]; exact hv⟩
    case measure => show fs.length - (((i + 1 : Nat) : Int)).toNat < fs.length - ((i : Int)).toNat; omega
   obtain ⟨p, hp, hpf⟩ := hb.1 rfl
   have hjl : j < h.length := (List.getElem?_eq_some_iff.1 hp).1
   refine uM rfl (uE rfl ?_)
   refine uE rfl (uA rfl ?_)
   refine uA rfl (uW k13 ?_)
   refine sK fun _ k16 => rL (uM rfl ?_)
   refine uW k16 (cT rfl ?_)
   refine rL (uM rfl ?_)
   refine uM rfl ?_
   refine uG (.pointer (some ⟨b3, 0 + j, none⟩)) rfl (ex_index rfl rfl rfl (run_idx1 (k := j) Tryz.underlying157 h2es157 (by omega))) ?_
   refine sl_storeAt 0 (off := 0 + j) (v := .bool true) (L' := boolC (goneH h (fs.take (i + 1)))) tV (wn rfl) rfl rfl rfl hv rfl h2sz4 (by rw [boolC_len, goneH_len]; omega) rfl rfl (by rw [Nat.zero_add]; exact boolC_yes hs hx hp hpf) (fun w17 hv => ?_)
   simp only [zO] at hv
   refine uZ (bN ?_)
   refine tK k11 (rL ?_)
   refine uG (vI ((i + 1 : Nat) : Int)) rfl (ex_add rfl rfl rfl (by rw [i64_in (by omega)]; omega)) (uM rfl ?_)
   refine uZ (then_normal ?_)
   go_roundw
   case rel => exact ⟨i + 1, rfl, by omega, hv⟩
   case measure => show fs.length - (((i + 1 : Nat) : Int)).toNat < fs.length - ((i : Int)).toNat; omega
  refine uG (.bool false) rfl (ex_lss rfl rfl rfl (qF hb9)) (uW k8 ?_)
  refine sK fun _ k18 => cF rfl (xE ?_)
  refine tX (tX ?_)
  refine bH (tK k5 ?_)
  refine sK fun _ k19 => ?_
  obtain rfl : i = fs.length := by omega
  replace hv := hv.cellRow (n := h.length) (c := h.length) (size := 1) (by rw [boolC_len, goneH_len, Nat.mul_one]) (Nat.le_refl _) (by unfold maxLen; omega)
  have h9 : (boolC (goneH h (fs.take fs.length))).take (h.length * 1) = boolC (goneH h fs) := by rw [List.take_length]; exact List.take_of_length_le (by rw [boolC_len, goneH_len]; omega)
  rw [h9] at hv
  obtain ⟨D, hD, hv, hrg, -, -⟩ := hv.rowBy
  refine rL (uA rfl ?_)
  refine uW k19 (sK fun _ k20 => ?_)
  refine sK fun _ k21 => rL (uM rfl ?_)
  refine uG (vI (h.length : Int)) rfl (ex_len0 Tryz.underlying76 rfl rfl) (uM rfl ?_)
  refine uW k21 (bB ?_)
  gi_loopw [11, 36] (fun x11 x36 wr => ∃ (k : Nat) (out : List Pr) (ra : Option Addr) (rc : Nat), x11 = .slice ra out.length rc ∧ x36 = vI k ∧ k ≤ h.length ∧ out = delH (h.take k) fs ∧ Inv D (Res.row 121 2 (.slice ra out.length rc) out.length (pairCells out) :: H) wr) (fun x11 x36 _ => h.length - (intOf x36).toNat)
  case atStart => exact ⟨0, [], none, 0, rfl, rfl, Nat.zero_le _, rfl, (hv).rowNil 121 2⟩
  case round =>
   obtain ⟨k, out, ra, rc, rfl, rfl, hk, hout, hv⟩ := hrel
   have hol : out.length ≤ h.length := by rw [hout]; exact Nat.le_trans delH_len (by rw [List.length_take]; omega)
   refine sK fun _ k23 => rL ?_
   by_cases hb24 : (k : Int) < (h.length : Int)
   ·refine uG (.bool true) rfl (ex_lss rfl rfl rfl (qT hb24)) (uW k23 ?_)
    refine sK fun _ k25 => cT rfl (kS ?_)
    refine tK k25 (sK fun _ k26 => ?_)
    refine bB (sK fun _ k27 => ?_)
    obtain ⟨p, hp⟩ : ∃ x, h[k]? = some x := ⟨_, List.getElem?_eq_getElem (show k < h.length by omega)⟩
    obtain ⟨bb, bo, had, hrdp⟩ := pair_reads hr hp
    subst had
    refine rL (uM rfl ?_)
    refine uG (.pointer (some ⟨bb, bo + k * 2, none⟩)) rfl (ex_index rfl rfl rfl (run_idx (k := k) Tryz.underlying76 h1es76 (by omega))) ?_
    refine uL (.agg #[vS p.1, vS p.2]) rfl (run_loadR (cs := [vS p.1, vS p.2]) s10wd121 (Reads.mid (pre := []) (mid := [vS p.1, vS p.2]) (post := []) hrdp _ _ _ hD no_res hv)) ?_
    refine sl_alloc tV (wn rfl) rfl hv h2al121 (fun b28 w29 hv => ?_)
    refine uA rfl ?_
    refine xS 0 rfl hv s10sz121 rfl (by exact ⟨rfl, rfl, trivial⟩) (fun w30 hv => ?_)
    simp only [zO, sp] at hv
    refine uW k27 (sK fun _ k31 => ?_)
    obtain ⟨b9, o9, had9, hrdg⟩ := row1_reads (hrg.rdW []) (boolC_at (fs := fs) hp)
    cases had9
    refine rL (uM rfl ?_)
    refine uM rfl ?_
    refine uG (.pointer (some ⟨b3, 0 + k, none⟩)) rfl (ex_index rfl rfl rfl (run_idx1 (k := k) Tryz.underlying157 h2es157 (by omega))) ?_
    refine uL _ rfl (run_load1 s2na4 (hrdg _ _ _ (Base.Le.refl _) no_res hv 0 _ rfl)) ?_
    refine uG (.bool (!(decide (p.1 ∈ fs)))) rfl (ex_not rfl rfl rfl) (uW k31 ?_)
    refine wpIn_cond_split (t := !(decide (p.1 ∈ fs))) rfl (fun hc32 => ?_) (fun hc32 => ?_)
    ·refine rL (uM rfl ?_)
     refine uL (.agg #[vS p.1, vS p.2]) rfl (lM 0 s10wd121 hv rfl rfl rfl rfl) ?_
     refine sl_rowAgg (L := [vS p.1, vS p.2]) tV (wn rfl) rfl rfl hv h2el76 rfl (by decide) (fun b33 w34 hv => ?_)
     simp only [zP, po]
     replace hv := hv.front 2 rfl
     simp only [eS, eZ] at hv
     refine sl_append (news := [vS p.1, vS p.2]) tV (wn rfl) rfl rfl rfl h2el76 hv (ok_full (by omega)) rfl (rd_all (hv.get 1 rfl)) (by intro u hu; simp only [List.mem_cons, List.not_mem_nil, or_false] at hu; rcases hu with rfl | rfl <;> rfl) (by unfold maxLen; omega) (by omega) (fun rv35 w38 hv => ?_)
     obtain ⟨ra36, rc37, rfl⟩ := row_slice hv.head
     refine uA rfl (uZ ?_)
     refine bN (tK k26 ?_)
     refine rL (uG (vI ((k + 1 : Nat) : Int)) rfl (ex_add rfl rfl rfl (by rw [i64_in (by omega)]; omega)) ?_)
     refine uM rfl (uZ ?_)
     refine then_normal ?_
     go_roundw
     case rel => exact ⟨k + 1, out ++ [p], _, _, by rw [List.length_append, List.length_singleton], rfl, by omega, by rw [hout, delH_next hp, if_neg (by simpa using hc32)], by rw [List.length_append, List.length_singleton, pairCells_app]; exact (hv.kp [] 1 2)⟩
     case measure => show h.length - (((k + 1 : Nat) : Int)).toNat < h.length - ((k : Int)).toNat; omega
    refine kS (bN ?_)
    refine tK k26 (rL ?_)
    refine uG (vI ((k + 1 : Nat) : Int)) rfl (ex_add rfl rfl rfl (by rw [i64_in (by omega)]; omega)) (uM rfl ?_)
    refine uZ (then_normal ?_)
    go_roundw
    case rel => exact ⟨k + 1, out, _, _, rfl, rfl, by omega, by rw [hout, delH_next hp, if_pos (by simpa using hc32), List.append_nil], (hv.kp [1] 1 1)⟩
    case measure => show h.length - (((k + 1 : Nat) : Int)).toNat < h.length - ((k : Int)).toNat; omega
   refine uG (.bool false) rfl (ex_lss rfl rfl rfl (qF hb24)) (uW k23 ?_)
   refine sK fun _ k39 => cF rfl (xE ?_)
   refine tX (tX ?_)
   refine bH (tK k20 ?_)
   refine sK fun _ k40 => rL (uM rfl ?_)
   refine uM rfl ?_
   refine uG (vI (h.length : Int)) rfl (ex_len0 Tryz.underlying76 rfl rfl) (uM rfl ?_)
   refine uG (vI (out.length : Int)) rfl (ex_len0 Tryz.underlying76 rfl rfl) ?_
   refine uG (vI ((h.length : Int) - (out.length : Int))) rfl (ex_sub rfl rfl rfl (by rw [i64_in (by omega)])) (uA rfl ?_)
   refine uA rfl (uW k40 ?_)
   refine rR (bodyPost_ret (results_tmp2 rfl _ _ _) rfl ?_)
   obtain rfl : k = h.length := by omega
   rw [List.take_length] at hout
   obtain ⟨E, hE, hv, hro, hoko, -⟩ := (hv).rowBy
   exact ⟨E, ra, rc, out, hD.trans hE, rfl, hoko, hro, hout, hv⟩
theorem row_snoc {B : Base} {H : List Res} {w : World} {out : List (List UInt8)} {x : List UInt8} {ra : Option Addr} {rc : Nat} (h : Inv B (Res.row 9 1 (.slice ra (out.length + 1) rc) (out.length + 1) (textCells out ++ [strV x]) :: H) w) : Inv B (Res.row 9 1 (.slice ra (out ++ [x]).length rc) (out ++ [x]).length (textCells (out ++ [x])) :: H) w := by
 rw [show textCells out ++ [strV x] = textCells (out ++ [x]) by simp [textCells]] at h
 rw [List.length_append, List.length_singleton]; exact h
theorem h3mk9 : (Tryz.prog.info? 9).map (fun i => (i.zero, i.size, i.bytes)) = some (some (vS []), 1, 16) := by kernel_rfl
theorem h3el22 : Elem Tryz.prog 22 9 (vS []) 1 16 := elem_of Tryz.underlying22 h3mk9 (by rfl) (by decide)
theorem h3al121 : AL Tryz.prog 121 [vS [], vS []] := fun w => by kernel_rfl
theorem hashFields (B : Base) (H : List Res) (w : World) (ad : Option Addr) (c : Nat) (h : List Pr) (hr : RdV B [] ad (pairCells h)) (hm : h.length ≤ 1000000) (hv : Inv B H w) :
  Calls Tryz.prog 52 #[.slice ad h.length c] w fun e w' => ∃ C oa oc out, B.Le C ∧ e = .returned (.slice oa out.length oc) ∧ SliceOk oa out.length oc ∧ RdV C [] oa (textCells out) ∧ out = h.map (·.1) ∧ Inv C H w' := by
 refine cW Tryz.func52 rfl Tryz.ntmps52 ?_
 simp only [al]
 refine sK fun _ k1 => rL (uA rfl ?_)
 refine uW k1 (sK fun _ k2 => ?_)
 refine rL (uM rfl ?_)
 refine uG (vI (h.length : Int)) rfl (ex_len0 Tryz.underlying76 rfl rfl) ?_
 refine sl_makeRow (cap := h.length) tV (wn rfl) rfl rfl rfl h3el22 (by unfold maxLen; omega) (by omega) hv (fun b3 w4 hv => ?_)
 refine uA rfl (uW k2 ?_)
 refine sK fun _ k5 => sK fun _ k6 => rL (uM rfl ?_)
 refine uG (vI (h.length : Int)) rfl (ex_len0 Tryz.underlying76 rfl rfl) (uM rfl ?_)
 refine uW k6 (bB ?_)
 gi_loopw [3, 11] (fun x3 x11 wr => ∃ (k : Nat) (out : List (List UInt8)) (ra : Option Addr) (rc : Nat), x3 = .slice ra out.length rc ∧ x11 = vI k ∧ k ≤ h.length ∧ out = (h.take k).map (·.1) ∧ Inv B (Res.row 9 1 (.slice ra out.length rc) out.length (textCells out) :: H) wr) (fun x3 x11 _ => h.length - (intOf x11).toNat)
 case atStart => exact ⟨0, [], _, _, rfl, rfl, Nat.zero_le _, rfl, hv⟩
 case round =>
  obtain ⟨k, out, ra, rc, rfl, rfl, hk, hout, hv⟩ := hrel
  have hol : out.length ≤ h.length := by rw [hout, List.length_map, List.length_take]; omega
  refine sK fun _ k8 => rL ?_
  by_cases hb9 : (k : Int) < (h.length : Int)
  ·refine uG (.bool true) rfl (ex_lss rfl rfl rfl (qT hb9)) (uW k8 ?_)
   refine sK fun _ k10 => cT rfl (kS ?_)
   refine tK k10 (sK fun _ k11 => ?_)
   refine bB (sK fun _ k12 => ?_)
   obtain ⟨p, hp⟩ : ∃ x, h[k]? = some x := ⟨_, List.getElem?_eq_getElem (show k < h.length by omega)⟩
   obtain ⟨bb, bo, had, hrdp⟩ := pair_reads hr hp
   subst had
   refine rL (uG (.pointer (some ⟨bb, bo + k * 2, none⟩)) rfl (ex_index rfl rfl rfl (run_idx (k := k) Tryz.underlying76 h1es76 (by omega))) ?_)
   refine uL (.agg #[vS p.1, vS p.2]) rfl (run_loadR (cs := [vS p.1, vS p.2]) s10wd121 (Reads.mid (pre := []) (mid := [vS p.1, vS p.2]) (post := []) hrdp _ _ _ (Base.Le.refl _) no_res hv)) ?_
   refine sl_alloc tV (wn rfl) rfl hv h3al121 (fun b13 w14 hv => ?_)
   simp only [zP, po]
   refine xS 0 rfl hv s10sz121 rfl (by exact ⟨rfl, rfl, trivial⟩) (fun w15 hv => ?_)
   simp only [zO, sp] at hv
   refine uW k12 (rL ?_)
   refine uM rfl ?_
   refine uF (vP b13) rfl (h1fa121_0 _ _ _) ?_
   refine uL _ rfl (run_load1 h1na9 (hv.load 0 0 rfl rfl)) ?_
   refine sl_rowOne (v := vS p.1) tV (wn rfl) rfl rfl hv h3el22 rfl (fun b16 w17 hv => ?_)
   replace hv := hv.front 2 rfl
   simp only [eS, eZ] at hv
   refine sl_append (news := [vS p.1]) tV (wn rfl) rfl rfl rfl h3el22 hv (ok_full (by omega)) rfl (rd_all (hv.get 1 rfl)) (by intro u hu; simp only [List.mem_cons, List.not_mem_nil, or_false] at hu; rcases hu with rfl <;> rfl) (by unfold maxLen; omega) (by omega) (fun rv18 w21 hv => ?_)
   obtain ⟨ra19, rc20, rfl⟩ := row_slice hv.head
   refine uA rfl (uZ ?_)
   refine bN (tK k11 ?_)
   refine rL (uG (vI ((k + 1 : Nat) : Int)) rfl (ex_add rfl rfl rfl (by rw [i64_in (by omega)]; omega)) ?_)
   refine uM rfl (uZ ?_)
   refine then_normal ?_
   go_roundw
   case rel => exact ⟨k + 1, out ++ [p.1], _, _, by rw [List.length_append, List.length_singleton], rfl, by omega, by rw [hout, take_next hp, List.map_append]; rfl, row_snoc (hv.kp [] 1 2)⟩
   case measure => show h.length - (((k + 1 : Nat) : Int)).toNat < h.length - ((k : Int)).toNat; omega
  refine uG (.bool false) rfl (ex_lss rfl rfl rfl (qF hb9)) (uW k8 ?_)
  refine sK fun _ k22 => cF rfl (xE ?_)
  refine tX (tX ?_)
  refine bH (tK k5 ?_)
  refine sK fun _ k23 => rL (uM rfl ?_)
  refine uA rfl (uW k23 ?_)
  refine rR (bR rfl rfl ?_)
  obtain rfl : k = h.length := by omega
  rw [List.take_length] at hout
  obtain ⟨D, hD, hv, hro, hoko, -⟩ := (hv).rowBy
  exact ⟨D, ra, rc, out, hD, rfl, hoko, hro, hout, hv⟩
theorem hashTexts (B : Base) (H : List Res) (w : World) (ad : Option Addr) (c : Nat) (h : List Pr) (hr : RdV B [] ad (pairCells h)) (hm : h.length ≤ 1000000) (hv : Inv B H w) :
  Calls Tryz.prog 53 #[.slice ad h.length c] w fun e w' => ∃ C oa oc out, B.Le C ∧ e = .returned (.slice oa out.length oc) ∧ SliceOk oa out.length oc ∧ RdV C [] oa (textCells out) ∧ out = h.map (·.2) ∧ Inv C H w' := by
 refine cW Tryz.func53 rfl Tryz.ntmps53 ?_
 simp only [al]
 refine sK fun _ k1 => rL (uA rfl ?_)
 refine uW k1 (sK fun _ k2 => ?_)
 refine rL (uM rfl ?_)
 refine uG (vI (h.length : Int)) rfl (ex_len0 Tryz.underlying76 rfl rfl) ?_
 refine sl_makeRow (cap := h.length) tV (wn rfl) rfl rfl rfl h3el22 (by unfold maxLen; omega) (by omega) hv (fun b3 w4 hv => ?_)
 refine uA rfl (uW k2 ?_)
 refine sK fun _ k5 => sK fun _ k6 => rL (uM rfl ?_)
 refine uG (vI (h.length : Int)) rfl (ex_len0 Tryz.underlying76 rfl rfl) (uM rfl ?_)
 refine uW k6 (bB ?_)
 gi_loopw [3, 11] (fun x3 x11 wr => ∃ (k : Nat) (out : List (List UInt8)) (ra : Option Addr) (rc : Nat), x3 = .slice ra out.length rc ∧ x11 = vI k ∧ k ≤ h.length ∧ out = (h.take k).map (·.2) ∧ Inv B (Res.row 9 1 (.slice ra out.length rc) out.length (textCells out) :: H) wr) (fun x3 x11 _ => h.length - (intOf x11).toNat)
 case atStart => exact ⟨0, [], _, _, rfl, rfl, Nat.zero_le _, rfl, hv⟩
 case round =>
  obtain ⟨k, out, ra, rc, rfl, rfl, hk, hout, hv⟩ := hrel
  have hol : out.length ≤ h.length := by rw [hout, List.length_map, List.length_take]; omega
  refine sK fun _ k8 => rL ?_
  by_cases hb9 : (k : Int) < (h.length : Int)
  ·refine uG (.bool true) rfl (ex_lss rfl rfl rfl (qT hb9)) (uW k8 ?_)
   refine sK fun _ k10 => cT rfl (kS ?_)
   refine tK k10 (sK fun _ k11 => ?_)
   refine bB (sK fun _ k12 => ?_)
   obtain ⟨p, hp⟩ : ∃ x, h[k]? = some x := ⟨_, List.getElem?_eq_getElem (show k < h.length by omega)⟩
   obtain ⟨bb, bo, had, hrdp⟩ := pair_reads hr hp
   subst had
   refine rL (uG (.pointer (some ⟨bb, bo + k * 2, none⟩)) rfl (ex_index rfl rfl rfl (run_idx (k := k) Tryz.underlying76 h1es76 (by omega))) ?_)
   refine uL (.agg #[vS p.1, vS p.2]) rfl (run_loadR (cs := [vS p.1, vS p.2]) s10wd121 (Reads.mid (pre := []) (mid := [vS p.1, vS p.2]) (post := []) hrdp _ _ _ (Base.Le.refl _) no_res hv)) ?_
   refine sl_alloc tV (wn rfl) rfl hv h3al121 (fun b13 w14 hv => ?_)
   simp only [zP, po]
   refine xS 0 rfl hv s10sz121 rfl (by exact ⟨rfl, rfl, trivial⟩) (fun w15 hv => ?_)
   simp only [zO, sp] at hv
   refine uW k12 (rL ?_)
   refine uM rfl ?_
   refine uF (.pointer (some ⟨b13, 1, none⟩)) rfl (h1fa121_1 _ _ _) ?_
   refine uL _ rfl (run_load1 h1na9 (hv.load 0 1 rfl rfl)) ?_
   refine sl_rowOne (v := vS p.2) tV (wn rfl) rfl rfl hv h3el22 rfl (fun b16 w17 hv => ?_)
   replace hv := hv.front 2 rfl
   simp only [eS, eZ] at hv
   refine sl_append (news := [vS p.2]) tV (wn rfl) rfl rfl rfl h3el22 hv (ok_full (by omega)) rfl (rd_all (hv.get 1 rfl)) (by intro u hu; simp only [List.mem_cons, List.not_mem_nil, or_false] at hu; rcases hu with rfl <;> rfl) (by unfold maxLen; omega) (by omega) (fun rv18 w21 hv => ?_)
   obtain ⟨ra19, rc20, rfl⟩ := row_slice hv.head
   refine uA rfl (uZ ?_)
   refine bN (tK k11 ?_)
   refine rL (uG (vI ((k + 1 : Nat) : Int)) rfl (ex_add rfl rfl rfl (by rw [i64_in (by omega)]; omega)) ?_)
   refine uM rfl (uZ ?_)
   refine then_normal ?_
   go_roundw
   case rel => exact ⟨k + 1, out ++ [p.2], _, _, by rw [List.length_append, List.length_singleton], rfl, by omega, by rw [hout, take_next hp, List.map_append]; rfl, row_snoc (hv.kp [] 1 2)⟩
   case measure => show h.length - (((k + 1 : Nat) : Int)).toNat < h.length - ((k : Int)).toNat; omega
  refine uG (.bool false) rfl (ex_lss rfl rfl rfl (qF hb9)) (uW k8 ?_)
  refine sK fun _ k22 => cF rfl (xE ?_)
  refine tX (tX ?_)
  refine bH (tK k5 ?_)
  refine sK fun _ k23 => rL (uM rfl ?_)
  refine uA rfl (uW k23 ?_)
  refine rR (bR rfl rfl ?_)
  obtain rfl : k = h.length := by omega
  rw [List.take_length] at hout
  obtain ⟨D, hD, hv, hro, hoko, -⟩ := (hv).rowBy
  exact ⟨D, ra, rc, out, hD, rfl, hoko, hro, hout, hv⟩
theorem h4mk121 : (Tryz.prog.info? 121).map (fun i => (i.zero, i.size, i.bytes)) = some (some (.agg #[vS [], vS []]), 2, 32) := by kernel_rfl
theorem h4el76 : Elem Tryz.prog 76 121 (.agg #[vS [], vS []]) 2 32 := elem_of Tryz.underlying76 h4mk121 (by rfl) (by decide)
theorem clonePr (B : Base) (H : List Res) (w : World) (a : Addr) (n c : Nat) (xs : List Value) (R : List Res) (hRH : ∀ r ∈ R, r ∈ H) (hok : SliceOk (some a) n c) (hl : xs.length = n * 2) (h1 : ∀ u ∈ xs, u.oneCell' = true) (hn : n ≤ 10000000) (hr : RdW B R (some a) xs) (hv : Inv B H w) :
  Calls Tryz.prog 81 #[.slice (some a) n c] w fun e w' => ∃ ra rc, e = .returned (.slice ra n rc) ∧ Inv B (Res.row 121 2 (.slice ra n rc) n xs :: H) w' := by
 refine cW Tryz.func81 rfl Tryz.ntmps81 ?_
 simp only [al]
 refine sK fun _ k1 => rL (uA rfl ?_)
 refine uW k1 (sK fun _ k2 => ?_)
 refine sK fun _ k3 => rL (uM rfl ?_)
 refine uG (.bool false) rfl (ex_slnil Tryz.underlying76 rfl rfl rfl rfl) (uW k3 ?_)
 refine cF rfl (kS ?_)
 refine tK k2 (sK fun _ k4 => ?_)
 refine rL (sl_row0 (size := 2) tV (wn rfl) rfl hv (e := 121) (fun w => by kernel_rfl) (fun b5 w6 hv => ?_))
 refine uM rfl ?_
 refine sl_append (news := xs) tV (wn rfl) rfl rfl rfl h4el76 hv hok hl (hr.src (fun r9 hr9 => List.mem_cons_of_mem _ (hRH r9 hr9)) hv) (h1) (by unfold maxLen; omega) (by omega) (fun rv7 w10 hv => ?_)
 obtain ⟨ra8, rc9, rfl⟩ := row_slice hv.head
 refine uA rfl (uW k4 ?_)
 refine rR (bR rfl rfl ?_)
 have h9 := hv
 simp only [Nat.zero_add, List.nil_append] at h9 ⊢
 exact ⟨_, _, rfl, h9⟩
theorem clonePrs (B : Base) (H : List Res) (w : World) (ad : Option Addr) (n c : Nat) (xs : List Value) (R : List Res) (hRH : ∀ r ∈ R, r ∈ H) (hok : SliceOk ad n c) (hl : xs.length = n * 2) (h1 : ∀ u ∈ xs, u.oneCell' = true) (hn : n ≤ 10000000) (hr : RdW B R ad xs) (hv : Inv B H w) :
  Calls Tryz.prog 81 #[.slice ad n c] w fun e w' => ∃ ra rc, e = .returned (.slice ra n rc) ∧ Inv B (Res.row 121 2 (.slice ra n rc) n xs :: H) w' := by
 cases ad with
 | none =>
  have hc0 : c = 0 := hok.nil rfl
  have hn0 : n = 0 := by have := hok.le; omega
  subst hc0 hn0
  have hx : xs = [] := List.eq_nil_of_length_eq_zero (by simpa using hl)
  subst hx
  refine (clonePairs0 B H w hv).mono ?_
  rintro e w' ⟨rfl, hv⟩
  exact ⟨_, _, rfl, hv.rowNil _ _⟩
 | some a => exact clonePr B H w a n c xs R hRH hok hl h1 hn hr hv
theorem h5mk121 : (Tryz.prog.info? 121).map (fun i => (i.zero, i.size, i.bytes)) = some (some (.agg #[vS [], vS []]), 2, 32) := by kernel_rfl
theorem h5el76 : Elem Tryz.prog 76 121 (.agg #[vS [], vS []]) 2 32 := elem_of Tryz.underlying76 h5mk121 (by rfl) (by decide)
theorem insPr (B : Base) (H : List Res) (w : World) (b c n i k q : Nat) (p d new : List Value) (hn1 : 1 ≤ n) (hnk : n = i + k) (hm : n ≤ 1000000) (hp : p.length = i * 2) (hd : d.length = k * 2) (hnew : new.length = 2) (_ : ∀ u ∈ p, u.oneCell' = true) (h1d : ∀ u ∈ d, u.oneCell' = true) (h1n : ∀ u ∈ new, u.oneCell' = true) (hv : Inv B (Res.row 121 2 (.slice (some ⟨b, 0, none⟩) n c) n (p ++ d) :: Res.cell q new 121 :: H) w) :
  Calls Tryz.prog 90 #[.slice (some ⟨b, 0, none⟩) n c, vI i, .slice (some ⟨q, 0, none⟩) 1 1] w fun e w' => ∃ b' c', e = .returned (.slice (some ⟨b', 0, none⟩) (n + 1) c') ∧ Inv B (Res.row 121 2 (.slice (some ⟨b', 0, none⟩) (n + 1) c') (n + 1) (p ++ new ++ d) :: H) w' := by
 have hnc : n ≤ c := (hv.rowOk).1.le
 refine cW Tryz.func90 rfl Tryz.ntmps90 ?_
 simp only [al]
 refine sK fun _ k1 => rL (uA rfl ?_)
 refine uW k1 (sK fun _ k2 => ?_)
 refine rL (uM rfl ?_)
 refine uM rfl ?_
 refine uG (sliced (some ⟨b, 0, none⟩) i n c 2) rfl (ex_slice (lo' := some (vI i)) rfl rfl (congrArg some rfl) rfl rfl (run_fromAny Tryz.underlying76 h1es76 (by omega))) (uW k2 ?_)
 refine sK fun _ k3 => rL (uG (.slice (some ⟨q, 0, none⟩) 1 1) rfl (ex_move rfl rfl) ?_)
 refine uG (vI 1) rfl (ex_len0 Tryz.underlying76 rfl rfl) (uA rfl ?_)
 refine uW k3 (sK fun _ k4 => ?_)
 refine sK fun _ k5 => rL (uM rfl ?_)
 refine uG (.bool false) rfl (ex_eql rfl rfl rfl (by decide)) (uW k5 ?_)
 refine cF rfl (kS ?_)
 refine tK k4 (sK fun _ k6 => ?_)
 refine rL (uM rfl ?_)
 refine uG (vI n) rfl (ex_len0 Tryz.underlying76 rfl rfl) (uA rfl ?_)
 refine uW k6 (sK fun _ k7 => ?_)
 refine sK fun _ k8 => rL (uM rfl ?_)
 refine uM rfl ?_
 by_cases hb9 : (i : Int) = (n : Int)
 ·refine uG (.bool true) rfl (ex_eql rfl rfl rfl (qT hb9)) (uW k8 ?_)
  refine cT rfl (sK fun _ k10 => ?_)
  refine rL (uM rfl ?_)
  refine uG (.slice (some ⟨q, 0, none⟩) 1 1) rfl (ex_move rfl rfl) ?_
  refine sl_append (news := new) tV (wn rfl) rfl rfl rfl h5el76 hv (ok_full (by omega)) (by rw [hnew]) (rd_all (hv.get 1 rfl)) (h1n) (by unfold maxLen; omega) (by omega) (fun rv11 w14 hv => ?_)
  obtain ⟨ra12, rc13, rfl⟩ := row_slice hv.head
  refine uA rfl (uW k10 ?_)
  refine rR (tR ?_)
  refine bR rfl rfl ?_
  obtain ⟨b3, hb3⟩ := row_some hv.head (by omega)
  subst hb3
  obtain rfl : d = [] := List.eq_nil_of_length_eq_zero (by rw [hd]; omega)
  have h9 := (hv.sub (sC _ (sD _ (sR _))))
  simp only [List.append_nil] at h9 ⊢
  exact ⟨b3, _, rfl, h9⟩
 refine uG (.bool false) rfl (ex_eql rfl rfl rfl (qF hb9)) (uW k8 ?_)
 refine cF rfl (kS ?_)
 refine tK k7 (sK fun _ k15 => ?_)
 refine sK fun _ k16 => rL (uM rfl ?_)
 refine uM rfl ?_
 refine uG (vI ((n + 1 : Nat) : Int)) rfl (ex_add rfl rfl rfl (by rw [i64_in (by omega)]; omega)) (uM rfl ?_)
 refine uG (vI c) rfl (ex_cap0 Tryz.underlying76 rfl rfl) ?_
 by_cases hb17 : ((n + 1 : Nat) : Int) > (c : Int)
 ·refine uG (.bool true) rfl (ex_gtr rfl rfl rfl (qT hb17)) (uW k16 ?_)
  refine cT rfl (sK fun _ k18 => ?_)
  refine rL (uM rfl ?_)
  refine uM rfl ?_
  refine uG (.slice (some ⟨b, 0, none⟩) i c) rfl (ex_slice (hi' := some (vI i)) rfl rfl rfl (congrArg some rfl) rfl (run_hi Tryz.underlying76 h1es76 (by omega))) (uM rfl ?_)
  refine uM rfl ?_
  refine uG (vI ((n + 1 : Nat) : Int)) rfl (ex_add rfl rfl rfl (by rw [i64_in (by omega)]; omega)) (uM rfl ?_)
  refine uG (vI ((k + 1 : Nat) : Int)) rfl (ex_sub rfl rfl rfl (by rw [i64_in (by omega)]; omega)) ?_
  refine sl_appendZ (m := i) (k := k + 1) (olds := p) tV (wn rfl) rfl rfl rfl h5el76 Tryz.underlying3 hv hp (by have h9 := (hv.rowOk).2.1.take (i * 2); rw [List.take_left' hp] at h9; exact h9) (by omega) (by omega) (by omega) (by omega) (fun b2 c2 zs w19 hc2 hc2m hzs hv => ?_)
  obtain ⟨z1, z2, rfl, hz1⟩ : ∃ z1 z2 : List Value, zs = z1 ++ z2 ∧ z1.length = 2 := ⟨zs.take 2, zs.drop 2, (List.take_append_drop _ _).symm, by rw [List.length_take, hzs]; omega⟩
  obtain ⟨z3, z4, rfl, hz3⟩ : ∃ z3 z4 : List Value, z2 = z3 ++ z4 ∧ z3.length = k * 2 := ⟨z2.take (k * 2), z2.drop (k * 2), (List.take_append_drop _ _).symm, by rw [List.length_append] at hzs; rw [List.length_take]; omega⟩
  refine uA rfl (uW k18 ?_)
  refine sK fun _ k20 => rL (uM rfl ?_)
  refine uM rfl ?_
  refine uG (.slice (some ⟨b2, 0 + i * 2, none⟩) ((i + (k + 1)) - i) (c2 - i)) rfl (ex_slice (lo' := some (vI i)) rfl rfl (congrArg some rfl) rfl rfl (run_from (size := 2) Tryz.underlying76 h1es76 (by omega) (by omega))) ?_
  refine uG (.slice (some ⟨q, 0, none⟩) 1 1) rfl (ex_move rfl rfl) ?_
  refine sl_copyAt 0 (size := 2) (k := 1) (pre := p) (mid := z1) (post := z3 ++ z4) (cs := new) tV (wn rfl) rfl rfl rfl Tryz.underlying76 s10sz121 hv rfl (by simp only [List.append_assoc]) (by rw [hp]; omega) (by rw [hz1, hnew]) (by show 1 = min 1 _; omega) (by rw [hnew]) (rd_all (hv.get 2 rfl)) h1n (fun w21 hv => ?_)
  simp only [zO] at hv
  refine uW k20 (sK fun _ k22 => ?_)
  refine rW mixed [8] [0,1,2,3,4,5,6,7,8] 95 rfl (by kernel_rfl) hv ?_
  simp only [qm, opAt]
  refine dM (.slice (some ⟨b2, 0, none⟩) (i + (k + 1)) c2) rfl (dM (vI i) rfl ?_)
  refine dM (vI 1) rfl ?_
  simp only [zP, po]
  refine dG (vI ((i + 1 : Nat) : Int)) rfl (ex_add rfl rfl rfl (by rw [i64_in (by omega)]; omega)) (dG (.slice (some ⟨b2, 0 + (i + 1 : Nat) * 2, none⟩) ((i + (k + 1)) - (i + 1 : Nat)) (c2 - (i + 1 : Nat))) rfl (ex_slice (lo' := some (vI ((i + 1 : Nat) : Int))) rfl rfl (congrArg some rfl) rfl rfl (run_from (size := 2) Tryz.underlying76 h1es76 (by omega) (by omega))) ?_)
  refine dM (.slice (some ⟨b, 0, none⟩) n c) rfl ?_
  simp only [zP, po]
  refine dM (vI i) rfl (dG (.slice (some ⟨b, 0 + i * 2, none⟩) (n - i) (c - i)) rfl (ex_slice (lo' := some (vI i)) rfl rfl (congrArg some rfl) rfl rfl (run_from (size := 2) Tryz.underlying76 h1es76 (by omega) (by omega))) ?_)
  refine dS rfl fun w23 hv => mem_copyAt 0 (size := 2) (k := k) (pre := p ++ new) (mid := z3) (post := z4) (cs := d) rfl rfl rfl rfl Tryz.underlying76 s10sz121 hv rfl (by simp only [List.append_assoc]) (by rw [List.length_append, hp, hnew]; omega) (by rw [hz3, hd]) (by show k = min _ _; omega) (hd) (by have h9 := (hv.front 1 rfl).rowOk.2.1.drop (i * 2); rw [List.drop_left' hp] at h9; exact h9) h1d (fun w24 hv => ?_)
  simp only [zO] at hv
  refine dW hv (dE fun w25 hv => ?_)
  simp only [zP, po]
  refine tK k22 (sK fun _ k26 => ?_)
  refine rL (uM rfl ?_)
  refine uA rfl (uW k26 ?_)
  refine rR (tR ?_)
  refine bR rfl rfl ?_
  have h9 := (hv.sub (sC _ (sD _ (sD _ (sR _)))))
  rw [show (p ++ new) ++ d ++ z4 = (p ++ new ++ d) ++ z4 by simp only [List.append_assoc]] at h9
  have h8 := h9.cellRow (n := n + 1) (c := c2) (size := 2) (by simp only [List.length_append, hp, hd, hnew] at hzs ⊢; omega) (by omega) hc2m
  rw [List.take_left' (by rw [List.length_append, List.length_append, hp, hd, hnew]; omega)] at h8
  rw [show i + (k + 1) = n + 1 by omega]
  exact ⟨b2, _, rfl, h8⟩
 refine uG (.bool false) rfl (ex_gtr rfl rfl rfl (qF hb17)) ?_
 obtain ⟨L, hL1, hL2, hL3, hL4, hv⟩ := hv.rowCell
 obtain ⟨t1, t2, hLe, ht1⟩ : ∃ t1 t2 : List Value, L = p ++ (d ++ (t1 ++ t2)) ∧ t1.length = 2 := ⟨(L.drop (n * 2)).take 2, (L.drop (n * 2)).drop 2, by rw [List.take_append_drop, ← List.append_assoc, ← hL2, List.take_append_drop], by rw [List.length_take, List.length_drop, hL1]; omega⟩
 subst hLe
 refine uW k16 (cF rfl ?_)
 refine kS (tK k15 ?_)
 refine sK fun _ k27 => rL (uM rfl ?_)
 refine uM rfl (uM rfl ?_)
 refine uG (vI ((n + 1 : Nat) : Int)) rfl (ex_add rfl rfl rfl (by rw [i64_in (by omega)]; omega)) ?_
 refine uG (.slice (some ⟨b, 0, none⟩) (n + 1 : Nat) c) rfl (ex_slice (hi' := some (vI ((n + 1 : Nat) : Int))) rfl rfl rfl (congrArg some rfl) rfl (run_hi Tryz.underlying76 h1es76 (by omega))) (uA rfl ?_)
 refine uW k27 (sK fun _ k28 => ?_)
 refine sK fun _ k29 => rL (uG (.slice (some ⟨q, 0, none⟩) 1 1) rfl (ex_move rfl rfl) ?_)
 refine uM rfl (uM rfl ?_)
 refine uM rfl ?_
 refine uG (vI ((i + 1 : Nat) : Int)) rfl (ex_add rfl rfl rfl (by rw [i64_in (by omega)]; omega)) ?_
 refine uG (.slice (some ⟨b, 0 + (i + 1 : Nat) * 2, none⟩) ((n + 1 : Nat) - (i + 1 : Nat)) (c - (i + 1 : Nat))) rfl (ex_slice (lo' := some (vI ((i + 1 : Nat) : Int))) rfl rfl (congrArg some rfl) rfl rfl (run_from (size := 2) Tryz.underlying76 h1es76 (by omega) (by omega))) ?_
 have hov : (callFunc 99 #[.slice (some ⟨q, 0, none⟩) 1 1, .slice (some ⟨b, 0 + (i + 1 : Nat) * 2, none⟩) ((n + 1 : Nat) - (i + 1 : Nat)) (c - (i + 1 : Nat))]).run Tryz.prog w = .ok (.value (.bool false)) w := by
  rw [run_callFunc_extern Tryz.func99 (by kernel_rfl) (by kernel_rfl) (by kernel_rfl) (e := Extern.SlicesOverlaps.overlaps #[76, 76] #[4]) (by kernel_rfl), overlaps_cells (tR := 4) (size := 2) Tryz.underlying76 (Go.Pm.run_sizeOf s10sz121) (hv.get 1 rfl) (hv.get 0 rfl) hv.ne2.symm (by intro h9; have := congrArg List.length h9; simp [ht1] at this)]
  rfl
 refine uG (.bool false) rfl (ex_extern (args := #[.slice (some ⟨q, 0, none⟩) 1 1, .slice (some ⟨b, 0 + (i + 1 : Nat) * 2, none⟩) ((n + 1 : Nat) - (i + 1 : Nat)) (c - (i + 1 : Nat))]) rfl (by simp only [List.map_toArray, List.map_cons, List.map_nil]; rfl) hov) ?_
 refine uG (.bool true) rfl (ex_not rfl rfl rfl) (uW k29 ?_)
 refine cT rfl (sK fun _ k30 => ?_)
 refine rW mixed [8] [0,1,2,3,4,5,6,7,8] 95 rfl (by kernel_rfl) hv ?_
 simp only [qm, opAt]
 refine dM (.slice (some ⟨b, 0, none⟩) (n + 1 : Nat) c) rfl (dM (vI i) rfl ?_)
 refine dM (vI 1) rfl ?_
 simp only [zP, po]
 refine dG (vI ((i + 1 : Nat) : Int)) rfl (ex_add rfl rfl rfl (by rw [i64_in (by omega)]; omega)) (dG (.slice (some ⟨b, 0 + (i + 1 : Nat) * 2, none⟩) ((n + 1 : Nat) - (i + 1 : Nat)) (c - (i + 1 : Nat))) rfl (ex_slice (lo' := some (vI ((i + 1 : Nat) : Int))) rfl rfl (congrArg some rfl) rfl rfl (run_from (size := 2) Tryz.underlying76 h1es76 (by omega) (by omega))) ?_)
 refine dM (.slice (some ⟨b, 0, none⟩) (n + 1 : Nat) c) rfl ?_
 simp only [zP, po]
 refine dM (vI i) rfl (dG (.slice (some ⟨b, 0 + i * 2, none⟩) ((n + 1 : Nat) - i) (c - i)) rfl (ex_slice (lo' := some (vI i)) rfl rfl (congrArg some rfl) rfl rfl (run_from (size := 2) Tryz.underlying76 h1es76 (by omega) (by omega))) ?_)
 refine dS rfl fun w31 hv => mem_copyAt 0 (size := 2) (k := k) (pre := p ++ (d ++ t1).take 2) (mid := (d ++ t1).drop 2) (post := t2) (cs := d) rfl rfl rfl rfl Tryz.underlying76 s10sz121 hv rfl (by rw [List.append_assoc p, List.take_append_drop]; simp only [List.append_assoc]) (by rw [List.length_append, List.length_take, List.length_append, hp, hd, ht1]; omega) (by rw [List.length_drop, List.length_append, hd, ht1]; omega) (by show k = min _ _; omega) (hd) (src_mid (pre := p) (mid := d) (post := t1 ++ t2) (by have h9 := hv.get 0 rfl; simpa only [List.append_assoc] using h9) (by rw [hp]; omega)) h1d (fun w32 hv => ?_)
 simp only [zO] at hv
 refine dW hv (dE fun w33 hv => ?_)
 simp only [zP, po]
 refine tK k30 (sK fun _ k34 => ?_)
 refine rL (uM rfl ?_)
 refine uM rfl ?_
 refine uG (.slice (some ⟨b, 0 + i * 2, none⟩) ((n + 1 : Nat) - i) (c - i)) rfl (ex_slice (lo' := some (vI i)) rfl rfl (congrArg some rfl) rfl rfl (run_from (size := 2) Tryz.underlying76 h1es76 (by omega) (by omega))) ?_
 refine uG (.slice (some ⟨q, 0, none⟩) 1 1) rfl (ex_move rfl rfl) ?_
 refine sl_copyAt 0 (size := 2) (k := 1) (pre := p) (mid := (d ++ t1).take 2) (post := d ++ t2) (cs := new) tV (wn rfl) rfl rfl rfl Tryz.underlying76 s10sz121 hv rfl (by simp only [List.append_assoc]) (by rw [hp]; omega) (by rw [List.length_take, List.length_append, hd, ht1, hnew]; omega) (by show 1 = min 1 _; omega) (by rw [hnew]) (rd_all (hv.get 1 rfl)) h1n (fun w35 hv => ?_)
 simp only [zO] at hv
 refine uW k34 (sK fun _ k36 => ?_)
 refine rL (uM rfl ?_)
 refine uA rfl (uW k36 ?_)
 refine rR (tR ?_)
 refine bR rfl rfl ?_
 have h9 := (hv.sub (sC _ (sD _ (sR _))))
 rw [show p ++ new ++ (d ++ t2) = (p ++ new ++ d) ++ t2 by simp only [List.append_assoc]] at h9
 have h8 := h9.cellRow (n := n + 1) (c := c) (size := 2) (by simp only [List.length_append, hp, hd, hnew] at hL1 ⊢; omega) (by omega) hL4
 rw [List.take_left' (by rw [List.length_append, List.length_append, hp, hd, hnew]; omega)] at h8
 exact ⟨b, _, rfl, h8⟩
end Go.Proofs.YtffnhfkkochnhaaGreatDoor
