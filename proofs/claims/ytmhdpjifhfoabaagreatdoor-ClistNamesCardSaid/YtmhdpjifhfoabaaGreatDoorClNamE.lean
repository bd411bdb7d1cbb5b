/- Replies: a tree of kinds, texts, numbers and lists, in memory that stays. -/
import Derived.Test.YtmhdpjifhfoabaaGreatDoorClNamD
import Derived.Test.YtmhdpjifhfoabaaGreatDoorClNamB
import Derived.Test.YtmhdpjifhfoabaaGreatDoorRows
import Derived.Shelf.Strconv.ParseIntPublic10
import Derived.Shelf.Strconv.Itoa4
import Derived.Ground.NamesProg
import Derived.Lib.ItoaNum
import Derived.Lib.AtoiAll
import Derived.Lib.ParseIntBTie
import Derived.Test.YtmhdpjifhfoabaaGreatDoorClNamA
import Derived.LaidLaws
import Derived.LaidSub
set_option maxRecDepth 100000
set_option maxHeartbeats 16000000
set_option synthInstance.maxSize 4096
set_option synthInstance.maxHeartbeats 400000
namespace Go.Pm
open Go.RowKit
inductive Rp where
 | mk (kind : Int) (s : List UInt8) (n : Int) (l : List Rp)
def Rp.kind : Rp → Int
 | .mk k _ _ _ => k
abbrev rpCells (k : Int) (s : List UInt8) (n : Int) (v : Value) : List Value := [.int .i64 k, strV s, .int .i64 n, v]
mutual
def RpAt (B : Base) : Rp → List Value → Prop
 | .mk k s n l, cs => ∃ v xs, cs = rpCells k s n v ∧ RowB B v l.length xs ∧ RpsAt B l xs
def RpsAt (B : Base) : List Rp → List Value → Prop
 | [], xs => xs = []
 | r :: l, xs => ∃ cs ys, xs = cs ++ ys ∧ RpAt B r cs ∧ RpsAt B l ys
end
mutual
theorem RpAt.more {B C : Base} (hB : B.Le C) : ∀ {r : Rp} {cs : List Value}, RpAt B r cs → RpAt C r cs
 | .mk _ _ _ _, _, h => by
  simp only [RpAt] at h ⊢
  obtain ⟨v, xs, h1, h2, h3⟩ := h
  exact ⟨v, xs, h1, h2.more hB, RpsAt.more hB h3⟩
theorem RpsAt.more {B C : Base} (hB : B.Le C) : ∀ {l : List Rp} {xs : List Value}, RpsAt B l xs → RpsAt C l xs
 | [], _, h => by simp only [RpsAt] at h ⊢; exact h
 | _ :: _, _, h => by
  simp only [RpsAt] at h ⊢
  obtain ⟨cs, ys, h1, h2, h3⟩ := h
  exact ⟨cs, ys, h1, RpAt.more hB h2, RpsAt.more hB h3⟩
end
theorem RpAt.len {B : Base} {r : Rp} {cs : List Value} (h : RpAt B r cs) : cs.length = 4 := by
 cases r; simp only [RpAt] at h
 obtain ⟨v, xs, rfl, -⟩ := h; rfl
theorem RpsAt.nil {B : Base} : RpsAt B [] [] := by simp only [RpsAt]
theorem RpsAt.cons {B : Base} {r : Rp} {l : List Rp} {cs ys : List Value} (h1 : RpAt B r cs) (h2 : RpsAt B l ys) : RpsAt B (r :: l) (cs ++ ys) := by
 simp only [RpsAt]; exact ⟨cs, ys, rfl, h1, h2⟩
theorem RpsAt.uncons {B : Base} {r : Rp} {l : List Rp} {xs : List Value} (h : RpsAt B (r :: l) xs) : ∃ cs ys, xs = cs ++ ys ∧ RpAt B r cs ∧ RpsAt B l ys := by
 simp only [RpsAt] at h; exact h
theorem RpsAt.append {B : Base} {k : List Rp} {ys : List Value} (hk : RpsAt B k ys) : ∀ {l : List Rp} {xs : List Value}, RpsAt B l xs → RpsAt B (l ++ k) (xs ++ ys)
 | [], xs, h => by
  simp only [RpsAt] at h; subst h; exact hk
 | r :: l, xs, h => by
  obtain ⟨cs, zs, rfl, h1, h2⟩ := h.uncons
  rw [List.append_assoc]
  exact RpsAt.cons h1 (RpsAt.append hk h2)
theorem RpsAt.single {B : Base} {r : Rp} {cs : List Value} (h : RpAt B r cs) : RpsAt B [r] cs := by
 have := RpsAt.cons h (RpsAt.nil (B := B))
 rwa [List.append_nil] at this
theorem RpsAt.len {B : Base} : ∀ {l : List Rp} {xs : List Value}, RpsAt B l xs → xs.length = l.length * 4
 | [], xs, h => by simp only [RpsAt] at h; subst h; rfl
 | r :: l, xs, h => by
  obtain ⟨cs, zs, rfl, h1, h2⟩ := h.uncons
  rw [List.length_append, RpsAt.len h2, h1.len, List.length_cons]; omega
theorem RpsAt.get {B : Base} : ∀ {l : List Rp} {xs : List Value}, RpsAt B l xs → ∀ i (hi : i < l.length), ∃ cs, RpAt B l[i] cs ∧ ∀ j, j < 4 → cs[j]? = (xs.drop (i * 4))[j]?
 | [], _, _, i, hi => by simp at hi
 | r :: l, xs, h, i, hi => by
  obtain ⟨cs, zs, rfl, h1, h2⟩ := h.uncons
  cases i with
  | zero => exact ⟨cs, h1, fun j hj => by rw [Nat.zero_mul, List.drop_zero, List.getElem?_append_left (by rw [h1.len]; exact hj)]⟩
  | succ i =>
   obtain ⟨cs', e1, e2⟩ := RpsAt.get h2 i (by simpa using hi)
   refine ⟨cs', e1, fun j hj => (e2 j hj).trans ?_⟩
   rw [show (i + 1) * 4 = cs.length + i * 4 by rw [h1.len, Nat.succ_mul]; omega, ← List.drop_drop, List.drop_left]
theorem RpsAt.reads {B : Base} {l : List Rp} {xs : List Value} {ad : Option Addr} {i : Nat} {k : Int} {s : List UInt8} {n : Int} {q : List Rp} (h : RpsAt B l xs) (hr : RdV B [] ad xs) (hx : l[i]? = some (.mk k s n q)) :
  ∃ b off v ys, ad = some ⟨b, off, none⟩ ∧ RowB B v q.length ys ∧ RpsAt B q ys ∧ Reads B [] b (off + i * 4) (rpCells k s n v) := by
 obtain ⟨hi, hx⟩ := List.getElem?_eq_some_iff.1 hx
 obtain ⟨cs, h1, h2⟩ := h.get i hi
 rw [hx] at h1
 simp only [RpAt] at h1
 obtain ⟨v, ys, rfl, h3, h4⟩ := h1
 have hl := h.len
 have hle : i * 4 + 4 ≤ xs.length := by rw [hl]; have := Nat.mul_le_mul_right 4 (show i + 1 ≤ l.length by omega); rw [Nat.succ_mul] at this; exact this
 obtain ⟨b, off, h5, h6⟩ := rdW_reads (cs := rpCells k s n v) (k := i * 4) (m := 4) (hr.rdW []) hle (by decide) rfl (fun j hj => by
  rw [h2 j hj, List.getElem?_drop])
 exact ⟨b, off, v, ys, h5, h3, h4, h6⟩
def rInt (n : Int) : Rp := .mk 2 [] n []
def rStr (s : List UInt8) : Rp := .mk 3 s 0 []
def rNone : Rp := .mk 4 [] 0 []
def rText (s : List UInt8) : Rp := .mk 0 s 0 []
def rFault (s : List UInt8) : Rp := .mk 1 s 0 []
def rList (l : List Rp) : Rp := .mk 5 [] 0 l
def rStrs (l : List (List UInt8)) : Rp := rList (l.map rStr)
theorem RpAt.lv {B : Base} {r : Rp} {k : Int} {s : List UInt8} {n : Int} {v : Value} (h : RpAt B r (rpCells k s n v)) : v.cells = #[v] ∧ v.oneCell' = true := by
 cases r; simp only [RpAt] at h
 obtain ⟨v2, xs, h1, h2, -⟩ := h
 simp only [List.cons.injEq, and_true] at h1
 obtain ⟨-, -, -, rfl⟩ := h1
 exact ⟨h2.cells, h2.one⟩
theorem rpAt_leaf {B : Base} {k : Int} {s : List UInt8} {n : Int} : RpAt B (.mk k s n []) (rpCells k s n (.slice none 0 0)) := by
 simp only [RpAt]
 exact ⟨_, [], rfl, ⟨none, 0, rfl, ⟨Nat.le_refl _, Nat.zero_le _, fun _ => rfl⟩, rdV_nil⟩, RpsAt.nil⟩
theorem rpAt_of {B : Base} {k : Int} {s : List UInt8} {n : Int} {l : List Rp} {v : Value} {xs : List Value} (h1 : RowB B v l.length xs) (h2 : RpsAt B l xs) : RpAt B (.mk k s n l) (rpCells k s n v) := by
 simp only [RpAt]; exact ⟨v, xs, rfl, h1, h2⟩
def strsCells (l : List (List UInt8)) : List Value := l.flatMap fun s => rpCells 3 s 0 (.slice none 0 0)
theorem strsCells_at {B : Base} : ∀ (l : List (List UInt8)), RpsAt B (l.map rStr) (strsCells l)
 | [] => RpsAt.nil
 | s :: l => RpsAt.cons (rpAt_leaf (k := 3) (s := s) (n := 0)) (strsCells_at l)
theorem strsCells_next {l : List (List UInt8)} {i : Nat} {x : List UInt8} (h : l[i]? = some x) : strsCells (l.take (i + 1)) = strsCells (l.take i) ++ rpCells 3 x 0 (.slice none 0 0) := by
 rw [take_next h]; unfold strsCells; rw [List.flatMap_append]; rfl
end Go.Pm
namespace Go.Proofs.YtmhdpjifhfoabaaGreatDoor
open Go.RowKit Go.Pm
def OkM (M : List (List UInt8 × Ver)) : Prop := ∀ k y, lookA M k = some y → y.gone = true ∨ PutOk k y.val y.expire
section
variable {M M' : List (List UInt8 × Ver)} {clk exp ec : Int} {key : List UInt8} {x : Val} {y : Ver}
theorem OkM.nil : OkM [] := fun k y h => by cases h
theorem OkM.upd (h : OkM M) {k : List UInt8} {y : Ver} (hy : y.gone = true ∨ PutOk k y.val y.expire) : OkM (updA M k y) := fun k2 y2 h2 => by
 rw [look_upd] at h2
 split at h2
 ·rename_i e; cases h2; subst e; exact hy
 exact h k2 y2 h2
theorem OkM.keep (h : OkM M) (hk : KeepI M clk key x exp ec M') : OkM M' := by
 rcases hk with ⟨-, h1, -, rfl⟩ | ⟨-, -, -, rfl⟩ | ⟨-, -, -, rfl⟩ | ⟨-, -, ⟨-, -, rfl⟩ | ⟨-, -, rfl⟩⟩
 ·exact h.upd (.inr h1)
 ·exact h
 ·exact h
 ·exact h.upd (.inl rfl)
 exact h
theorem keep_not (hk : KeepI M clk key x exp ec M') (he : ec ≠ 0) : M' = M := by
 rcases hk with ⟨-, -, h, -⟩ | ⟨-, -, -, rfl⟩ | ⟨-, -, -, rfl⟩ | ⟨-, -, ⟨-, h, -⟩ | ⟨-, -, rfl⟩⟩
 ·exact absurd h he
 ·rfl
 ·rfl
 ·exact absurd h he
 rfl
theorem alive_gone {y : Ver} (h : aliveB y clk = true) : y.gone = false := by
 unfold aliveB at h
 cases hy : y.gone <;> simp [hy] at h ⊢
theorem OkM.alive (h : OkM M) (hl : lookA M key = some y) (ha : aliveB y clk = true) : PutOk key y.val y.expire := by
 rcases h key y hl with h1 | h1
 ·rw [alive_gone ha] at h1; cases h1
 exact h1
end
def IsF (r : Rp) : Prop := r.kind = 1
def DoneR (ec : Int) (r0 r : Rp) : Prop := (ec = 0 ∧ r = r0) ∨ (ec ≠ 0 ∧ IsF r)
def CmdR (M M' : List (List UInt8 × Ver)) (r : Rp) : Prop := OkM M' ∧ (IsF r → M' = M)
theorem isF_int {n : Int} : ¬ IsF (rInt n) := fun h => absurd (show (2 : Int) = 1 from h) (by decide)
theorem DoneR.keep {M M' : List (List UInt8 × Ver)} {clk exp ec : Int} {key : List UInt8} {x : Val} {r0 r : Rp} (hM : OkM M) (hk : KeepI M clk key x exp ec M') (hd : DoneR ec r0 r) (h0 : ¬ IsF r0) : CmdR M M' r := by
 refine ⟨hM.keep hk, fun hf => ?_⟩
 rcases hd with ⟨-, rfl⟩ | ⟨he, -⟩
 ·exact absurd hf h0
 exact keep_not hk he
theorem rsal28 : AL Tryz.prog 28 [vI 0, vS [], vI 0, vN] := fun w => by kernel_rfl
theorem rssz28 : (Tryz.prog.info? 28).map (·.size) = some 4 := by kernel_rfl
theorem rswd28 : Wide Tryz.prog 28 4 := wide_of (fun w => by kernel_rfl) (by kernel_rfl)
theorem respInt (B : Base) (H : List Res) (w : World) (n : Int) (hv : Inv B H w) :
  Calls Tryz.prog 43 #[vI n] w fun e w' => e = .returned (.agg #[vI 2, vS [], vI n, vN]) ∧ Inv B H w' := by
 refine cW Tryz.func43 rfl Tryz.ntmps43 ?_
 simp only [al]
 refine sK fun _ k1 => rL (sl_alloc tV (wn rfl) rfl hv rsal28 (fun b2 w3 hv => ?_))
 refine uW k1 (sK fun _ k4 => ?_)
 refine rL (uM rfl ?_)
 refine uG (.agg #[vI 2, vS [], vI n, vN]) rfl (ex_buildN (vs := #[(0, vI 2), (2, vI n)]) rfl (by simp only [List.map_toArray, List.map_cons, List.map_nil]; rfl) (by kernel_rfl)) ?_
 refine xS 0 rfl hv rssz28 rfl (by exact ⟨rfl, rfl, rfl, rfl, trivial⟩) (fun w5 hv => ?_)
 simp only [zO, sp] at hv
 refine uW k4 (rR ?_)
 refine bC 0 rswd28 hv rfl rfl rfl rfl (⟨rfl, (hv.kp [] 0 1)⟩)
theorem respStr (B : Base) (H : List Res) (w : World) (s : List UInt8) (hv : Inv B H w) :
  Calls Tryz.prog 69 #[vS s] w fun e w' => e = .returned (.agg #[vI 3, vS s, vI 0, vN]) ∧ Inv B H w' := by
 refine cW Tryz.func69 rfl Tryz.ntmps69 ?_
 simp only [al]
 refine sK fun _ k1 => rL (sl_alloc tV (wn rfl) rfl hv rsal28 (fun b2 w3 hv => ?_))
 refine uW k1 (sK fun _ k4 => ?_)
 refine rL (uM rfl ?_)
 refine uG (.agg #[vI 3, vS s, vI 0, vN]) rfl (ex_buildN (vs := #[(0, vI 3), (1, vS s)]) rfl (by simp only [List.map_toArray, List.map_cons, List.map_nil]; rfl) (by kernel_rfl)) ?_
 refine xS 0 rfl hv rssz28 rfl (by exact ⟨rfl, rfl, rfl, rfl, trivial⟩) (fun w5 hv => ?_)
 simp only [zO, sp] at hv
 refine uW k4 (rR ?_)
 refine bC 0 rswd28 hv rfl rfl rfl rfl (⟨rfl, (hv.kp [] 0 1)⟩)
theorem respText (B : Base) (H : List Res) (w : World) (s : List UInt8) (hv : Inv B H w) :
  Calls Tryz.prog 82 #[vS s] w fun e w' => e = .returned (.agg #[vI 0, vS s, vI 0, vN]) ∧ Inv B H w' := by
 refine cW Tryz.func82 rfl Tryz.ntmps82 ?_
 simp only [al]
 refine sK fun _ k1 => rL (sl_alloc tV (wn rfl) rfl hv rsal28 (fun b2 w3 hv => ?_))
 refine uW k1 (sK fun _ k4 => ?_)
 refine rL (uM rfl ?_)
 refine uG (.agg #[vI 0, vS s, vI 0, vN]) rfl (ex_buildN (vs := #[(0, vI 0), (1, vS s)]) rfl (by simp only [List.map_toArray, List.map_cons, List.map_nil]; rfl) (by kernel_rfl)) ?_
 refine xS 0 rfl hv rssz28 rfl (by exact ⟨rfl, rfl, rfl, rfl, trivial⟩) (fun w5 hv => ?_)
 simp only [zO, sp] at hv
 refine uW k4 (rR ?_)
 refine bC 0 rswd28 hv rfl rfl rfl rfl (⟨rfl, (hv.kp [] 0 1)⟩)
theorem respWrong (B : Base) (H : List Res) (w : World) (s : List UInt8) (hv : Inv B H w) :
  Calls Tryz.prog 38 #[vS s] w fun e w' => e = .returned (.agg #[vI 1, vS s, vI 0, vN]) ∧ Inv B H w' := by
 refine cW Tryz.func38 rfl Tryz.ntmps38 ?_
 simp only [al]
 refine sK fun _ k1 => rL (sl_alloc tV (wn rfl) rfl hv rsal28 (fun b2 w3 hv => ?_))
 refine uW k1 (sK fun _ k4 => ?_)
 refine rL (uM rfl ?_)
 refine uG (.agg #[vI 1, vS s, vI 0, vN]) rfl (ex_buildN (vs := #[(0, vI 1), (1, vS s)]) rfl (by simp only [List.map_toArray, List.map_cons, List.map_nil]; rfl) (by kernel_rfl)) ?_
 refine xS 0 rfl hv rssz28 rfl (by exact ⟨rfl, rfl, rfl, rfl, trivial⟩) (fun w5 hv => ?_)
 simp only [zO, sp] at hv
 refine uW k4 (rR ?_)
 refine bC 0 rswd28 hv rfl rfl rfl rfl (⟨rfl, (hv.kp [] 0 1)⟩)
theorem respNone (B : Base) (H : List Res) (w : World) (hv : Inv B H w) :
  Calls Tryz.prog 68 #[] w fun e w' => e = .returned (.agg #[vI 4, vS [], vI 0, vN]) ∧ Inv B H w' := by
 refine cW Tryz.func68 rfl Tryz.ntmps68 ?_
 simp only [al]
 refine sK fun _ k1 => rL (sl_alloc tV (wn rfl) rfl hv rsal28 (fun b2 w3 hv => ?_))
 refine uW k1 (sK fun _ k4 => ?_)
 refine rL (uG (.agg #[vI 4, vS [], vI 0, vN]) rfl (ex_buildN (vs := #[(0, vI 4)]) rfl (by simp only [List.map_toArray, List.map_cons, List.map_nil]; rfl) (by kernel_rfl)) ?_)
 refine xS 0 rfl hv rssz28 rfl (by exact ⟨rfl, rfl, rfl, rfl, trivial⟩) (fun w5 hv => ?_)
 simp only [zO, sp] at hv
 refine uW k4 (rR ?_)
 refine bC 0 rswd28 hv rfl rfl rfl rfl (⟨rfl, (hv.kp [] 0 1)⟩)
theorem rscallable38 : Callable Tryz.prog 38 := cb Tryz.func38 (by kernel_rfl)
theorem viewWrong (B : Base) (H : List Res) (w : World) (n : Int) (hv : Inv B H w) :
  Calls Tryz.prog 25 #[vI n] w fun e w' => ∃ s : List UInt8, e = .returned (.agg #[vI 1, vS s, vI 0, vN]) ∧ Inv B H w' := by
 refine cW Tryz.func25 rfl Tryz.ntmps25 ?_
 simp only [al]
 refine sK fun _ k1 => rL (sl_alloc tV (wn rfl) rfl hv rsal28 (fun b2 w3 hv => ?_))
 refine uW k1 (sK fun _ k4 => ?_)
 refine sK fun _ k5 => rL (uM rfl ?_)
 refine uW k5 (bB ?_)
 refine sK fun _ k6 => rL ?_
 by_cases hb7 : n = 40
 ·refine uG (.bool true) rfl (ex_eql rfl rfl rfl (qT hb7)) (uA rfl ?_)
  refine uW k6 (cT rfl ?_)
  refine sK fun _ k8 => rL (xC rscallable38 rfl ((respWrong B _ _ ([87, 82, 79, 78, 71, 84, 89, 80, 69, 32, 116, 104, 101, 32, 107, 101, 121, 32, 104, 97, 115, 32, 97, 32, 118, 97, 108, 117, 101, 32, 111, 102, 32, 97, 110, 111, 116, 104, 101, 114, 32, 107, 105, 110, 100] : List UInt8) hv).mono ?_) rfl)
  rintro e w9 ⟨rfl, hv⟩
  refine ⟨_, rfl, ?_⟩
  refine xS 0 rfl hv rssz28 rfl (by exact ⟨rfl, rfl, rfl, rfl, trivial⟩) (fun w10 hv => ?_)
  simp only [zO, sp] at hv
  refine uW k8 (rR ?_)
  refine bZ (tR ?_)
  refine bC 0 rswd28 hv rfl rfl rfl rfl (⟨_, rfl, (hv.kp [] 0 1)⟩)
 refine uG (.bool false) rfl (ex_eql rfl rfl rfl (qF hb7)) (uA rfl ?_)
 refine uW k6 (cF rfl ?_)
 refine sK fun _ k11 => rL ?_
 by_cases hb12 : n = 41
 ·refine uG (.bool true) rfl (ex_eql rfl rfl rfl (qT hb12)) (uA rfl ?_)
  refine uW k11 (cT rfl ?_)
  refine sK fun _ k13 => rL (xC rscallable38 rfl ((respWrong B _ _ ([69, 82, 82, 32, 105, 116, 32, 105, 115, 32, 110, 111, 32, 110, 117, 109, 98, 101, 114] : List UInt8) hv).mono ?_) rfl)
  rintro e w14 ⟨rfl, hv⟩
  refine ⟨_, rfl, ?_⟩
  refine xS 0 rfl hv rssz28 rfl (by exact ⟨rfl, rfl, rfl, rfl, trivial⟩) (fun w15 hv => ?_)
  simp only [zO, sp] at hv
  refine uW k13 (rR ?_)
  refine bZ (tR ?_)
  refine bC 0 rswd28 hv rfl rfl rfl rfl (⟨_, rfl, (hv.kp [] 0 1)⟩)
 refine uG (.bool false) rfl (ex_eql rfl rfl rfl (qF hb12)) (uA rfl ?_)
 refine uW k11 (cF rfl ?_)
 refine sK fun _ k16 => rL ?_
 by_cases hb17 : n = 13
 ·refine uG (.bool true) rfl (ex_eql rfl rfl rfl (qT hb17)) (uA rfl ?_)
  refine uW k16 (cT rfl ?_)
  refine sK fun _ k18 => rL (xC rscallable38 rfl ((respWrong B _ _ ([69, 82, 82, 32, 116, 104, 101, 32, 110, 117, 109, 98, 101, 114, 32, 105, 115, 32, 116, 111, 111, 32, 103, 114, 101, 97, 116, 32, 111, 114, 32, 116, 111, 111, 32, 115, 109, 97, 108, 108] : List UInt8) hv).mono ?_) rfl)
  rintro e w19 ⟨rfl, hv⟩
  refine ⟨_, rfl, ?_⟩
  refine xS 0 rfl hv rssz28 rfl (by exact ⟨rfl, rfl, rfl, rfl, trivial⟩) (fun w20 hv => ?_)
  simp only [zO, sp] at hv
  refine uW k18 (rR ?_)
  refine bZ (tR ?_)
  refine bC 0 rswd28 hv rfl rfl rfl rfl (⟨_, rfl, (hv.kp [] 0 1)⟩)
 refine uG (.bool false) rfl (ex_eql rfl rfl rfl (qF hb17)) (uA rfl ?_)
 refine uW k16 (cF rfl ?_)
 refine sK fun _ k21 => rL ?_
 by_cases hb22 : n = 42
 ·refine uG (.bool true) rfl (ex_eql rfl rfl rfl (qT hb22)) (uA rfl ?_)
  refine uW k21 (cT rfl ?_)
  refine sK fun _ k23 => rL (xC rscallable38 rfl ((respWrong B _ _ ([69, 82, 82, 32, 115, 121, 110, 116, 97, 120] : List UInt8) hv).mono ?_) rfl)
  rintro e w24 ⟨rfl, hv⟩
  refine ⟨_, rfl, ?_⟩
  refine xS 0 rfl hv rssz28 rfl (by exact ⟨rfl, rfl, rfl, rfl, trivial⟩) (fun w25 hv => ?_)
  simp only [zO, sp] at hv
  refine uW k23 (rR ?_)
  refine bZ (tR ?_)
  refine bC 0 rswd28 hv rfl rfl rfl rfl (⟨_, rfl, (hv.kp [] 0 1)⟩)
 refine uG (.bool false) rfl (ex_eql rfl rfl rfl (qF hb22)) (uA rfl ?_)
 refine uW k21 (cF rfl ?_)
 refine sK fun _ k26 => rL ?_
 by_cases hb27 : n = 43
 ·refine uG (.bool true) rfl (ex_eql rfl rfl rfl (qT hb27)) (uA rfl ?_)
  refine uW k26 (cT rfl ?_)
  refine sK fun _ k28 => rL (xC rscallable38 rfl ((respWrong B _ _ ([69, 82, 82, 32, 119, 114, 111, 110, 103, 32, 110, 117, 109, 98, 101, 114, 32, 111, 102, 32, 97, 114, 103, 117, 109, 101, 110, 116, 115] : List UInt8) hv).mono ?_) rfl)
  rintro e w29 ⟨rfl, hv⟩
  refine ⟨_, rfl, ?_⟩
  refine xS 0 rfl hv rssz28 rfl (by exact ⟨rfl, rfl, rfl, rfl, trivial⟩) (fun w30 hv => ?_)
  simp only [zO, sp] at hv
  refine uW k28 (rR ?_)
  refine bZ (tR ?_)
  refine bC 0 rswd28 hv rfl rfl rfl rfl (⟨_, rfl, (hv.kp [] 0 1)⟩)
 refine uG (.bool false) rfl (ex_eql rfl rfl rfl (qF hb27)) (uA rfl ?_)
 refine uW k26 (cF rfl ?_)
 refine sK fun _ k31 => rL ?_
 by_cases hb32 : n = 44
 ·refine uG (.bool true) rfl (ex_eql rfl rfl rfl (qT hb32)) (uA rfl ?_)
  refine uW k31 (cT rfl ?_)
  refine sK fun _ k33 => rL (xC rscallable38 rfl ((respWrong B _ _ ([69, 82, 82, 32, 116, 104, 101, 114, 101, 32, 105, 115, 32, 110, 111, 32, 115, 117, 99, 104, 32, 112, 108, 97, 99, 101] : List UInt8) hv).mono ?_) rfl)
  rintro e w34 ⟨rfl, hv⟩
  refine ⟨_, rfl, ?_⟩
  refine xS 0 rfl hv rssz28 rfl (by exact ⟨rfl, rfl, rfl, rfl, trivial⟩) (fun w35 hv => ?_)
  simp only [zO, sp] at hv
  refine uW k33 (rR ?_)
  refine bZ (tR ?_)
  refine bC 0 rswd28 hv rfl rfl rfl rfl (⟨_, rfl, (hv.kp [] 0 1)⟩)
 refine uG (.bool false) rfl (ex_eql rfl rfl rfl (qF hb32)) (uA rfl ?_)
 refine uW k31 (cF rfl ?_)
 refine sK fun _ k36 => rL ?_
 by_cases hb37 : n = 23
 ·refine uG (.bool true) rfl (ex_eql rfl rfl rfl (qT hb37)) (uA rfl ?_)
  refine uW k36 (cT rfl ?_)
  refine sK fun _ k38 => rL (xC rscallable38 rfl ((respWrong B _ _ ([69, 82, 82, 32, 116, 104, 101, 114, 101, 32, 105, 115, 32, 110, 111, 32, 115, 117, 99, 104, 32, 107, 101, 121] : List UInt8) hv).mono ?_) rfl)
  rintro e w39 ⟨rfl, hv⟩
  refine ⟨_, rfl, ?_⟩
  refine xS 0 rfl hv rssz28 rfl (by exact ⟨rfl, rfl, rfl, rfl, trivial⟩) (fun w40 hv => ?_)
  simp only [zO, sp] at hv
  refine uW k38 (rR ?_)
  refine bZ (tR ?_)
  refine bC 0 rswd28 hv rfl rfl rfl rfl (⟨_, rfl, (hv.kp [] 0 1)⟩)
 refine uG (.bool false) rfl (ex_eql rfl rfl rfl (qF hb37)) (uA rfl ?_)
 refine uW k36 (cF rfl ?_)
 refine sK fun _ k41 => sK fun _ k42 => rL ?_
 by_cases hb43 : n = 12
 ·refine uG (.bool true) rfl (ex_eql rfl rfl rfl (qT hb43)) (uA rfl ?_)
  refine uW k42 (cT rfl ?_)
  refine kS (tK k41 ?_)
  refine cT rfl (sK fun _ k44 => ?_)
  refine rL (xC rscallable38 rfl ((respWrong B _ _ ([69, 82, 82, 32, 105, 116, 32, 105, 115, 32, 116, 111, 111, 32, 109, 117, 99, 104] : List UInt8) hv).mono ?_) rfl)
  rintro e w45 ⟨rfl, hv⟩
  refine ⟨_, rfl, ?_⟩
  refine xS 0 rfl hv rssz28 rfl (by exact ⟨rfl, rfl, rfl, rfl, trivial⟩) (fun w46 hv => ?_)
  simp only [zO, sp] at hv
  refine uW k44 (rR ?_)
  refine bZ (tR ?_)
  refine bC 0 rswd28 hv rfl rfl rfl rfl (⟨_, rfl, (hv.kp [] 0 1)⟩)
 refine uG (.bool false) rfl (ex_eql rfl rfl rfl (qF hb43)) (uA rfl ?_)
 refine uW k42 (cF rfl ?_)
 refine rL ?_
 by_cases hb47 : n = 22
 ·refine uG (.bool true) rfl (ex_eql rfl rfl rfl (qT hb47)) (uA rfl ?_)
  refine uW k41 (cT rfl ?_)
  refine sK fun _ k48 => rL (xC rscallable38 rfl ((respWrong B _ _ ([69, 82, 82, 32, 105, 116, 32, 105, 115, 32, 116, 111, 111, 32, 109, 117, 99, 104] : List UInt8) hv).mono ?_) rfl)
  rintro e w49 ⟨rfl, hv⟩
  refine ⟨_, rfl, ?_⟩
  refine xS 0 rfl hv rssz28 rfl (by exact ⟨rfl, rfl, rfl, rfl, trivial⟩) (fun w50 hv => ?_)
  simp only [zO, sp] at hv
  refine uW k48 (rR ?_)
  refine bZ (tR ?_)
  refine bC 0 rswd28 hv rfl rfl rfl rfl (⟨_, rfl, (hv.kp [] 0 1)⟩)
 refine uG (.bool false) rfl (ex_eql rfl rfl rfl (qF hb47)) (uA rfl ?_)
 refine uW k41 (cF rfl ?_)
 refine sK fun _ k51 => rL ?_
 by_cases hb52 : n = 32
 ·refine uG (.bool true) rfl (ex_eql rfl rfl rfl (qT hb52)) (uA rfl ?_)
  refine uW k51 (cT rfl ?_)
  refine sK fun _ k53 => rL (xC rscallable38 rfl ((respWrong B _ _ ([82, 69, 65, 68, 79, 78, 76, 89, 32, 105, 116, 32, 109, 97, 121, 32, 114, 101, 97, 100, 32, 97, 108, 111, 110, 101] : List UInt8) hv).mono ?_) rfl)
  rintro e w54 ⟨rfl, hv⟩
  refine ⟨_, rfl, ?_⟩
  refine xS 0 rfl hv rssz28 rfl (by exact ⟨rfl, rfl, rfl, rfl, trivial⟩) (fun w55 hv => ?_)
  simp only [zO, sp] at hv
  refine uW k53 (rR ?_)
  refine bZ (tR ?_)
  refine bC 0 rswd28 hv rfl rfl rfl rfl (⟨_, rfl, (hv.kp [] 0 1)⟩)
 refine uG (.bool false) rfl (ex_eql rfl rfl rfl (qF hb52)) (uA rfl ?_)
 refine uW k51 (cF rfl ?_)
 refine kS (bN ?_)
 refine tK k4 (sK fun _ k56 => ?_)
 refine rL (xC rscallable38 rfl ((respWrong B _ _ ([69, 82, 82, 32, 105, 116, 32, 109, 97, 121, 32, 110, 111, 116, 32, 98, 101] : List UInt8) hv).mono ?_) rfl)
 rintro e w57 ⟨rfl, hv⟩
 refine ⟨_, rfl, ?_⟩
 refine xS 0 rfl hv rssz28 rfl (by exact ⟨rfl, rfl, rfl, rfl, trivial⟩) (fun w58 hv => ?_)
 simp only [zO, sp] at hv
 refine uW k56 (rR ?_)
 refine bC 0 rswd28 hv rfl rfl rfl rfl (⟨_, rfl, (hv.kp [] 0 1)⟩)
theorem rscallable25 : Callable Tryz.prog 25 := cb Tryz.func25 (by kernel_rfl)
theorem viewDone (B : Base) (H : List Res) (w : World) (n k m : Int) (s0 : List UInt8) (v : Value) (_ : v.cells = #[v]) (h2 : v.oneCell' = true) (hv : Inv B H w) :
  Calls Tryz.prog 42 #[vI n, .agg #[vI k, vS s0, vI m, v]] w fun e w' => ∃ x, ((n = 0 ∧ x = .agg #[vI k, vS s0, vI m, v]) ∨ (n ≠ 0 ∧ ∃ s : List UInt8, x = .agg #[vI 1, vS s, vI 0, vN])) ∧ e = .returned x ∧ Inv B H w' := by
 refine cW Tryz.func42 rfl Tryz.ntmps42 ?_
 simp only [al]
 refine sK fun _ k1 => rL (sl_box (L := [vI k, vS s0, vI m, v]) tV (wn rfl) rfl rfl hv (fun w => by kernel_rfl) (fun b2 w3 hv => ?_))
 refine sl_alloc tV (wn rfl) rfl hv rsal28 (fun b4 w5 hv => ?_)
 refine uW k1 (sK fun _ k6 => ?_)
 refine sK fun _ k7 => rL (uM rfl ?_)
 by_cases hb8 : n ≠ 0
 ·refine uG (.bool true) rfl (ex_neq rfl rfl rfl (qT hb8)) (uW k7 ?_)
  refine cT rfl (sK fun _ k9 => ?_)
  refine rL (uM rfl ?_)
  refine xC rscallable25 rfl ((viewWrong B _ _ n hv).mono ?_) rfl
  rintro e w11 ⟨s10, rfl, hv⟩
  refine ⟨_, rfl, ?_⟩
  refine xS 0 rfl hv rssz28 rfl (by exact ⟨rfl, rfl, rfl, rfl, trivial⟩) (fun w12 hv => ?_)
  simp only [zO, sp] at hv
  refine uW k9 (rR ?_)
  refine tR (bC 0 rswd28 hv rfl rfl rfl rfl ?_)
  exact ⟨_, .inr ⟨by omega, _, rfl⟩, rfl, (hv.kp [] 0 2)⟩
 refine uG (.bool false) rfl (ex_neq rfl rfl rfl (qF hb8)) (uW k7 ?_)
 refine cF rfl (kS ?_)
 refine tK k6 (sK fun _ k13 => ?_)
 refine rL (uL (.agg #[vI k, vS s0, vI m, v]) rfl (lM 1 rswd28 hv rfl rfl rfl rfl) ?_)
 refine xS 0 rfl hv rssz28 rfl (by exact ⟨rfl, rfl, rfl, h2, trivial⟩) (fun w14 hv => ?_)
 simp only [zO, sp] at hv
 refine uW k13 (rR ?_)
 refine bC 0 rswd28 hv rfl rfl rfl rfl (⟨_, .inl ⟨by omega, rfl⟩, rfl, (hv.kp [] 0 2)⟩)
end Go.Proofs.YtmhdpjifhfoabaaGreatDoor
namespace Go.Proofs
open Go.Shelf
def Tryz.laysPI_ren : Go.Shelf.Ren := ⟨fun | 174 => 107 | 247 => 113 | 245 => 114 | 287 => 127 | 279 => 128 | 280 => 129 | 281 => 130 | 282 => 131 | 321 => 139 | 322 => 140 | 316 => 141 | 171 => 143 | 205 => 142 | 243 => 149 | 246 => 132 | 283 => 144 | 284 => 145 | 285 => 146 | 286 => 147 | 129 => 126 | 317 => 150 | 318 => 151 | 319 => 152 | 320 => 153 | 337 => 154 | 338 => 155 | n => n, fun | 9 => 9 | 3 => 3 | 2 => 2 | 75 => 192 | 85 => 193 | 4 => 4 | 167 => 215 | 5 => 5 | 53 => 214 | 175 => 216 | 46 => 199 | 168 => 218 | 37 => 227 | 0 => 0 | 210 => 230 | 21 => 21 | 127 => 238 | 145 => 241 | 143 => 239 | 171 => 232 | 173 => 234 | 212 => 243 | 51 => 212 | 20 => 20 | 213 => 244 | 232 => 245 | 233 => 246 | 80 => 247 | n => n, fun | 15 => 0 | 16 => 1 | 17 => 2 | 18 => 3 | 19 => 4 | n => n⟩
theorem Tryz.laysPI : Go.Proofs.LaysC.n174 Tryz.prog Tryz.laysPI_ren := {
 mixed := by kernel_rfl
 f129 := Tryz.func126.trans (congrArg some (by kernel_rfl))
 f171 := Tryz.func143.trans (congrArg some (by kernel_rfl))
 f174 := Tryz.func107.trans (congrArg some (by kernel_rfl))
 f205 := Tryz.func142.trans (congrArg some (by kernel_rfl))
 f243 := Tryz.func149.trans (congrArg some (by kernel_rfl))
 f245 := Tryz.func114.trans (congrArg some (by kernel_rfl))
 f246 := Tryz.func132.trans (congrArg some (by kernel_rfl))
 f247 := Tryz.func113.trans (congrArg some (by kernel_rfl))
 f279 := Tryz.func128.trans (congrArg some (by kernel_rfl))
 f280 := Tryz.func129.trans (congrArg some (by kernel_rfl))
 f281 := Tryz.func130.trans (congrArg some (by kernel_rfl))
 f282 := Tryz.func131.trans (congrArg some (by kernel_rfl))
 f283 := Tryz.func144.trans (congrArg some (by kernel_rfl))
 f284 := Tryz.func145.trans (congrArg some (by kernel_rfl))
 f285 := Tryz.func146.trans (congrArg some (by kernel_rfl))
 f286 := Tryz.func147.trans (congrArg some (by kernel_rfl))
 f287 := Tryz.func127.trans (congrArg some (by kernel_rfl))
 f316 := Tryz.func141.trans (congrArg some (by kernel_rfl))
 f317 := Tryz.func150.trans (congrArg some (by kernel_rfl))
 f318 := Tryz.func151.trans (congrArg some (by kernel_rfl))
 f319 := Tryz.func152.trans (congrArg some (by kernel_rfl))
 f320 := Tryz.func153.trans (congrArg some (by kernel_rfl))
 f321 := Tryz.func139.trans (congrArg some (by kernel_rfl))
 f322 := Tryz.func140.trans (congrArg some (by kernel_rfl))
 f337 := Tryz.func154.trans (congrArg some (by kernel_rfl))
 f338 := Tryz.func155.trans (congrArg some (by kernel_rfl))
 t0 := Tryz.underlying0
 a0 := Tryz.isAgg0
 z0 := Tryz.sizeOf0
 v0 := Tryz.zeroValue0
 t2 := Tryz.underlying2
 a2 := Tryz.isAgg2
 z2 := Tryz.sizeOf2
 v2 := Tryz.zeroValue2
 t3 := Tryz.underlying3
 a3 := Tryz.isAgg3
 z3 := Tryz.sizeOf3
 v3 := Tryz.zeroValue3
 t4 := Tryz.underlying4
 a4 := Tryz.isAgg4
 z4 := Tryz.sizeOf4
 v4 := Tryz.zeroValue4
 t5 := Tryz.underlying5
 a5 := Tryz.isAgg5
 z5 := Tryz.sizeOf5
 v5 := Tryz.zeroValue5
 t9 := Tryz.underlying9
 a9 := Tryz.isAgg9
 z9 := Tryz.sizeOf9
 v9 := Tryz.zeroValue9
 t20 := Tryz.underlying20
 a20 := Tryz.isAgg20
 z20 := Tryz.sizeOf20
 v20 := Tryz.zeroValue20
 t21 := Tryz.underlying21
 a21 := Tryz.isAgg21
 z21 := Tryz.sizeOf21
 v21 := Tryz.zeroValue21
 t37 := Tryz.underlying227
 a37 := Tryz.isAgg227
 z37 := Tryz.sizeOf227
 v37 := Tryz.zeroValue227
 t46 := Tryz.underlying199
 a46 := Tryz.isAgg199
 z46 := Tryz.sizeOf199
 v46 := Tryz.zeroValue199
 t51 := Tryz.underlying212
 a51 := Tryz.isAgg212
 z51 := Tryz.sizeOf212
 v51 := Tryz.zeroValue212
 t53 := Tryz.underlying214
 a53 := Tryz.isAgg214
 z53 := Tryz.sizeOf214
 v53 := Tryz.zeroValue214
 t75 := Tryz.underlying192
 a75 := Tryz.isAgg192
 z75 := Tryz.sizeOf192
 v75 := Tryz.zeroValue192
 t85 := Tryz.underlying193
 a85 := Tryz.isAgg193
 z85 := Tryz.sizeOf193
 v85 := Tryz.zeroValue193
 t127 := Tryz.underlying238
 a127 := Tryz.isAgg238
 z127 := Tryz.sizeOf238
 v127 := Tryz.zeroValue238
 t143 := Tryz.underlying239
 a143 := Tryz.isAgg239
 z143 := Tryz.sizeOf239
 v143 := Tryz.zeroValue239
 t145 := Tryz.underlying241
 a145 := Tryz.isAgg241
 z145 := Tryz.sizeOf241
 v145 := Tryz.zeroValue241
 t167 := Tryz.underlying215
 a167 := Tryz.isAgg215
 z167 := Tryz.sizeOf215
 v167 := Tryz.zeroValue215
 t168 := Tryz.underlying218
 a168 := Tryz.isAgg218
 z168 := Tryz.sizeOf218
 v168 := Tryz.zeroValue218
 t171 := Tryz.underlying232
 a171 := Tryz.isAgg232
 z171 := Tryz.sizeOf232
 v171 := Tryz.zeroValue232
 t173 := Tryz.underlying234
 a173 := Tryz.isAgg234
 z173 := Tryz.sizeOf234
 v173 := Tryz.zeroValue234
 t175 := Tryz.underlying216
 a175 := Tryz.isAgg216
 z175 := Tryz.sizeOf216
 v175 := Tryz.zeroValue216
 t210 := Tryz.underlying230
 a210 := Tryz.isAgg230
 z210 := Tryz.sizeOf230
 v210 := Tryz.zeroValue230
 t212 := Tryz.underlying243
 a212 := Tryz.isAgg243
 z212 := Tryz.sizeOf243
 v212 := Tryz.zeroValue243
 t213 := Tryz.underlying244
 a213 := Tryz.isAgg244
 z213 := Tryz.sizeOf244
 t232 := Tryz.underlying245
 a232 := Tryz.isAgg245
 z232 := Tryz.sizeOf245
 v232 := Tryz.zeroValue245
 t233 := Tryz.underlying246
 a233 := Tryz.isAgg246
 z233 := Tryz.sizeOf246
 v233 := Tryz.zeroValue246
 g15 := by kernel_rfl
 g16 := by kernel_rfl
 g17 := by kernel_rfl
 g18 := by kernel_rfl
 g19 := by kernel_rfl
 t80 := Tryz.underlying247
 a80 := Tryz.isAgg247
 z80 := Tryz.sizeOf247
 v80 := Tryz.zeroValue247
 i0 := by kernel_rfl
 i2 := by kernel_rfl
 i3 := by kernel_rfl
 i4 := by kernel_rfl
 i5 := by kernel_rfl
 i9 := by kernel_rfl
 i20 := by kernel_rfl
 i21 := by kernel_rfl
 i37 := by kernel_rfl
 i46 := by kernel_rfl
 i51 := by kernel_rfl
 i53 := by kernel_rfl
 i75 := by kernel_rfl
 i80 := by kernel_rfl
 i85 := by kernel_rfl
 i127 := by kernel_rfl
 i143 := by kernel_rfl
 i145 := by kernel_rfl
 i167 := by kernel_rfl
 i168 := by kernel_rfl
 i171 := by kernel_rfl
 i173 := by kernel_rfl
 i175 := by kernel_rfl
 i210 := by kernel_rfl
 i212 := by kernel_rfl
 i232 := by kernel_rfl
 i233 := by kernel_rfl
 m15 := by kernel_rfl
 m16 := by kernel_rfl
 m17 := by kernel_rfl
 m18 := by kernel_rfl
 m19 := by kernel_rfl
 c0 := by kernel_rfl
 c2 := by kernel_rfl
 c3 := by kernel_rfl
 c4 := by kernel_rfl
 c5 := by kernel_rfl
 c9 := by kernel_rfl
 c20 := by kernel_rfl
 c21 := by kernel_rfl
 c37 := by kernel_rfl
 c46 := by kernel_rfl
 c51 := by kernel_rfl
 c53 := by kernel_rfl
 c75 := by kernel_rfl
 c80 := by kernel_rfl
 c85 := by kernel_rfl
 c127 := by kernel_rfl
 c143 := by kernel_rfl
 c145 := by kernel_rfl
 c167 := by kernel_rfl
 c168 := by kernel_rfl
 c171 := by kernel_rfl
 c173 := by kernel_rfl
 c175 := by kernel_rfl
 c210 := by kernel_rfl
 c212 := by kernel_rfl
 c213 := by kernel_rfl
 c232 := by kernel_rfl
 c233 := by kernel_rfl }
def Tryz.laysFI_ren : Go.Shelf.Ren := ⟨fun | 173 => 115 | 246 => 132 | 283 => 144 | 284 => 145 | 285 => 146 | 286 => 147 | 129 => 126 | 317 => 150 | 318 => 151 | 319 => 152 | 320 => 153 | 337 => 154 | 338 => 155 | n => n, fun | 2 => 2 | 3 => 3 | 9 => 9 | 4 => 4 | 171 => 232 | 0 => 0 | 53 => 214 | 37 => 227 | 5 => 5 | 173 => 234 | 212 => 243 | 51 => 212 | 20 => 20 | 213 => 244 | 46 => 199 | 232 => 245 | 233 => 246 | n => n, fun | 17 => 2 | 18 => 3 | 19 => 4 | n => n⟩
theorem Tryz.laysFI : Go.Proofs.LaysM.n173 Tryz.prog Tryz.laysFI_ren := {
 mixed := by kernel_rfl
 f129 := Tryz.func126.trans (congrArg some (by kernel_rfl))
 f173 := Tryz.func115.trans (congrArg some (by kernel_rfl))
 f246 := Tryz.func132.trans (congrArg some (by kernel_rfl))
 f283 := Tryz.func144.trans (congrArg some (by kernel_rfl))
 f284 := Tryz.func145.trans (congrArg some (by kernel_rfl))
 f285 := Tryz.func146.trans (congrArg some (by kernel_rfl))
 f286 := Tryz.func147.trans (congrArg some (by kernel_rfl))
 f317 := Tryz.func150.trans (congrArg some (by kernel_rfl))
 f318 := Tryz.func151.trans (congrArg some (by kernel_rfl))
 f319 := Tryz.func152.trans (congrArg some (by kernel_rfl))
 f320 := Tryz.func153.trans (congrArg some (by kernel_rfl))
 f337 := Tryz.func154.trans (congrArg some (by kernel_rfl))
 f338 := Tryz.func155.trans (congrArg some (by kernel_rfl))
 t0 := Tryz.underlying0
 a0 := Tryz.isAgg0
 z0 := Tryz.sizeOf0
 v0 := Tryz.zeroValue0
 t2 := Tryz.underlying2
 a2 := Tryz.isAgg2
 z2 := Tryz.sizeOf2
 v2 := Tryz.zeroValue2
 t3 := Tryz.underlying3
 a3 := Tryz.isAgg3
 z3 := Tryz.sizeOf3
 v3 := Tryz.zeroValue3
 t4 := Tryz.underlying4
 a4 := Tryz.isAgg4
 z4 := Tryz.sizeOf4
 v4 := Tryz.zeroValue4
 t5 := Tryz.underlying5
 a5 := Tryz.isAgg5
 z5 := Tryz.sizeOf5
 v5 := Tryz.zeroValue5
 t9 := Tryz.underlying9
 a9 := Tryz.isAgg9
 z9 := Tryz.sizeOf9
 v9 := Tryz.zeroValue9
 t20 := Tryz.underlying20
 a20 := Tryz.isAgg20
 z20 := Tryz.sizeOf20
 v20 := Tryz.zeroValue20
 t37 := Tryz.underlying227
 a37 := Tryz.isAgg227
 z37 := Tryz.sizeOf227
 v37 := Tryz.zeroValue227
 t46 := Tryz.underlying199
 a46 := Tryz.isAgg199
 z46 := Tryz.sizeOf199
 v46 := Tryz.zeroValue199
 t51 := Tryz.underlying212
 a51 := Tryz.isAgg212
 z51 := Tryz.sizeOf212
 v51 := Tryz.zeroValue212
 t53 := Tryz.underlying214
 a53 := Tryz.isAgg214
 z53 := Tryz.sizeOf214
 v53 := Tryz.zeroValue214
 t171 := Tryz.underlying232
 a171 := Tryz.isAgg232
 z171 := Tryz.sizeOf232
 v171 := Tryz.zeroValue232
 t173 := Tryz.underlying234
 a173 := Tryz.isAgg234
 z173 := Tryz.sizeOf234
 v173 := Tryz.zeroValue234
 t212 := Tryz.underlying243
 a212 := Tryz.isAgg243
 z212 := Tryz.sizeOf243
 v212 := Tryz.zeroValue243
 t213 := Tryz.underlying244
 a213 := Tryz.isAgg244
 z213 := Tryz.sizeOf244
 t232 := Tryz.underlying245
 a232 := Tryz.isAgg245
 z232 := Tryz.sizeOf245
 v232 := Tryz.zeroValue245
 t233 := Tryz.underlying246
 a233 := Tryz.isAgg246
 z233 := Tryz.sizeOf246
 v233 := Tryz.zeroValue246
 g17 := by kernel_rfl
 g18 := by kernel_rfl
 g19 := by kernel_rfl
 i0 := by kernel_rfl
 i2 := by kernel_rfl
 i3 := by kernel_rfl
 i4 := by kernel_rfl
 i5 := by kernel_rfl
 i9 := by kernel_rfl
 i20 := by kernel_rfl
 i37 := by kernel_rfl
 i46 := by kernel_rfl
 i51 := by kernel_rfl
 i53 := by kernel_rfl
 i171 := by kernel_rfl
 i173 := by kernel_rfl
 i212 := by kernel_rfl
 i232 := by kernel_rfl
 i233 := by kernel_rfl
 m17 := by kernel_rfl
 m18 := by kernel_rfl
 m19 := by kernel_rfl }
end Go.Proofs
namespace Go.Pm
open Go.Lib
theorem parseUint10_append {r : List UInt8} : ∀ (l : List UInt8) (a b : Nat), parseUint10 a l = .ok b → parseUint10 a (l ++ r) = parseUint10 b r
 | [], a, b, h => by
  simp only [parseUint10, NumEnd.ok.injEq] at h
  subst h; rfl
 | c :: l, a, b, h => by
  simp only [parseUint10] at h
  simp only [List.cons_append, parseUint10]
  split at h
  ·rename_i h1
   rw [if_pos h1]
   split at h
   ·cases h
   rename_i h2
   rw [if_neg h2]
   split at h
   ·cases h
   rename_i h3
   rw [if_neg h3]
   exact parseUint10_append l _ b h
  cases h
theorem dig_toNat {d : Nat} (h : d < 10) : (UInt8.ofNat (48 + d)).toNat = 48 + d := by
 rw [UInt8.toNat_ofNat']
 exact Nat.mod_eq_of_lt (by omega)
theorem parse_dec (u : Nat) (h : u < 18446744073709551616) : parseUint10 0 (decDigits u) = .ok u := by
 induction u using Nat.strongRecOn with
 | _ u ih =>
  rw [decDigits]
  split
  ·rename_i h1
   simp only [parseUint10, dig_toNat h1]
   rw [if_pos (by omega), if_neg (by omega), if_neg (by omega)]
   congr 1
   omega
  rename_i h1
  rw [parseUint10_append _ 0 (u / 10) (ih (u / 10) (by omega) (by omega))]
  have hd : u % 10 < 10 := Nat.mod_lt _ (by omega)
  simp only [parseUint10, dig_toNat hd]
  rw [if_pos (by omega), if_neg (by omega), if_neg (by omega)]
  congr 1
  omega
theorem dec_bytes (u : Nat) : ∀ c ∈ decDigits u, 48 ≤ c.toNat ∧ c.toNat ≤ 57 := by
 induction u using Nat.strongRecOn with
 | _ u ih =>
  intro c hc
  rw [decDigits] at hc
  split at hc
  ·rename_i h1
   simp only [List.mem_singleton] at hc
   subst hc
   rw [dig_toNat h1]; omega
  rename_i h1
  rcases List.mem_append.1 hc with hc | hc
  ·exact ih (u / 10) (by omega) c hc
  simp only [List.mem_singleton] at hc
  subst hc
  rw [dig_toNat (Nat.mod_lt _ (by omega))]; omega
theorem dec_ne (u : Nat) : decDigits u ≠ [] := by
 rw [decDigits]
 split <;> simp
theorem parseMag_dec (u : Nat) (h : u < 18446744073709551616) : parseMag (decDigits u) = .ok u := by
 unfold parseMag
 rw [if_neg (dec_ne u), parse_dec u h]
theorem parse_itoa (n : Int) (h0 : -9223372036854775808 ≤ n) (h1 : n ≤ 9223372036854775807) : parseIntB 64 (itoa n) = .ok n := by
 rw [parseIntB_64]
 unfold itoa
 split
 ·rename_i hn
  have h45 : (45 : UInt8).toNat = 45 := rfl
  simp only [atoiAll, h45]
  rw [if_pos (by simp), parseMag_dec _ (by omega)]
  simp only [not_true_eq_false, false_and, if_false, true_and, if_true]
  rw [if_neg (by omega)]
  congr 1
  omega
 rename_i hn
 have hm := parseMag_dec n.toNat (by omega)
 have hb := dec_bytes n.toNat
 cases hl : decDigits n.toNat with
 | nil => exact absurd hl (dec_ne _)
 | cons c r =>
  rw [hl] at hm hb
  have hc := hb c (by simp)
  have h43 : ¬ c.toNat = 43 := by omega
  have h45 : ¬ c.toNat = 45 := by omega
  simp only [atoiAll, h43, h45, or_self, if_false, hm, not_false_eq_true, true_and, false_and]
  rw [if_neg (by omega)]
  congr 1
  omega
theorem nDigits_le : ∀ (k u : Nat), u < 10 ^ (k + 1) → nDigits u ≤ k + 1
 | 0, u, h => by rw [nDigits_small (by simpa using h)]; exact Nat.le_refl _
 | k + 1, u, h => by
  by_cases hu : u < 10
  ·rw [nDigits_small hu]; omega
  rw [nDigits_big hu]
  have := nDigits_le k (u / 10) (by rw [Nat.pow_succ] at h; omega)
  omega
theorem itoa_length (n : Int) (h0 : -9223372036854775808 ≤ n) (h1 : n ≤ 9223372036854775807) : 1 ≤ (itoa n).length ∧ (itoa n).length ≤ 20 := by
 have hp : (10 : Nat) ^ 19 = 10000000000000000000 := by decide
 unfold itoa
 split
 ·have := nDigits_le 18 n.natAbs (by rw [hp]; omega)
  simp only [List.length_cons, decDigits_length]; omega
 have := nDigits_le 18 n.toNat (by rw [hp]; omega)
 have := nDigits_pos n.toNat
 rw [decDigits_length]; omega
end Go.Pm
namespace Go.Proofs.YtmhdpjifhfoabaaGreatDoor
open Go.RowKit Go.Pm
def FormatsInt (B : Base) (H : List Res) : Prop := ∀ (w : World) (n : Int), -9223372036854775808 ≤ n → n ≤ 9223372036854775807 → Inv B H w →
 Calls Tryz.prog 115 #[vI n, vI 10] w fun e w' => e = .returned (vS (Lib.itoa n)) ∧ Inv B H w'
theorem ex_ifaceNil {P : Program} {o : Oper} {a : Act} {w : World} {t u : TypeId} {x : Operand} {c : Value} (hu : P.underlying t = some (.interface (P.methodsAt t))) (ho : o.op = .binOp .neq t x (.const c) u) (hx : a.eval x = .nilIface) (hy : a.eval (.const c) = .nilIface) : Ex P a o w (.bool false) w := by
 have hg : (eqGuard .neq t x (.const c) .nilIface .nilIface).run P w = .ok () w := by simp [eqGuard]
 have hr : (binOp .neq t .nilIface .nilIface).run P w = .ok (.bool false) w := by simp [binOp, run_equal_nil_nil w t hu]
 unfold Ex; simp [execOp, ho, hx, hy, hg, hr]
theorem prcallable115 : Callable Tryz.prog 115 := cb Tryz.func115 (by kernel_rfl)
theorem numPrint (B : Base) (H : List Res) (hF : FormatsInt B H) (w : World) (n : Int) (h0 : -9223372036854775808 ≤ n) (h1 : n ≤ 9223372036854775807) (hv : Inv B H w) :
  Calls Tryz.prog 108 #[vI n] w fun e w' => e = .returned (vS (Lib.itoa n)) ∧ Inv B H w' := by
 refine cW Tryz.func108 rfl Tryz.ntmps108 ?_
 simp only [al]
 refine sK fun _ k1 => rL (uA rfl ?_)
 refine uW k1 (sK fun _ k2 => ?_)
 refine rL (uM rfl ?_)
 refine xC prcallable115 rfl ((hF _ n h0 h1 hv).mono ?_) rfl
 rintro e w3 ⟨rfl, hv⟩
 refine ⟨_, rfl, uA rfl ?_⟩
 refine uW k2 (rR ?_)
 refine bR rfl rfl (⟨rfl, hv⟩)
theorem bytesWorld_ext (w : World) (e : TypeId) (t : ByteArray) : Ext w (Lib.bytesWorld w e t) := by
 have h : ∀ k, k < w.heap.size → (Lib.bytesWorld w e t).heap[k]? = w.heap[k]? := by
  intro k hk
  unfold Lib.bytesWorld World.freeze
  split
  ·show (w.heap.push _)[k]? = _
   rw [Array.getElem?_push_lt hk, Array.getElem?_eq_getElem hk]
  show ((w.heap.push _).modify w.heap.size _)[k]? = _
  rw [Array.getElem?_modify, if_neg (by omega), Array.getElem?_push_lt hk, Array.getElem?_eq_getElem hk]
 have hs : w.heap.size ≤ (Lib.bytesWorld w e t).heap.size := by
  unfold Lib.bytesWorld World.freeze
  split
  ·show _ ≤ (w.heap.push _).size
   simp
  show _ ≤ ((w.heap.push _).modify _ _).size
  simp
 refine ⟨?_, ?_, ?_, hs, h⟩ <;> (unfold Lib.bytesWorld World.freeze; split <;> rfl)
theorem growN_ext (w : World) (k : Nat) (os : Array Obj) : Ext w (Go.Sort.grow (w.drewN k) os) := by
 refine ⟨rfl, rfl, rfl, ?_, fun b hb => ?_⟩
 ·show _ ≤ (w.heap ++ os).size
  simp
 show (w.heap ++ os)[b]? = _
 rw [Array.getElem?_append_left hb]
theorem tab_below {P : Program} {W w : World} {n : String} {k : IntKind} {l : List Int} (h : Lib.TabIs P W n k l) (hb : Below W.heap.size W w) : Lib.TabIs P w n k l := by
 unfold Lib.TabIs World.var? at h ⊢
 cases hg : P.globalNamed n with
 | none => rw [hg] at h; cases h
 | some g =>
  rw [hg] at h
  simp only [Option.bind_some] at h ⊢
  have hlt : g < W.heap.size := by
   rcases Nat.lt_or_ge g W.heap.size with hlt | hge
   ·exact hlt
   rw [Array.getElem?_eq_none hge] at h; cases h
  rw [hb.block g hlt]; exact h
theorem formatsInt (B : Base) (H : List Res) (W : World) (hB : (Base.of W).Le B) (ht : Lib.TabIs Tryz.prog W "internal/strconv.uint64pow10" .u64 Lib.pow10Tab) : FormatsInt B H := fun w n h0 h1 hv => by
 have h : Calls Tryz.prog 115 #[vI n, vI 10] w _ := Any.strconv_FormatInt_10 Tryz.laysFI n h0 h1 w (tab_below ht (hv.below hB))
 refine h.mono ?_
 rintro e w' ⟨rfl, k, os, rfl⟩
 exact ⟨rfl, hv.ext (growN_ext w k os)⟩
def NumP (s : List UInt8) (n : Int) (b : Bool) : Prop := (b = true ∧ -9223372036854775808 ≤ n ∧ n ≤ 9223372036854775807 ∧ s = Lib.itoa n) ∨ (b = false ∧ n = 0 ∧ ∀ m : Int, -9223372036854775808 ≤ m → m ≤ 9223372036854775807 → s ≠ Lib.itoa m)
def ParsesAny (B : Base) (H : List Res) : Prop := ∀ (w : World) (s : List UInt8), s.length ≤ 20 → Inv B H w →
 Calls Tryz.prog 107 #[vS s, vI 10, vI 64] w fun e w' => ∃ (n : Int) (ev : Value), e = .returned (.tuple #[vI n, ev]) ∧ (ev = .nilIface ∨ ∃ t v, ev = .iface t v) ∧ (-9223372036854775808 ≤ n ∧ n ≤ 9223372036854775807) ∧ (∀ m : Int, -9223372036854775808 ≤ m → m ≤ 9223372036854775807 → s = Lib.itoa m → ev = .nilIface ∧ n = m) ∧ Inv B H w'
theorem ex_ifaceNe {P : Program} {o : Oper} {a : Act} {w : World} {t u d : TypeId} {v : Value} {ms : Array (String × TypeId)} {x : Operand} {c : Value} (hu : P.underlying t = some (.interface ms)) (ho : o.op = .binOp .neq t x (.const c) u) (hx : a.eval x = .iface d v) (hc : c = .nilIface) : Ex P a o w (.bool true) w := by
 subst hc
 have hg : (eqGuard .neq t x (.const .nilIface) (.iface d v) .nilIface).run P w = .ok () w := by simp [eqGuard]
 have h : ∀ k : Nat, (Op.equalIn (k + 1) t (.iface d v) .nilIface).run P w = .ok false w := fun k => by simp [Op.equalIn, run_underlying hu]
 have hr : (binOp .neq t (.iface d v) .nilIface).run P w = .ok (.bool true) w := by
  simp only [binOp]; simp [Op.equal, Op.maxDepth, h 9999]
 have hy : a.eval (.const .nilIface) = .nilIface := rfl
 unfold Ex; simp [execOp, ho, hx, hy, hg, hr]
def HasErr (B : Base) (g : Nat) : Prop := ∃ t v, ∀ C K w, B.Le C → Inv C K w → w.cell? ⟨g, 0, none⟩ = some (.iface t v)
theorem HasErr.more {B C : Base} {g : Nat} (h : HasErr B g) (hB : B.Le C) : HasErr C g := by
 obtain ⟨t, v, h⟩ := h
 exact ⟨t, v, fun D K w hD hv => h D K w (hB.trans hD) hv⟩
theorem hasErr_of {W : World} {g : Nat} {t : TypeId} {v : Value} (h : W.cell? ⟨g, 0, none⟩ = some (.iface t v)) : HasErr (Base.of W) g := by
 have hlt : g < W.heap.size := Lib.lt_of_cell h
 exact ⟨t, v, fun C K w hC hv => ((hv.below hC).cell (show (⟨g, 0, none⟩ : Addr).block < W.heap.size from hlt)).trans h⟩
theorem errOf {W : World} {l : List (String × DataW Unit)} {name nm : String} {d : DataW Unit} {g t : Nat} {ms : Array (String × TypeId)} (hl : l.filter (fun x => x.1 == name) = [(name, .iface nm d)]) (he : ([(name, (DataW.iface nm d : DataW Unit))].filter fun x => x.2.handleName?.isNone) = [(name, .iface nm d)])
  (hg : Tryz.prog.globalNamed name = some g) (hty : (Tryz.prog.globals[g]?).map (·.type) = some t) (ht : Tryz.prog.underlying t = some (.interface ms)) (hL : laidMetH Tryz.prog l W) : ∃ u v, W.cell? ⟨g, 0, none⟩ = some (.iface u v) := by
 have h := hL.filter (fun x => x.1 == name)
 rw [hl] at h
 have h2 := (laidMetH_iff.1 h).1
 rw [he] at h2
 obtain ⟨ps, ⟨g', t', cs, fuel, p, q, hg', ht', hvar, hd, _, _⟩, _⟩ := h2
 obtain rfl := Option.some.inj (hg.symm.trans hg')
 obtain rfl := Option.some.inj (hty.symm.trans ht')
 obtain ⟨f', u, v, hcs, -, -⟩ := iface_of_trod ht hd
 refine ⟨u, v, ?_⟩
 have := World.var?_cell hg hvar 0
 rw [this]
 have hcs' : cs.toList = [.iface u v] := hcs
 rw [← Array.getElem?_toList, hcs']; rfl
theorem pzcallable107 : Callable Tryz.prog 107 := cb Tryz.func107 (by kernel_rfl)
theorem pzcallable108 : Callable Tryz.prog 108 := cb Tryz.func108 (by kernel_rfl)
theorem numParseAny (B : Base) (H : List Res) (hF : FormatsInt B H) (hP : ParsesAny B H) (w : World) (s : List UInt8) (hv : Inv B H w) :
  Calls Tryz.prog 97 #[vS s] w fun e w' => ∃ n b, e = .returned (.tuple #[vI n, .bool b]) ∧ NumP s n b ∧ Inv B H w' := by
 refine cW Tryz.func97 rfl Tryz.ntmps97 ?_
 simp only [al]
 refine sK fun _ k1 => rL (uA rfl ?_)
 refine uA rfl (uW k1 ?_)
 refine sK fun _ k2 => sK fun _ k3 => rL (uM rfl ?_)
 refine uG (vI (s.length : Int)) rfl (ex_lenStr Tryz.underlying9 rfl rfl) ?_
 by_cases hb4 : (s.length : Int) > 20
 ·refine uG (.bool true) rfl (ex_gtr rfl rfl rfl (qT hb4)) (uW k3 ?_)
  refine cT rfl (sK fun _ k5 => ?_)
  refine rL (uA rfl ?_)
  refine uA rfl (uW k5 ?_)
  refine rR (tR ?_)
  refine bodyPost_ret (results_tmp2 rfl _ _ _) rfl (⟨_, _, rfl, .inr ⟨rfl, rfl, fun m h0 h1 e9 => by have := itoa_length m h0 h1; rw [← e9] at this; omega⟩, hv⟩)
 refine uG (.bool false) rfl (ex_gtr rfl rfl rfl (qF hb4)) (uW k3 ?_)
 refine cF rfl (kS ?_)
 refine tK k2 (sK fun _ k6 => ?_)
 refine rL (uM rfl ?_)
 refine xC pzcallable107 rfl ((hP _ s (by omega) hv).mono ?_) rfl
 rintro e w7 ⟨n, ev, rfl, hev, hn, hno, hv⟩
 refine ⟨_, rfl, ?_⟩
 rcases hev with rfl | ⟨t9, v9, rfl⟩
 ·refine uM rfl (uE rfl ?_)
  refine uE rfl (uA rfl ?_)
  refine uA rfl (uW k6 ?_)
  refine sK fun _ k8 => sK fun _ k9 => rL (uM rfl ?_)
  refine uG (.bool false) rfl (ex_ifaceNil Tryz.underlying192 rfl rfl rfl) (uW k9 ?_)
  refine cF rfl (kS ?_)
  refine tK k8 (sK fun _ k10 => ?_)
  refine rL (uM rfl ?_)
  refine uA rfl (uW k10 ?_)
  refine sK fun _ k11 => sK fun _ k12 => rL (uM rfl ?_)
  refine xC pzcallable108 rfl ((numPrint B H hF _ n hn.1 hn.2 hv).mono ?_) rfl
  rintro e w13 ⟨rfl, hv⟩
  refine ⟨_, rfl, uM rfl ?_⟩
  by_cases hb14 : (Lib.itoa n) ≠ s
  ·refine uG (.bool true) rfl (ex_sneq rfl rfl rfl (qT hb14)) (uW k12 ?_)
   refine cT rfl (sK fun _ k15 => ?_)
   refine rL (uA rfl ?_)
   refine uA rfl (uW k15 ?_)
   refine rR (tR ?_)
   refine bodyPost_ret (results_tmp2 rfl _ _ _) rfl (⟨_, _, rfl, .inr ⟨rfl, rfl, fun m h0 h1 e9 => by have h8 := (hno m h0 h1 e9).2; subst h8; exact hb14 e9.symm⟩, hv⟩)
  refine uG (.bool false) rfl (ex_sneq rfl rfl rfl (qF hb14)) (uW k12 ?_)
  refine cF rfl (kS ?_)
  refine tK k11 (sK fun _ k16 => ?_)
  refine rL (uM rfl ?_)
  refine uA rfl (uA rfl ?_)
  refine uW k16 (rR ?_)
  refine bodyPost_ret (results_tmp2 rfl _ _ _) rfl (⟨_, _, rfl, .inl ⟨rfl, hn.1, hn.2, (Classical.byContradiction fun h9 => hb14 (fun e9 => h9 e9.symm))⟩, hv⟩)
 refine uM rfl (uE rfl ?_)
 refine uE rfl (uA rfl ?_)
 refine uA rfl (uW k6 ?_)
 refine sK fun _ k17 => sK fun _ k18 => rL (uM rfl ?_)
 refine uG (.bool true) rfl (ex_ifaceNe Tryz.underlying192 rfl rfl rfl) (uW k18 ?_)
 refine cT rfl (sK fun _ k19 => ?_)
 refine rL (uA rfl ?_)
 refine uA rfl (uW k19 ?_)
 refine rR (tR ?_)
 refine bodyPost_ret (results_tmp2 rfl _ _ _) rfl (⟨_, _, rfl, .inr ⟨rfl, rfl, fun m h0 h1 e9 => by have := (hno m h0 h1 e9).1; cases this⟩, hv⟩)
end Go.Proofs.YtmhdpjifhfoabaaGreatDoor
namespace Go.Pm
open Go.RowKit
section
variable {α : Type} {f : α → List Value} {k : Nat}
theorem rowk_len (hk : ∀ x, (f x).length = k) (l : List α) : (l.flatMap f).length = l.length * k := by
 induction l with
 | nil => simp
 | cons a l ih => rw [List.flatMap_cons, List.length_append, ih, hk, List.length_cons, Nat.succ_mul]; omega
theorem rowk_get (hk : ∀ x, (f x).length = k) {l : List α} {i j : Nat} {x : α} (hx : l[i]? = some x) (hj : j < k) : (l.flatMap f)[i * k + j]? = (f x)[j]? := by
 have hi := (List.getElem?_eq_some_iff.1 hx).1
 have h : l = l.take i ++ x :: l.drop (i + 1) := by
  have h9 := (List.take_append_drop i l).symm
  rw [List.drop_eq_getElem_cons hi, (List.getElem?_eq_some_iff.1 hx).2] at h9
  exact h9
 rw [h, List.flatMap_append, List.flatMap_cons, List.getElem?_append_right (by rw [rowk_len hk, List.length_take, Nat.min_eq_left (by omega)]; omega),
  rowk_len hk, List.length_take, Nat.min_eq_left (by omega), Nat.add_sub_cancel_left, List.getElem?_append_left (by rw [hk]; exact hj)]
theorem rowk_reads (hk : ∀ x, (f x).length = k) (h0 : 0 < k) {B : Base} {l : List α} {ad : Option Addr} {i : Nat} {x : α} (hr : RdV B [] ad (l.flatMap f)) (hx : l[i]? = some x) : ∃ b off, ad = some ⟨b, off, none⟩ ∧ Reads B [] b (off + i * k) (f x) := by
 have hi := (List.getElem?_eq_some_iff.1 hx).1
 have hle : i * k + k ≤ l.length * k := by have := Nat.mul_le_mul_right k (show i + 1 ≤ l.length by omega); rw [Nat.succ_mul] at this; exact this
 exact rdW_reads (k := i * k) (m := k) (hr.rdW []) (by rw [rowk_len hk]; exact hle) h0 (hk x) (fun j hj => (rowk_get hk hx hj).symm)
end
end Go.Pm
namespace Go.Proofs.YtmhdpjifhfoabaaGreatDoor
open Go.RowKit Go.Pm
def NumB (B : Base) : Prop := ∀ C H, B.Le C → FormatsInt C H ∧ ParsesAny C H
theorem NumB.more {B C : Base} (h : NumB B) (hB : B.Le C) : NumB C := fun D H hD => h D H (hB.trans hD)
def intCells (l : List Int) : List Value := l.flatMap fun n => [vI n]
theorem int_reads {B : Base} {l : List Int} {ad : Option Addr} {i : Nat} {x : Int} (hr : RdV B [] ad (intCells l)) (hx : l[i]? = some x) : ∃ b off, ad = some ⟨b, off, none⟩ ∧ Reads B [] b (off + i) [vI x] := by
 have := rowk_reads (f := fun n : Int => [vI n]) (k := 1) (fun _ => rfl) (by decide) hr hx
 simpa using this
theorem int_snoc (l : List Int) (x : Int) : intCells l ++ [vI x] = intCells (l ++ [x]) := by simp [intCells]
def IntsR (ts : List (List UInt8)) (ns : List Int) (ec : Int) : Prop := (ec = 0 ∧ ns.length = ts.length ∧ ∀ (i : Nat) t n, ts[i]? = some t → ns[i]? = some n → NumP t n true) ∨ (ec = 41 ∧ ns = [] ∧ ∃ t ∈ ts, NumP t 0 false)
theorem itmk3 : (Tryz.prog.info? 3).map (fun i => (i.zero, i.size, i.bytes)) = some (some (vI 0), 1, 8) := by kernel_rfl
theorem itel149 : Elem Tryz.prog 149 3 (vI 0) 1 8 := elem_of Tryz.underlying149 itmk3 (by rfl) (by decide)
theorem ites22 (w : World) : (sizeOf (Tryz.prog.elem 22)).run Tryz.prog w = .ok 1 w := by kernel_rfl
theorem itna9 (w : World) : (isAgg 9).run Tryz.prog w = .ok false w := by kernel_rfl
theorem itcallable97 : Callable Tryz.prog 97 := cb Tryz.func97 (by kernel_rfl)
theorem viewInts (B : Base) (H : List Res) (w : World) (ta : Option Addr) (tc : Nat) (ts : List (List UInt8)) (hr : RdV B [] ta (textCells ts)) (hm : ts.length ≤ 1000000) (hN : NumB B) (hv : Inv B H w) :
  Calls Tryz.prog 76 #[.slice ta ts.length tc] w fun e w' => ∃ C oa oc ns ec, B.Le C ∧ e = .returned (.tuple #[.slice oa ns.length oc, vI ec]) ∧ RdV C [] oa (intCells ns) ∧ IntsR ts ns ec ∧ Inv C H w' := by
 refine cW Tryz.func76 rfl Tryz.ntmps76 ?_
 simp only [al]
 refine sK fun _ k1 => rL (uA rfl ?_)
 refine uA rfl (uW k1 ?_)
 refine sK fun _ k2 => rL (uM rfl ?_)
 refine uG (vI (ts.length : Int)) rfl (ex_len0 Tryz.underlying22 rfl rfl) ?_
 refine sl_makeRow (cap := ts.length) tV (wn rfl) rfl rfl rfl itel149 (by unfold maxLen; omega) (by omega) hv (fun b3 w4 hv => ?_)
 refine uA rfl (uW k2 ?_)
 refine sK fun _ k5 => sK fun _ k6 => rL (uM rfl ?_)
 refine uG (vI (ts.length : Int)) rfl (ex_len0 Tryz.underlying22 rfl rfl) (uM rfl ?_)
 refine uW k6 (bB ?_)
 gi_loopw [14, 4] (fun x14 x4 wr => ∃ (i : Nat) (ns : List Int) (ra : Option Addr) (rc : Nat), x14 = vI i ∧ x4 = .slice ra ns.length rc ∧ i ≤ ts.length ∧ ns.length = i ∧ (∀ (j : Nat) t n, ts[j]? = some t → ns[j]? = some n → NumP t n true) ∧ Inv B (Res.row 3 1 (.slice ra ns.length rc) ns.length (intCells ns) :: H) wr) (fun x14 x4 _ => ts.length - (intOf x14).toNat)
 case atStart => exact ⟨0, [], _, _, rfl, rfl, Nat.zero_le _, rfl, fun j t n _ h => by simp at h, hv⟩
 case round =>
  obtain ⟨i, ns, ra, rc, rfl, rfl, hi, hnl, hall, hv⟩ := hrel
  refine sK fun _ k8 => rL ?_
  by_cases hb9 : (i : Int) < (ts.length : Int)
  ·refine uG (.bool true) rfl (ex_lss rfl rfl rfl (qT hb9)) (uW k8 ?_)
   refine sK fun _ k10 => cT rfl (kS ?_)
   refine tK k10 (sK fun _ k11 => ?_)
   refine bB (sK fun _ k12 => ?_)
   obtain ⟨x, hx⟩ : ∃ x, ts[i]? = some x := ⟨_, List.getElem?_eq_getElem (show i < ts.length by omega)⟩
   obtain ⟨bb, bo, had, hrdx⟩ := text_reads hr hx
   subst had
   refine rL (uG (.pointer (some ⟨bb, bo + i, none⟩)) rfl (ex_index rfl rfl rfl (run_idx1 (k := i) Tryz.underlying22 ites22 (by omega))) ?_)
   refine uL _ rfl (run_load1 itna9 (hrdx _ _ _ (Base.Le.refl _) no_res hv 0 _ rfl)) (uA rfl ?_)
   refine uW k12 (sK fun _ k13 => ?_)
   refine rL (uM rfl ?_)
   refine xC itcallable97 rfl ((numParseAny B _ (hN B _ (Base.Le.refl _)).1 (hN B _ (Base.Le.refl _)).2 _ x hv).mono ?_) rfl
   rintro e w14 ⟨n, b, rfl, hnp, hv⟩
   refine ⟨_, rfl, ?_⟩
   cases b
   ·refine uM rfl (uE rfl ?_)
    refine uE rfl (uA rfl ?_)
    refine uA rfl (uW k13 ?_)
    refine sK fun _ k15 => sK fun _ k16 => rL (uM rfl ?_)
    refine uG (.bool true) rfl (ex_not rfl rfl rfl) (uW k16 ?_)
    refine cT rfl (sK fun _ k17 => ?_)
    refine rL (uA rfl ?_)
    refine uA rfl (uW k17 ?_)
    refine rR (tR ?_)
    refine bZ (tR ?_)
    refine tR (bZ ?_)
    refine tR (bodyPost_ret (results_tmp2 rfl _ _ _) rfl ?_)
    obtain rfl : n = 0 := hnp.elim (fun h => absurd h.1 (by decide)) (fun h => h.2.1)
    exact ⟨B, none, 0, [], 41, Base.Le.refl _, rfl, rdV_nil, .inr ⟨rfl, rfl, x, List.mem_of_getElem? hx, hnp⟩, (hv.kp [] 0 1)⟩
   refine uM rfl (uE rfl ?_)
   refine uE rfl (uA rfl ?_)
   refine uA rfl (uW k13 ?_)
   refine sK fun _ k18 => sK fun _ k19 => rL (uM rfl ?_)
   refine uG (.bool false) rfl (ex_not rfl rfl rfl) (uW k19 ?_)
   refine cF rfl (kS ?_)
   refine tK k18 (rL ?_)
   refine uM rfl (uM rfl ?_)
   refine sl_rowOne (v := vI n) tV (wn rfl) rfl rfl hv itel149 rfl (fun b20 w21 hv => ?_)
   simp only [zP, po]
   replace hv := hv.front 1 rfl
   simp only [eS, eZ] at hv
   refine sl_append (news := [vI n]) tV (wn rfl) rfl rfl rfl itel149 hv (ok_full (by omega)) rfl (rd_all (hv.get 1 rfl)) (by intro u hu; simp only [List.mem_cons, List.not_mem_nil, or_false] at hu; rcases hu with rfl <;> rfl) (by unfold maxLen; omega) (by omega) (fun rv22 w25 hv => ?_)
   obtain ⟨ra23, rc24, rfl⟩ := row_slice hv.head
   refine uA rfl (uZ ?_)
   refine bN (tK k11 ?_)
   refine rL (uG (vI ((i + 1 : Nat) : Int)) rfl (ex_add rfl rfl rfl (by rw [i64_in (by omega)]; omega)) ?_)
   refine uM rfl (uZ ?_)
   refine then_normal ?_
   go_roundw
   case rel => exact ⟨i + 1, ns ++ [n], _, _, rfl, by rw [List.length_append, List.length_singleton], by omega, by rw [List.length_append, List.length_singleton, hnl], fun j t' n' ht' hn' => (by
      rcases Nat.lt_or_ge j ns.length with h | h
      ·rw [List.getElem?_append_left h] at hn'; exact hall j t' n' ht' hn'
      have hj := (List.getElem?_eq_some_iff.1 hn').1
      rw [List.length_append, List.length_singleton] at hj
      obtain rfl : j = ns.length := by omega
      rw [List.getElem?_append_right (Nat.le_refl _), Nat.sub_self] at hn'
      rw [hnl, hx] at ht'
      cases ht'; cases hn'; exact hnp), by rw [List.length_append, List.length_singleton, ← int_snoc]; exact (hv.kp [] 1 1)⟩
   case measure => show ts.length - (((i + 1 : Nat) : Int)).toNat < ts.length - ((i : Int)).toNat; omega
  refine uG (.bool false) rfl (ex_lss rfl rfl rfl (qF hb9)) (uW k8 ?_)
  refine sK fun _ k26 => cF rfl (xE ?_)
  refine tX (tX ?_)
  refine bH (tK k5 ?_)
  refine sK fun _ k27 => rL (uM rfl ?_)
  refine uA rfl (uA rfl ?_)
  refine uW k27 (rR ?_)
  refine bodyPost_ret (results_tmp2 rfl _ _ _) rfl ?_
  obtain rfl : i = ts.length := by omega
  obtain ⟨D, hD, hv, hro, hoko, -⟩ := (hv).rowBy
  exact ⟨D, ra, rc, ns, 0, hD, rfl, hro, .inl ⟨rfl, hnl, hall⟩, hv⟩
theorem rtal28 : AL Tryz.prog 28 [vI 0, vS [], vI 0, vN] := fun w => by kernel_rfl
theorem rtfa28_3 : FA Tryz.prog 28 3 3 := fun w b o => by kernel_rfl
theorem rtna26 (w : World) : (isAgg 26).run Tryz.prog w = .ok false w := by kernel_rfl
theorem rtcallable69 : Callable Tryz.prog 69 := cb Tryz.func69 (by kernel_rfl)
theorem rtmk28 : (Tryz.prog.info? 28).map (fun i => (i.zero, i.size, i.bytes)) = some (some (.agg #[vI 0, vS [], vI 0, vN]), 4, 56) := by kernel_rfl
theorem rtel26 : Elem Tryz.prog 26 28 (.agg #[vI 0, vS [], vI 0, vN]) 4 56 := elem_of Tryz.underlying26 rtmk28 (by rfl) (by decide)
theorem rtsz26 : (Tryz.prog.info? 26).map (·.size) = some 1 := by kernel_rfl
theorem respStrsR (B : Base) (H : List Res) (w : World) (sa : Option Addr) (sc : Nat) (ss : List (List UInt8)) (hr : RdV B [] sa (textCells ss)) (hm : ss.length ≤ 1000000) (hv : Inv B H w) :
  Calls Tryz.prog 78 #[.slice sa ss.length sc] w fun e w' => ∃ C da dc, B.Le C ∧ e = .returned (.agg #[vI 5, vS (([] : List UInt8)), vI 0, .slice da ss.length dc]) ∧ SliceOk da ss.length dc ∧ RdV C [] da (strsCells ss) ∧ Inv C H w' := by
 refine cW Tryz.func78 rfl Tryz.ntmps78 ?_
 simp only [al]
 refine sK fun _ k1 => rL (sl_alloc tV (wn rfl) rfl hv rtal28 (fun b2 w3 hv => ?_))
 refine uW k1 (sK fun _ k4 => ?_)
 refine rL (uG (.agg #[vI 5, vS [], vI 0, vN]) rfl (ex_buildN (vs := #[(0, vI 5)]) rfl (by simp only [List.map_toArray, List.map_cons, List.map_nil]; rfl) (by kernel_rfl)) ?_)
 refine sl_alloc tV (wn rfl) rfl hv rtal28 (fun b5 w6 hv => ?_)
 refine xS 0 rfl hv rssz28 rfl (by exact ⟨rfl, rfl, rfl, rfl, trivial⟩) (fun w7 hv => ?_)
 simp only [zO, sp] at hv
 refine uW k4 (sK fun _ k8 => ?_)
 refine sK fun _ k9 => rL (uM rfl ?_)
 refine uG (vI (ss.length : Int)) rfl (ex_len0 Tryz.underlying22 rfl rfl) (uM rfl ?_)
 refine uW k9 (bB ?_)
 gi_loopw [9] (fun x9 wr => ∃ (i : Nat) (ra : Option Addr) (rc : Nat), x9 = vI i ∧ i ≤ ss.length ∧ Inv B (Res.row 28 4 (.slice ra i rc) i (strsCells (ss.take i)) :: Res.cell b5 [vI 5, vS [], vI 0, .slice ra i rc] 28 :: Res.cell b2 [vI 0, vS [], vI 0, vN] 28 :: H) wr) (fun x9 _ => ss.length - (intOf x9).toNat)
 case atStart => exact ⟨0, none, 0, rfl, Nat.zero_le _, (((hv.front 1 rfl).front 1 rfl)).rowNil 28 4⟩
 case round =>
  obtain ⟨i, ra, rc, rfl, hi, hv⟩ := hrel
  refine sK fun _ k11 => rL ?_
  by_cases hb12 : (i : Int) < (ss.length : Int)
  ·refine uG (.bool true) rfl (ex_lss rfl rfl rfl (qT hb12)) (uW k11 ?_)
   refine sK fun _ k13 => cT rfl (kS ?_)
   refine tK k13 (sK fun _ k14 => ?_)
   refine bB (sK fun _ k15 => ?_)
   obtain ⟨x, hx⟩ : ∃ x, ss[i]? = some x := ⟨_, List.getElem?_eq_getElem (show i < ss.length by omega)⟩
   obtain ⟨bb, bo, had, hrdx⟩ := text_reads hr hx
   subst had
   refine rL (uG (.pointer (some ⟨bb, bo + i, none⟩)) rfl (ex_index rfl rfl rfl (run_idx1 (k := i) Tryz.underlying22 ites22 (by omega))) ?_)
   refine uL _ rfl (run_load1 itna9 (hrdx _ _ _ (Base.Le.refl _) no_res hv 0 _ rfl)) (uA rfl ?_)
   refine uW k15 (rW mixed [3, 4, 5, 7] [0,1,2,3,4,5,6,7] 22 rfl (by kernel_rfl) hv ?_)
   simp only [qm, opAt]
   refine dG (.pointer (some ⟨b5, 3, none⟩)) rfl (ex_field rfl rfl (rtfa28_3 _ _ _)) (dF _ rfl (fun hv => ex_load rfl rfl (run_load1 rtna26 (hv.load 1 3 rfl rfl))) fun f16 hf16 => ?_)
   refine dM (vS x) rfl ?_
   simp only [zP, po]
   refine dS rfl fun w17 hv => mC rtcallable69 rfl ((respStr B _ _ x hv).mono ?_) rfl
   rintro e w18 ⟨rfl, hv⟩
   refine ⟨_, rfl, dV hv (fC (fun ww hv => hf16 ww (ex_load rfl rfl (run_load1 rtna26 (hv.load 1 3 rfl rfl)))) fN) ?_⟩
   refine dS rfl fun w19 hv => mem_rowAgg (L := [vI 3, vS x, vI 0, vN]) rfl rfl rfl hv rtel26 rfl (by decide) (fun b20 w21 hv => ?_)
   refine dV hv (fC (fun ww hv => hf16 ww (ex_load rfl rfl (run_load1 rtna26 (hv.load 2 3 rfl rfl)))) fN) (dS rfl fun w22 hv => ?_)
   replace hv := hv.front 1 rfl
   simp only [eS, eZ] at hv
   refine mem_append (news := [vI 3, vS x, vI 0, vN]) rfl rfl rfl rfl rtel26 hv (ok_full (by omega)) rfl (rd_all (hv.get 1 rfl)) (by intro u hu; simp only [List.mem_cons, List.not_mem_nil, or_false] at hu; rcases hu with rfl | rfl | rfl | rfl <;> rfl) (by unfold maxLen; omega) (by omega) (fun rv23 w26 hv => ?_)
   obtain ⟨ra24, rc25, rfl⟩ := row_slice hv.head
   refine dV hv (fK rfl fN) ?_
   simp only [zP, po]
   refine dG (.pointer (some ⟨b5, 3, none⟩)) rfl (ex_field rfl rfl (rtfa28_3 _ _ _)) (dS rfl fun w27 hv => ?_)
   refine mV 2 (.slice ra24 (i + 1) rc25) rfl hv rtsz26 rfl rfl (fun w28 hv => ?_)
   simp only [zS, zO, sp] at hv
   refine dV hv (fK rfl fN) (dE fun w29 hv => ?_)
   simp only [zP, po]
   refine bN (tK k14 ?_)
   refine rL (uG (vI ((i + 1 : Nat) : Int)) rfl (ex_add rfl rfl rfl (by rw [i64_in (by omega)]; omega)) ?_)
   refine uM rfl (uZ ?_)
   refine then_normal ?_
   go_roundw
   case rel => exact ⟨i + 1, _, _, rfl, by omega, by rw [strsCells_next hx]; exact (hv.kp [3, 3, 2] 3 1)⟩
   case measure => show ss.length - (((i + 1 : Nat) : Int)).toNat < ss.length - ((i : Int)).toNat; omega
  refine uG (.bool false) rfl (ex_lss rfl rfl rfl (qF hb12)) (uW k11 ?_)
  refine sK fun _ k30 => cF rfl (xE ?_)
  refine tX (tX ?_)
  refine bH (tK k8 ?_)
  refine sK fun _ k31 => rL (uL (.agg #[vI 5, vS [], vI 0, .slice ra i rc]) rfl (lM 1 rswd28 hv rfl rfl rfl rfl) ?_)
  refine xS 2 rfl hv rssz28 rfl (by exact ⟨rfl, rfl, rfl, rfl, trivial⟩) (fun w32 hv => ?_)
  simp only [zS, zO, sp] at hv
  refine uW k31 (rR ?_)
  refine bC 2 rswd28 hv rfl rfl rfl rfl ?_
  obtain rfl : i = ss.length := by omega
  obtain ⟨C, hC, hv, hro, hoko, -⟩ := ((hv.sub (sC _ (sD _ (sD _ (sR _)))))).rowBy
  rw [List.take_length] at hro
  exact ⟨C, ra, rc, hC, rfl, hoko, hro, hv⟩
theorem rpAt_strs {C : Base} {l : List (List UInt8)} {a : Option Addr} {c : Nat} (hok : SliceOk a l.length c) (hr : RdV C [] a (strsCells l)) : RpAt C (rStrs l) (rpCells 5 [] 0 (.slice a l.length c)) :=
 rpAt_of (l := l.map rStr) ⟨a, c, by rw [List.length_map], by rw [List.length_map]; exact hok, hr⟩ (strsCells_at l)
end Go.Proofs.YtmhdpjifhfoabaaGreatDoor
namespace Go.Pm
open Go.RowKit
structure Leaf where
 k : Int
 s : List UInt8
 n : Int
abbrev nilS : Value := .slice none 0 0
abbrev leafC (x : Leaf) (v : Value) : List Value := rpCells x.k x.s x.n v
def leafR (x : Leaf) : Rp := .mk x.k x.s x.n []
abbrev leafN (x : Leaf) : List Value := leafC x nilS
def lvC (pre : List Leaf) : Option (Leaf × Value) → List Value
 | none => pre.flatMap leafN
 | some (x, v) => pre.flatMap leafN ++ leafC x v
theorem leafs_len (l : List Leaf) : (l.flatMap leafN).length = l.length * 4 := rowk_len (k := 4) (fun _ => rfl) l
theorem lvC_len0 (l : List Leaf) : (lvC l none).length = l.length * 4 := leafs_len l
theorem lvC_len1 (l : List Leaf) (x : Leaf) (v : Value) : (lvC l (some (x, v))).length = (l.length + 1) * 4 := by
 show (l.flatMap leafN ++ leafC x v).length = _
 rw [List.length_append, leafs_len, Nat.succ_mul]; rfl
theorem lvC_pre {l : List Leaf} {o : Option (Leaf × Value)} {i j : Nat} {x : Leaf} (hx : l[i]? = some x) (hj : j < 4) : (lvC l o)[i * 4 + j]? = (leafN x)[j]? := by
 have h := rowk_get (f := leafN) (k := 4) (fun _ => rfl) hx hj
 cases o with
 | none => exact h
 | some p =>
  show (l.flatMap leafN ++ _)[_]? = _
  have hi := (List.getElem?_eq_some_iff.1 hx).1
  have := Nat.mul_le_mul_right 4 (show i + 1 ≤ l.length by omega)
  rw [Nat.succ_mul] at this
  rw [List.getElem?_append_left (by rw [leafs_len]; omega)]
  exact h
theorem lvC_last {l : List Leaf} {x : Leaf} {v : Value} {j : Nat} : (lvC l (some (x, v)))[l.length * 4 + j]? = (leafC x v)[j]? := by
 show (l.flatMap leafN ++ _)[_]? = _
 rw [List.getElem?_append_right (by rw [leafs_len]; omega), leafs_len, Nat.add_sub_cancel_left]
theorem lvSet_same {α : Type} {l : List α} {i : Nat} {v : α} (h : l[i]? = some v) : l.set i v = l := by
 refine List.ext_getElem? fun j => ?_
 rw [List.getElem?_set]
 split
 ·rename_i e; subst e
  have := (List.getElem?_eq_some_iff.1 h).1
  rw [if_pos this, h]
 rfl
theorem lvC_set {l : List Leaf} {o : Option (Leaf × Value)} {i : Nat} {x : Leaf} (hx : l[i]? = some x) : (lvC l o).set (i * 4 + 3) nilS = lvC l o := lvSet_same (by rw [lvC_pre hx (by decide)]; rfl)
theorem lvC_setl {l : List Leaf} {x : Leaf} {v u : Value} : (lvC l (some (x, v))).set (l.length * 4 + 3) u = lvC l (some (x, u)) := by
 show (l.flatMap leafN ++ _).set _ _ = l.flatMap leafN ++ _
 rw [List.set_append_right _ _ (by rw [leafs_len]; omega), leafs_len, Nat.add_sub_cancel_left]; rfl
theorem lvC_one {l : List Leaf} {o : Option (Leaf × Value)} (ho : ∀ p, o = some p → p.2.oneCell' = true) : ∀ u ∈ lvC l o, u.oneCell' = true := by
 have h0 : ∀ u ∈ l.flatMap leafN, u.oneCell' = true := by
  intro u hu
  obtain ⟨x, -, hu⟩ := List.mem_flatMap.1 hu
  simp only [List.mem_cons, List.not_mem_nil, or_false] at hu
  rcases hu with rfl | rfl | rfl | rfl <;> rfl
 cases o with
 | none => exact h0
 | some p =>
  intro u hu
  rcases List.mem_append.1 (show u ∈ l.flatMap leafN ++ leafC p.1 p.2 from hu) with hu | hu
  ·exact h0 u hu
  simp only [List.mem_cons, List.not_mem_nil, or_false] at hu
  rcases hu with rfl | rfl | rfl | rfl
  ·rfl
  ·rfl
  ·rfl
  exact ho p rfl
theorem lvC_at0 {B : Base} : ∀ (l : List Leaf), RpsAt B (l.map leafR) (l.flatMap leafN)
 | [] => RpsAt.nil
 | x :: l => RpsAt.cons (rpAt_leaf (k := x.k) (s := x.s) (n := x.n)) (lvC_at0 l)
theorem lvC_at1 {B : Base} {pre l : List Leaf} {x : Leaf} {v : Value} (h : RowB B v l.length (l.flatMap leafN)) : RpsAt B (pre.map leafR ++ [.mk x.k x.s x.n (l.map leafR)]) (lvC pre (some (x, v))) :=
 RpsAt.append (RpsAt.single (rpAt_of (l := l.map leafR) (by rw [List.length_map]; exact h) (lvC_at0 l))) (lvC_at0 pre)
theorem row_loads {w : World} {e : TypeId} {size n c b k off : Nat} {xs cs : List Value} (h : w.ownsRow 0 e size (.slice (some ⟨b, 0, none⟩) n c) n xs) (ho : off = k) (hcs : ∀ j, j < cs.length → cs[j]? = xs[k + j]?) : ∀ j v, cs[j]? = some v → w.cell? ⟨b, off + j, none⟩ = some v := by
 subst ho
 intro j v hj
 have := row_load h (j := off + j) (v := v) (by rw [← hcs j (List.getElem?_eq_some_iff.1 hj).1, hj])
 rw [Nat.zero_add] at this
 exact this
theorem Inv.rowLess {B : Base} {n m c size b : Nat} {e : TypeId} {xs : List Value} {H : List Res} {w : World} (hv : Inv B (Res.row e size (.slice (some ⟨b, 0, none⟩) n c) n xs :: H) w) (hm : m ≤ n) : Inv B (Res.row e size (.slice (some ⟨b, 0, none⟩) m c) m (xs.take (m * size)) :: H) w := by
 obtain ⟨L, h1, h2, h3, h4, hc⟩ := hv.rowCell
 have h9 := hc.cellRow (n := m) (c := c) (size := size) h1 (by omega) h4
 have hle : m * size ≤ n * size := Nat.mul_le_mul_right _ hm
 rw [← h2, List.take_take, Nat.min_eq_left hle]
 exact h9
def ListIn (B : Base) (m : Nat) (xs : List Value) (r : Rp) : Prop :=
 (∃ ls : List Leaf, m = ls.length ∧ xs = lvC ls none ∧ r = rList (ls.map leafR)) ∨
 (∃ (pre l : List Leaf) (x : Leaf) (la : Option Addr) (lc : Nat), m = pre.length + 1 ∧ xs = lvC pre (some (x, .slice la l.length lc)) ∧ SliceOk la l.length lc ∧ RdV B [] la (lvC l none) ∧ l.length ≤ 1000000 ∧ r = rList (pre.map leafR ++ [.mk x.k x.s x.n (l.map leafR)]))
theorem ListIn.len {B : Base} {m : Nat} {xs : List Value} {r : Rp} (h : ListIn B m xs r) : xs.length = m * 4 := by
 rcases h with ⟨ls, rfl, rfl, -⟩ | ⟨pre, l, x, la, lc, rfl, rfl, -⟩
 ·exact lvC_len0 ls
 exact lvC_len1 pre x _
theorem ListIn.one {B : Base} {m : Nat} {xs : List Value} {r : Rp} (h : ListIn B m xs r) : ∀ u ∈ xs, u.oneCell' = true := by
 rcases h with ⟨ls, rfl, rfl, -⟩ | ⟨pre, l, x, la, lc, rfl, rfl, -⟩
 ·exact lvC_one fun p h => by cases h
 exact lvC_one fun p h => by cases h; rfl
theorem rlist_at {B : Base} {l : List Rp} {v : Value} {xs : List Value} (h1 : RowB B v l.length xs) (h2 : RpsAt B l xs) : RpAt B (rList l) (rpCells 5 [] 0 v) := rpAt_of h1 h2
end Go.Pm
namespace Go.Proofs.YtmhdpjifhfoabaaGreatDoor
open Go.RowKit Go.Pm
theorem cloneRps0 (B : Base) (H : List Res) (w : World) (hv : Inv B H w) :
  Calls Tryz.prog 98 #[vN] w fun e w' => e = .returned (vN) ∧ Inv B H w' := by
 refine cW Tryz.func98 rfl Tryz.ntmps98 ?_
 simp only [al]
 refine sK fun _ k1 => rL (uA rfl ?_)
 refine uW k1 (sK fun _ k2 => ?_)
 refine sK fun _ k3 => rL (uM rfl ?_)
 refine uG (.bool true) rfl (ex_slnil Tryz.underlying26 rfl rfl rfl rfl) (uW k3 ?_)
 refine cT rfl (sK fun _ k4 => ?_)
 refine rL (uA rfl ?_)
 refine uW k4 (rR ?_)
 refine tR (bR rfl rfl ?_)
 exact ⟨rfl, hv⟩
theorem rlmk28 : (Tryz.prog.info? 28).map (fun i => (i.zero, i.size, i.bytes)) = some (some (.agg #[vI 0, vS [], vI 0, vN]), 4, 56) := by kernel_rfl
theorem rlel26 : Elem Tryz.prog 26 28 (.agg #[vI 0, vS [], vI 0, vN]) 4 56 := elem_of Tryz.underlying26 rlmk28 (by rfl) (by decide)
theorem cloneRps1 (B : Base) (H : List Res) (w : World) (a : Addr) (n c : Nat) (xs : List Value) (hok : SliceOk (some a) n c) (hl : xs.length = n * 4) (h1 : ∀ u ∈ xs, u.oneCell' = true) (hn : n ≤ 1000000) (hr : RdV B [] (some a) xs) (hv : Inv B H w) :
  Calls Tryz.prog 98 #[.slice (some a) n c] w fun e w' => ∃ v, e = .returned v ∧ Inv B (Res.row 28 4 v n xs :: H) w' := by
 refine cW Tryz.func98 rfl Tryz.ntmps98 ?_
 simp only [al]
 refine sK fun _ k1 => rL (uA rfl ?_)
 refine uW k1 (sK fun _ k2 => ?_)
 refine sK fun _ k3 => rL (uM rfl ?_)
 refine uG (.bool false) rfl (ex_slnil Tryz.underlying26 rfl rfl rfl rfl) (uW k3 ?_)
 refine cF rfl (kS ?_)
 refine tK k2 (sK fun _ k4 => ?_)
 refine rL (sl_row0 (size := 4) tV (wn rfl) rfl hv (e := 28) (fun w => by kernel_rfl) (fun b5 w6 hv => ?_))
 refine uM rfl ?_
 refine sl_append (news := xs) tV (wn rfl) rfl rfl rfl rlel26 hv hok hl ((hr.more (Base.Le.refl _) (fun _ h => by cases h)).src hv) (h1) (by unfold maxLen; omega) (by omega) (fun rv7 w10 hv => ?_)
 obtain ⟨ra8, rc9, rfl⟩ := row_slice hv.head
 refine uA rfl (uW k4 ?_)
 refine rR (bR rfl rfl ?_)
 rw [Nat.zero_add, List.nil_append] at hv
 exact ⟨_, by rw [Nat.zero_add]; rfl, hv⟩
theorem cloneRps (B : Base) (H : List Res) (w : World) (ad : Option Addr) (n c : Nat) (xs : List Value) (hok : SliceOk ad n c) (hl : xs.length = n * 4) (h1 : ∀ u ∈ xs, u.oneCell' = true) (hn : n ≤ 1000000) (hr : RdV B [] ad xs) (hv : Inv B H w) :
  Calls Tryz.prog 98 #[.slice ad n c] w fun e w' => ∃ va vc, e = .returned (.slice va n vc) ∧ Inv B (Res.row 28 4 (.slice va n vc) n xs :: H) w' := by
 cases ad with
 | none =>
  have hc0 : c = 0 := hok.nil rfl
  have hn0 : n = 0 := by have := hok.le; omega
  subst hc0 hn0
  have hx : xs = [] := List.eq_nil_of_length_eq_zero (by simpa using hl)
  subst hx
  refine (cloneRps0 B H w hv).mono ?_
  rintro e w' ⟨rfl, hv⟩
  exact ⟨_, _, rfl, hv.rowNil _ _⟩
 | some a =>
  refine (cloneRps1 B H w a n c xs hok hl h1 hn hr hv).mono ?_
  rintro e w' ⟨v, rfl, hv⟩
  obtain ⟨va, vc, rfl⟩ := row_slice hv.head
  exact ⟨_, _, rfl, hv⟩
theorem respOne0 (B : Base) (H : List Res) (w : World) (la : Option Addr) (n lc : Nat) (h0 : 0 < n) (hv : Inv B H w) :
  Calls Tryz.prog 109 #[.slice la n lc, vN] w fun e w' => e = .returned (.bool false) ∧ Inv B H w' := by
 refine cW Tryz.func109 rfl Tryz.ntmps109 ?_
 simp only [al]
 refine sK fun _ k1 => rL (uA rfl ?_)
 refine uW k1 (sK fun _ k2 => ?_)
 refine rW mixed [] [0,1,2,3,4,5,6,7,8,9,10,11,12,13,14,15,16,17] 22 rfl (by kernel_rfl) hv ?_
 simp only [qm, opAt]
 refine dM (.slice la n lc) rfl (dG (vI n) rfl (ex_len0 Tryz.underlying26 rfl rfl) ?_)
 refine dG (.bool true) rfl (ex_gtr rfl rfl rfl (qT (by omega))) ?_
 simp only [zP, po]
 refine dM (.bool true) rfl (dM (.slice la n lc) rfl ?_)
 refine dG (vI n) rfl (ex_len0 Tryz.underlying26 rfl rfl) ?_
 simp only [zP, po]
 refine dM (vN) rfl (dG (vI 0) rfl (ex_len0 Tryz.underlying26 rfl rfl) ?_)
 refine dG (.bool false) rfl (ex_eql rfl rfl rfl (qF (by omega))) ?_
 simp only [zP, po]
 refine dK true (.bool false) rfl (dM (.bool false) rfl ?_)
 iterate 5 refine dN rfl ?_
 refine dK false (.bool false) rfl ?_
 simp only [zP, po]
 refine dA (.bool false) rfl (dE fun w3 hv => ?_)
 simp only [zP, po]
 refine tK k2 (rR ?_)
 refine bR rfl rfl (⟨rfl, hv⟩)
theorem rlal178 : AL Tryz.prog 178 [vI 0, vI 0, vN, vN] := fun w => by kernel_rfl
theorem rlwd178 : Wide Tryz.prog 178 4 := wide_of (fun w => by kernel_rfl) (by kernel_rfl)
theorem rlsz178 : (Tryz.prog.info? 178).map (·.size) = some 4 := by kernel_rfl
theorem trailLeaf (B : Base) (H : List Res) (w : World) (n1 n2 : Int) (va vb : Value) (_ : va.cells = #[va]) (h1b : va.oneCell' = true) (_ : vb.cells = #[vb]) (h2b : vb.oneCell' = true) (aa : Option Addr) (ac : Nat) (hv : Inv B H w) :
  Calls Tryz.prog 99 #[.agg #[vI n1, vI n2, va, vb], .slice aa 0 ac, .slice aa 0 ac] w fun e w' => e = .returned (.tuple #[.agg #[vI n1, vI n2, va, vb], .bool false]) ∧ Inv B H w' := by
 refine cW Tryz.func99 rfl Tryz.ntmps99 ?_
 simp only [al]
 refine sK fun _ k1 => rL (sl_box (L := [vI n1, vI n2, va, vb]) tV (wn rfl) rfl rfl hv (fun w => by kernel_rfl) (fun b2 w3 hv => ?_))
 refine sl_alloc tV (wn rfl) rfl hv rlal178 (fun b4 w5 hv => ?_)
 refine uA rfl (uW k1 ?_)
 refine sK fun _ k6 => sK fun _ k7 => rL (uM rfl ?_)
 refine uG (vI 0) rfl (ex_len0 Tryz.underlying26 rfl rfl) ?_
 refine uG (.bool true) rfl (ex_eql rfl rfl rfl (by decide)) (uM rfl ?_)
 iterate 10 refine uP rfl ?_
 refine uK rfl (uW k7 ?_)
 refine cT rfl (sK fun _ k8 => ?_)
 refine rL (uL (.agg #[vI n1, vI n2, va, vb]) rfl (lM 1 rlwd178 hv rfl rfl rfl rfl) ?_)
 refine xS 0 rfl hv rlsz178 rfl (by exact ⟨rfl, rfl, h1b, h2b, trivial⟩) (fun w9 hv => ?_)
 simp only [zO, sp] at hv
 refine uA rfl (uW k8 ?_)
 refine rR (tR ?_)
 refine bodyPost_ret (res_cell2 rfl rfl (lM 0 rlwd178 hv rfl rfl rfl rfl)) rfl (⟨rfl, (hv.kp [] 0 2)⟩)
theorem rlfa178_2 : FA Tryz.prog 178 2 2 := fun w b o => by kernel_rfl
theorem rlcallable109 : Callable Tryz.prog 109 := cb Tryz.func109 (by kernel_rfl)
theorem rlfa178_0 : FA Tryz.prog 178 0 0 := fun w b o => by kernel_rfl
theorem rlna3 (w : World) : (isAgg 3).run Tryz.prog w = .ok false w := by kernel_rfl
theorem rlsz3 : (Tryz.prog.info? 3).map (·.size) = some 1 := by kernel_rfl
theorem rlfa178_1 : FA Tryz.prog 178 1 1 := fun w b o => by kernel_rfl
theorem rlfa178_3 : FA Tryz.prog 178 3 3 := fun w b o => by kernel_rfl
theorem trailNew (B : Base) (H : List Res) (w : World) (la : Option Addr) (n lc : Nat) (h0 : 0 < n) (hv : Inv B H w) :
  Calls Tryz.prog 99 #[.agg #[vI 0, vI 0, vN, vN], .slice la n lc, .slice la n lc] w fun e w' => e = .returned (.tuple #[.agg #[vI 1, vI 2, .slice la n lc, .slice la n lc], .bool true]) ∧ Inv B H w' := by
 refine cW Tryz.func99 rfl Tryz.ntmps99 ?_
 simp only [al]
 refine sK fun _ k1 => rL (sl_box (L := [vI 0, vI 0, vN, vN]) tV (wn rfl) rfl rfl hv (fun w => by kernel_rfl) (fun b2 w3 hv => ?_))
 refine sl_alloc tV (wn rfl) rfl hv rlal178 (fun b4 w5 hv => ?_)
 refine uA rfl (uW k1 ?_)
 refine sK fun _ k6 => sK fun _ k7 => rL (uM rfl ?_)
 refine uG (vI n) rfl (ex_len0 Tryz.underlying26 rfl rfl) ?_
 refine uG (.bool false) rfl (ex_eql rfl rfl rfl (qF (by omega))) (uM rfl ?_)
 refine uM rfl ?_
 refine uF (.pointer (some ⟨b2, 2, none⟩)) rfl (rlfa178_2 _ _ _) ?_
 refine uL _ rfl (run_load1 rtna26 (hv.load 1 2 rfl rfl)) ?_
 refine xC rlcallable109 rfl ((respOne0 B _ _ la n lc h0 hv).mono ?_) rfl
 rintro e w8 ⟨rfl, hv⟩
 refine ⟨_, rfl, ?_⟩
 refine uM rfl ?_
 iterate 4 refine uP rfl ?_
 refine uK rfl (uK rfl ?_)
 refine uW k7 (cF rfl ?_)
 refine kS (tK k6 ?_)
 refine sK fun _ k9 => rL (uF (vP b2) rfl (rlfa178_0 _ _ _) ?_)
 refine uL _ rfl (run_load1 rlna3 (hv.load 1 0 rfl rfl)) ?_
 refine uG (vI 1) rfl (ex_add rfl rfl rfl (i64_in (by omega))) ?_
 refine uF (vP b2) rfl (rlfa178_0 _ _ _) ?_
 refine xV 1 (vI 1) rfl hv rlsz3 rfl rfl (fun w10 hv => ?_)
 simp only [zS, zO, sp] at hv
 refine uW k9 (sK fun _ k11 => ?_)
 refine sK fun _ k12 => rL (uF (vP b2) rfl (rlfa178_0 _ _ _) ?_)
 refine uL _ rfl (run_load1 rlna3 (hv.load 1 0 rfl rfl)) ?_
 refine uF (.pointer (some ⟨b2, 1, none⟩)) rfl (rlfa178_1 _ _ _) ?_
 refine uL _ rfl (run_load1 rlna3 (hv.load 1 1 rfl rfl)) ?_
 refine uG (.bool true) rfl (ex_geq rfl rfl rfl (by decide)) (uW k12 ?_)
 refine cT rfl (rL ?_)
 refine uF (vP b2) rfl (rlfa178_0 _ _ _) ?_
 refine uL _ rfl (run_load1 rlna3 (hv.load 1 0 rfl rfl)) ?_
 refine uG (vI 2) rfl (ex_mul rfl rfl rfl (i64_in (by omega))) (uM rfl ?_)
 refine uM rfl ?_
 refine uF (.pointer (some ⟨b2, 1, none⟩)) rfl (rlfa178_1 _ _ _) ?_
 refine xV 1 (vI 2) rfl hv rlsz3 rfl rfl (fun w13 hv => ?_)
 simp only [zS, zO, sp] at hv
 refine uF (.pointer (some ⟨b2, 2, none⟩)) rfl (rlfa178_2 _ _ _) ?_
 refine xV 1 (.slice la n lc) rfl hv rtsz26 rfl rfl (fun w14 hv => ?_)
 simp only [zS, zO, sp] at hv
 refine uF (.pointer (some ⟨b2, 3, none⟩)) rfl (rlfa178_3 _ _ _) ?_
 refine xV 1 (.slice la n lc) rfl hv rtsz26 rfl rfl (fun w15 hv => ?_)
 simp only [zS, zO, sp] at hv
 refine uW k11 (sK fun _ k16 => ?_)
 refine rL (uL (.agg #[vI 1, vI 2, .slice la n lc, .slice la n lc]) rfl (lM 1 rlwd178 hv rfl rfl rfl rfl) ?_)
 refine xS 0 rfl hv rlsz178 rfl (by exact ⟨rfl, rfl, rfl, rfl, trivial⟩) (fun w17 hv => ?_)
 simp only [zO, sp] at hv
 refine uA rfl (uW k16 ?_)
 refine rR (bodyPost_ret (res_cell2 rfl rfl (lM 0 rlwd178 hv rfl rfl rfl rfl)) rfl ?_)
 exact ⟨rfl, (hv.kp [] 0 2)⟩
open Classical in
noncomputable def lvMu (x : Value) (w : World) : Nat := match x with
 | .slice (some ⟨b, _, _⟩) (_ + 1) _ => if w.cell? ⟨b, 1, none⟩ = some (vI 0) then 2 else 1
 | _ => 0
open Classical in
theorem lvMu2 {b c : Nat} {w : World} (h : w.cell? ⟨b, 0 + 1, none⟩ = some (vI 0)) : lvMu (.slice (some ⟨b, 0, none⟩) 1 c) w = 2 := if_pos h
open Classical in
theorem lvMu1 {b c : Nat} {w : World} : 1 ≤ lvMu (.slice (some ⟨b, 0, none⟩) 1 c) w := by
 show 1 ≤ if _ then 2 else 1
 split <;> omega
open Classical in
theorem lvMu3 {b c : Nat} {w : World} (h : w.cell? ⟨b, 0 + 1, none⟩ = some (vI 1)) : lvMu (.slice (some ⟨b, 0, none⟩) 1 c) w < 2 := by
 show (if _ then 2 else 1) < 2
 rw [if_neg (by rw [Nat.zero_add] at h; rw [h]; simp)]; omega
theorem lvMu0 {a : Option Addr} {c : Nat} {w : World} : lvMu (.slice a 0 c) w = 0 := by cases a <;> rfl
theorem rlal28 : AL Tryz.prog 28 [vI 0, vS [], vI 0, vN] := fun w => by kernel_rfl
theorem rlcallable98 : Callable Tryz.prog 98 := cb Tryz.func98 (by kernel_rfl)
theorem rlmk180 : (Tryz.prog.info? 180).map (fun i => (i.zero, i.size, i.bytes)) = some (some (.agg #[vN, vI 0, vI 0, vN, vN]), 5, 88) := by kernel_rfl
theorem rlel181 : Elem Tryz.prog 181 180 (.agg #[vN, vI 0, vI 0, vN, vN]) 5 88 := elem_of Tryz.underlying181 rlmk180 (by rfl) (by decide)
theorem rles181 (w : World) : (sizeOf (Tryz.prog.elem 181)).run Tryz.prog w = .ok 5 w := by kernel_rfl
theorem rlwd180 : Wide Tryz.prog 180 5 := wide_of (fun w => by kernel_rfl) (by kernel_rfl)
theorem rlal180 : AL Tryz.prog 180 [vN, vI 0, vI 0, vN, vN] := fun w => by kernel_rfl
theorem rlsz180 : (Tryz.prog.info? 180).map (·.size) = some 5 := by kernel_rfl
theorem rlfa180_0 : FA Tryz.prog 180 0 0 := fun w b o => by kernel_rfl
theorem rles26 (w : World) : (sizeOf (Tryz.prog.elem 26)).run Tryz.prog w = .ok 4 w := by kernel_rfl
theorem rlfa180_1 : FA Tryz.prog 180 1 1 := fun w b o => by kernel_rfl
theorem rlcallable99 : Callable Tryz.prog 99 := cb Tryz.func99 (by kernel_rfl)
theorem respList (B : Base) (H : List Res) (w : World) (ra : Option Addr) (m rc : Nat) (xs : List Value) (r : Rp) (hok : SliceOk ra m rc) (hr : RdV B [] ra xs) (hin : ListIn B m xs r) (hm : m ≤ 1000000) (hv : Inv B H w) :
  Calls Tryz.prog 77 #[.slice ra m rc] w fun e w' => ∃ C v, B.Le C ∧ e = .returned (.agg (rpCells 5 [] 0 v).toArray) ∧ RpAt C r (rpCells 5 [] 0 v) ∧ Inv C H w' := by
 refine cW Tryz.func77 rfl Tryz.ntmps77 ?_
 simp only [al]
 refine sK fun _ k1 => rL (sl_alloc tV (wn rfl) rfl hv rlal28 (fun b2 w3 hv => ?_))
 refine uW k1 (sK fun _ k4 => ?_)
 refine rL (uM rfl ?_)
 refine xC rlcallable98 rfl ((cloneRps B _ _ ra m rc xs hok hin.len hin.one hm hr hv).mono ?_) rfl
 rintro e w5 ⟨oa, oc, rfl, hv⟩
 refine ⟨_, rfl, uG (.agg #[vI 5, vS [], vI 0, .slice oa m oc]) rfl (ex_buildN (vs := #[(0, vI 5), (3, .slice oa m oc)]) rfl (by simp only [List.map_toArray, List.map_cons, List.map_nil]; rfl) (by kernel_rfl)) ?_⟩
 refine sl_alloc tV (wn rfl) rfl hv rlal28 (fun b6 w7 hv => ?_)
 simp only [zP, po]
 refine xS 0 rfl hv rssz28 rfl (by exact ⟨rfl, rfl, rfl, rfl, trivial⟩) (fun w8 hv => ?_)
 simp only [zO, sp] at hv
 refine uW k4 (sK fun _ k9 => ?_)
 refine rL (uF (.pointer (some ⟨b6, 3, none⟩)) rfl (rtfa28_3 _ _ _) ?_)
 refine uL _ rfl (run_load1 rtna26 (hv.load 0 3 rfl rfl)) ?_
 refine uG (.agg #[.slice oa m oc, vI 0, vI 0, vN, vN]) rfl (ex_buildN (vs := #[(0, .slice oa m oc)]) rfl (by simp only [List.map_toArray, List.map_cons, List.map_nil]; rfl) (by kernel_rfl)) ?_
 refine sl_rowAgg (L := [.slice oa m oc, vI 0, vI 0, vN, vN]) tV (wn rfl) rfl rfl hv rlel181 rfl (by decide) (fun b10 w11 hv => ?_)
 refine uA rfl (uW k9 ?_)
 refine sK fun _ k12 => bB ?_
 gi_loopw [4] (fun x4 wr => ∃ (v0 : Option Addr) (vc : Nat), ((∃ (C : Base) (ls : List Leaf) (oa : Option Addr) (oc tb tc : Nat) (n1 n2 : Int) (va vb : Value), x4 = .slice (some ⟨tb, 0, none⟩) 1 tc ∧ B.Le C ∧ (ls.length ≤ 1000000 ∧ va.cells = #[va] ∧ va.oneCell' = true ∧ vb.cells = #[vb] ∧ vb.oneCell' = true) ∧ (∀ D, C.Le D → RowB D (.slice oa ls.length oc) ls.length (lvC ls none) → RpAt D r (rpCells 5 [] 0 (.slice v0 m vc))) ∧ Inv C (Res.row 180 5 (.slice (some ⟨tb, 0, none⟩) 1 tc) 1 [.slice oa ls.length oc, vI n1, vI n2, va, vb] :: Res.row 28 4 (.slice oa ls.length oc) ls.length (lvC ls none) :: Res.cell b6 [vI 5, vS [], vI 0, .slice v0 m vc] 28 :: Res.cell b2 [vI 0, vS [], vI 0, vN] 28 :: H) wr) ∨ (∃ (C : Base) (pre l : List Leaf) (x : Leaf) (la : Option Addr) (lc : Nat) (oa : Option Addr) (oc tb tc : Nat), x4 = .slice (some ⟨tb, 0, none⟩) 1 tc ∧ B.Le C ∧ (pre.length ≤ 1000000 ∧ l.length ≤ 1000000 ∧ SliceOk la l.length lc ∧ RdV C [] la (lvC l none)) ∧ (∀ D, C.Le D → ∀ u, RowB D u l.length (lvC l none) → RowB D (.slice oa (pre.length + 1) oc) (pre.length + 1) (lvC pre (some (x, u))) → RpAt D r (rpCells 5 [] 0 (.slice v0 m vc))) ∧ Inv C (Res.row 180 5 (.slice (some ⟨tb, 0, none⟩) 1 tc) 1 [.slice oa (pre.length + 1) oc, vI 0, vI 0, vN, vN] :: Res.row 28 4 (.slice oa (pre.length + 1) oc) (pre.length + 1) (lvC pre (some (x, .slice la l.length lc))) :: Res.cell b6 [vI 5, vS [], vI 0, .slice v0 m vc] 28 :: Res.cell b2 [vI 0, vS [], vI 0, vN] 28 :: H) wr) ∨ (∃ (C : Base) (ta : Option Addr) (tc : Nat), x4 = .slice ta 0 tc ∧ B.Le C ∧ RpAt C r (rpCells 5 [] 0 (.slice v0 m vc)) ∧ Inv C (Res.cell b6 [vI 5, vS [], vI 0, .slice v0 m vc] 28 :: Res.cell b2 [vI 0, vS [], vI 0, vN] 28 :: H) wr))) (fun x4 wr => lvMu x4 wr)
 case atStart => exact (by
   have hv := (((((hv.front 3 rfl).front 2 rfl).front 3 rfl).front 3 rfl)).cellRow (n := 1) (c := 1) (size := 5) rfl (by decide) (by decide)
   rcases hin with ⟨ls, rfl, rfl, rfl⟩ | ⟨pre, l, x, la, lc, rfl, rfl, hla, hrl, hml, rfl⟩
   ·refine ⟨oa, oc, .inl ⟨B, ls, oa, oc, _, _, 0, 0, _, _, rfl, Base.Le.refl _, ⟨hm, rfl, rfl, rfl, rfl⟩, fun D hD h => rlist_at (by rw [List.length_map]; exact h) (lvC_at0 ls), hv⟩⟩
   refine ⟨oa, oc, .inr (.inl ⟨B, pre, l, x, la, lc, oa, oc, _, _, rfl, Base.Le.refl _, ⟨by omega, hml, hla, hrl⟩, fun D hD u hu h => rlist_at (by rw [List.length_append, List.length_map]; exact h) (lvC_at1 hu), hv⟩)⟩)
 case round =>
  rcases hrel with ⟨v0, vc, ⟨C, ls, oa, oc, tb, tc, n1, n2, va, vb, rfl, hC, ⟨hls, h1a, h1b, h2a, h2b⟩, hfin, hv⟩ | ⟨C, pre, l, x, la, lc, oa, oc, tb, tc, rfl, hC, ⟨hpm, hlm, hla, hrl⟩, hfin, hv⟩ | ⟨C, ta, tc, rfl, hC, hat, hv⟩⟩
  ·have hmu := @lvMu1 tb tc wr
   refine sK fun _ k14 => sK fun _ k15 => rL (uG (.slice (some ⟨tb, 0, none⟩) 1 tc) rfl (ex_move rfl rfl) ?_)
   refine uG (vI 1) rfl (ex_len0 Tryz.underlying181 rfl rfl) ?_
   refine uG (.bool true) rfl (ex_gtr rfl rfl rfl (by decide)) (uW k15 ?_)
   refine cT rfl (kS ?_)
   refine tK k14 (bB ?_)
   refine sK fun _ k16 => rL (uG (.slice (some ⟨tb, 0, none⟩) 1 tc) rfl (ex_move rfl rfl) ?_)
   refine uG (.slice (some ⟨tb, 0, none⟩) 1 tc) rfl (ex_move rfl rfl) ?_
   refine uG (vI 1) rfl (ex_len0 Tryz.underlying181 rfl rfl) ?_
   refine uG (vI 0) rfl (ex_sub rfl rfl rfl (i64_in (by omega))) ?_
   refine uG (.pointer (some ⟨tb, 0 + 0 * 5, none⟩)) rfl (ex_index rfl rfl rfl (run_idx (k := 0) Tryz.underlying181 rles181 (by omega))) ?_
   refine uL (.agg #[.slice oa ls.length oc, vI n1, vI n2, va, vb]) rfl (run_loadR (cs := [.slice oa ls.length oc, vI n1, vI n2, va, vb]) rlwd180 (row_loads (hv.get 0 rfl) (k := 0) (by omega) (fun j hj => (by rw [Nat.zero_add])))) ?_
   refine sl_alloc tV (wn rfl) rfl hv rlal180 (fun b17 w18 hv => ?_)
   simp only [zP, po]
   refine xS 0 rfl hv rlsz180 rfl (by exact ⟨rfl, rfl, rfl, h1b, h2b, trivial⟩) (fun w19 hv => ?_)
   simp only [zO, sp] at hv
   refine uW k16 (sK fun _ k20 => ?_)
   refine rL (uG (.slice (some ⟨tb, 0, none⟩) 1 tc) rfl (ex_move rfl rfl) ?_)
   refine uG (.slice (some ⟨tb, 0, none⟩) 1 tc) rfl (ex_move rfl rfl) ?_
   refine uG (vI 1) rfl (ex_len0 Tryz.underlying181 rfl rfl) ?_
   refine uG (vI 0) rfl (ex_sub rfl rfl rfl (i64_in (by omega))) ?_
   refine uG (.slice (some ⟨tb, 0, none⟩) 0 tc) rfl (ex_slice (hi' := some (vI 0)) rfl rfl rfl (congrArg some rfl) rfl (run_hi Tryz.underlying181 rles181 (Nat.zero_le _))) (uA rfl ?_)
   refine uW k20 (sK fun _ k21 => ?_)
   replace hv := hv.front 1 rfl
   simp only [eS, eZ] at hv
   replace hv := hv.rowLess (m := 0) (Nat.zero_le _)
   rw [Nat.zero_mul, List.take_zero] at hv
   refine rL (uF (vP b17) rfl (rlfa180_0 _ _ _) ?_)
   refine uL _ rfl (run_load1 rtna26 (hv.load 1 0 rfl rfl)) ?_
   refine uG (vI (ls.length : Int)) rfl (ex_len0 Tryz.underlying26 rfl rfl) (uM rfl ?_)
   refine uW k21 (bB ?_)
   gi_loopw [34, 4] (fun x34 x4 wr => ∃ (i : Nat), x34 = vI i ∧ x4 = .slice (some ⟨tb, 0, none⟩) 0 tc ∧ i ≤ ls.length ∧ Inv C (Res.row 180 5 (.slice (some ⟨tb, 0, none⟩) 0 tc) 0 ([] : List Value) :: Res.row 28 4 (.slice oa ls.length oc) ls.length (lvC ls none) :: Res.cell b17 [.slice oa ls.length oc, vI n1, vI n2, va, vb] 180 :: Res.cell b6 [vI 5, vS [], vI 0, .slice v0 m vc] 28 :: Res.cell b2 [vI 0, vS [], vI 0, vN] 28 :: H) wr) (fun x34 x4 _ => ls.length - (intOf x34).toNat)
   case atStart => exact ⟨0, rfl, rfl, Nat.zero_le _, (((((hv.front 4 rfl).front 4 rfl).front 3 rfl).front 4 rfl).front 4 rfl)⟩
   case round =>
    obtain ⟨i, rfl, rfl, hi, hv⟩ := hrel
    refine sK fun _ k23 => rL ?_
    by_cases hb24 : (i : Int) < (ls.length : Int)
    ·refine uG (.bool true) rfl (ex_lss rfl rfl rfl (qT hb24)) (uW k23 ?_)
     refine sK fun _ k25 => cT rfl (kS ?_)
     refine tK k25 (sK fun _ k26 => ?_)
     refine bB (sK fun _ k27 => ?_)
     obtain ⟨q, hq⟩ : ∃ q, ls[i]? = some q := ⟨_, List.getElem?_eq_getElem (by omega)⟩
     have hv8 := hv
     clear hv
     obtain ⟨ob, h9⟩ := row_some (hv8.get 1 rfl) (by omega)
     subst h9
     have hv := hv8
     clear hv8
     refine rL (uM rfl ?_)
     refine uG (.pointer (some ⟨ob, 0 + i * 4, none⟩)) rfl (ex_index rfl rfl rfl (run_idx (k := i) Tryz.underlying26 rles26 (by omega))) ?_
     refine uL (.agg #[vI q.k, vS q.s, vI q.n, vN]) rfl (run_loadR (cs := [vI q.k, vS q.s, vI q.n, vN]) rswd28 (row_loads (hv.get 1 rfl) (k := i * 4) (Nat.zero_add _) (fun j hj => (lvC_pre hq hj).symm))) ?_
     refine sl_alloc tV (wn rfl) rfl hv rlal28 (fun b28 w29 hv => ?_)
     refine uA rfl ?_
     refine xS 0 rfl hv rssz28 rfl (by exact ⟨rfl, rfl, rfl, rfl, trivial⟩) (fun w30 hv => ?_)
     simp only [zO, sp] at hv
     refine uW k27 (sK fun _ k31 => ?_)
     refine rL (uF (vP b17) rfl (rlfa180_0 _ _ _) ?_)
     refine uL _ rfl (run_load1 rtna26 (hv.load 3 0 rfl rfl)) (uM rfl ?_)
     refine uG (.pointer (some ⟨ob, 0 + i * 4, none⟩)) rfl (ex_index rfl rfl rfl (run_idx (k := i) Tryz.underlying26 rles26 (by omega))) ?_
     refine uF (.pointer (some ⟨ob, 0 + i * 4 + 3, none⟩)) rfl (rtfa28_3 _ _ _) ?_
     replace hv := hv.front 2 rfl
     simp only [eS, eZ] at hv
     refine sl_storeRow (v := vN) tV (wn rfl) rfl rfl rfl hv rtsz26 (by rw [lvC_len0]; omega) rfl rfl (fun w32 hv => ?_)
     rw [show 0 + i * 4 + 3 = i * 4 + 3 by omega, lvC_set hq] at hv
     refine uW k31 (sK fun _ k33 => ?_)
     refine rL (uF (.pointer (some ⟨b17, 1, none⟩)) rfl (rlfa180_1 _ _ _) ?_)
     refine uL (.agg #[vI n1, vI n2, va, vb]) rfl (lM 3 rlwd178 hv rfl rfl rfl rfl) ?_
     refine uF (.pointer (some ⟨b28, 3, none⟩)) rfl (rtfa28_3 _ _ _) ?_
     refine uL _ rfl (run_load1 rtna26 (hv.load 1 3 rfl rfl)) ?_
     refine uF (.pointer (some ⟨b28, 3, none⟩)) rfl (rtfa28_3 _ _ _) ?_
     refine uL _ rfl (run_load1 rtna26 (hv.load 1 3 rfl rfl)) ?_
     refine xC rlcallable99 rfl ((trailLeaf C _ _ n1 n2 va vb h1a h1b h2a h2b none 0 hv).mono ?_) rfl
     rintro e w34 ⟨rfl, hv⟩
     refine ⟨_, rfl, uM rfl ?_⟩
     refine uE rfl (uE rfl ?_)
     refine sl_alloc tV (wn rfl) rfl hv rlal178 (fun b35 w36 hv => ?_)
     simp only [zP, po]
     refine xS 0 rfl hv rlsz178 rfl (by exact ⟨rfl, rfl, h1b, h2b, trivial⟩) (fun w37 hv => ?_)
     simp only [zO, sp] at hv
     refine uA rfl (uW k33 ?_)
     refine sK fun _ k38 => rL (uM rfl ?_)
     refine uW k38 (cF rfl ?_)
     refine kS (bN ?_)
     refine tK k26 (rL ?_)
     refine uG (vI ((i + 1 : Nat) : Int)) rfl (ex_add rfl rfl rfl (by rw [i64_in (by omega)]; omega)) (uM rfl ?_)
     refine uZ (then_normal ?_)
     go_roundw
     case rel => exact ⟨i + 1, rfl, rfl, by omega, (hv.kp [6, 6, 6, 4, 6] 5 2)⟩
     case measure => show ls.length - (((i + 1 : Nat) : Int)).toNat < ls.length - ((i : Int)).toNat; omega
    refine uG (.bool false) rfl (ex_lss rfl rfl rfl (qF hb24)) (uW k23 ?_)
    refine sK fun _ k39 => cF rfl (xE ?_)
    refine tX (tX ?_)
    refine bH (bN ?_)
    refine then_normal ?_
    go_roundw
    case rel => (obtain ⟨D, hD, hv, hro, hoko, -⟩ := ((hv.kp [4, 4, 3] 3 2)).rowBy; exact ⟨v0, vc, .inr (.inr ⟨D, _, _, rfl, hC.trans hD, hfin D hD ⟨oa, oc, rfl, hoko, hro⟩, hv⟩)⟩)
    case measure => (rw [lvMu0]; omega)
  ·have hmu : lvMu (.slice (some ⟨tb, 0, none⟩) 1 tc) wr = 2 := lvMu2 (row_load (hv.get 0 rfl) rfl)
   refine sK fun _ k40 => sK fun _ k41 => rL (uG (.slice (some ⟨tb, 0, none⟩) 1 tc) rfl (ex_move rfl rfl) ?_)
   refine uG (vI 1) rfl (ex_len0 Tryz.underlying181 rfl rfl) ?_
   refine uG (.bool true) rfl (ex_gtr rfl rfl rfl (by decide)) (uW k41 ?_)
   refine cT rfl (kS ?_)
   refine tK k40 (bB ?_)
   refine sK fun _ k42 => rL (uG (.slice (some ⟨tb, 0, none⟩) 1 tc) rfl (ex_move rfl rfl) ?_)
   refine uG (.slice (some ⟨tb, 0, none⟩) 1 tc) rfl (ex_move rfl rfl) ?_
   refine uG (vI 1) rfl (ex_len0 Tryz.underlying181 rfl rfl) ?_
   refine uG (vI 0) rfl (ex_sub rfl rfl rfl (i64_in (by omega))) ?_
   refine uG (.pointer (some ⟨tb, 0 + 0 * 5, none⟩)) rfl (ex_index rfl rfl rfl (run_idx (k := 0) Tryz.underlying181 rles181 (by omega))) ?_
   refine uL (.agg #[.slice oa (pre.length + 1) oc, vI 0, vI 0, vN, vN]) rfl (run_loadR (cs := [.slice oa (pre.length + 1) oc, vI 0, vI 0, vN, vN]) rlwd180 (row_loads (hv.get 0 rfl) (k := 0) (by omega) (fun j hj => (by rw [Nat.zero_add])))) ?_
   refine sl_alloc tV (wn rfl) rfl hv rlal180 (fun b43 w44 hv => ?_)
   simp only [zP, po]
   refine xS 0 rfl hv rlsz180 rfl (by exact ⟨rfl, rfl, rfl, rfl, rfl, trivial⟩) (fun w45 hv => ?_)
   simp only [zO, sp] at hv
   refine uW k42 (sK fun _ k46 => ?_)
   refine rL (uG (.slice (some ⟨tb, 0, none⟩) 1 tc) rfl (ex_move rfl rfl) ?_)
   refine uG (.slice (some ⟨tb, 0, none⟩) 1 tc) rfl (ex_move rfl rfl) ?_
   refine uG (vI 1) rfl (ex_len0 Tryz.underlying181 rfl rfl) ?_
   refine uG (vI 0) rfl (ex_sub rfl rfl rfl (i64_in (by omega))) ?_
   refine uG (.slice (some ⟨tb, 0, none⟩) 0 tc) rfl (ex_slice (hi' := some (vI 0)) rfl rfl rfl (congrArg some rfl) rfl (run_hi Tryz.underlying181 rles181 (Nat.zero_le _))) (uA rfl ?_)
   refine uW k46 (sK fun _ k47 => ?_)
   replace hv := hv.front 1 rfl
   simp only [eS, eZ] at hv
   replace hv := hv.rowLess (m := 0) (Nat.zero_le _)
   rw [Nat.zero_mul, List.take_zero] at hv
   refine rL (uF (vP b43) rfl (rlfa180_0 _ _ _) ?_)
   refine uL _ rfl (run_load1 rtna26 (hv.load 1 0 rfl rfl)) ?_
   refine uG (vI ((pre.length + 1) : Int)) rfl (ex_len0 Tryz.underlying26 rfl rfl) (uM rfl ?_)
   refine uW k47 (bB ?_)
   gi_loopw [34, 4] (fun x34 x4 wr => (∃ (i : Nat), x34 = vI i ∧ x4 = .slice (some ⟨tb, 0, none⟩) 0 tc ∧ i ≤ pre.length ∧ Inv C (Res.row 180 5 (.slice (some ⟨tb, 0, none⟩) 0 tc) 0 ([] : List Value) :: Res.row 28 4 (.slice oa (pre.length + 1) oc) (pre.length + 1) (lvC pre (some (x, .slice la l.length lc))) :: Res.cell b43 [.slice oa (pre.length + 1) oc, vI 0, vI 0, vN, vN] 180 :: Res.cell b6 [vI 5, vS [], vI 0, .slice v0 m vc] 28 :: Res.cell b2 [vI 0, vS [], vI 0, vN] 28 :: H) wr) ∨ (x34 = vI ((pre.length + 1 : Nat) : Int) ∧ x4 = .slice (some ⟨tb, 0, none⟩) 0 tc ∧ l = [] ∧ Inv C (Res.row 180 5 (.slice (some ⟨tb, 0, none⟩) 0 tc) 0 ([] : List Value) :: Res.row 28 4 (.slice oa (pre.length + 1) oc) (pre.length + 1) (lvC pre (some (x, nilS))) :: Res.cell b43 [.slice oa (pre.length + 1) oc, vI 0, vI 0, vN, vN] 180 :: Res.cell b6 [vI 5, vS [], vI 0, .slice v0 m vc] 28 :: Res.cell b2 [vI 0, vS [], vI 0, vN] 28 :: H) wr) ∨ (∃ (ca : Option Addr) (cc tb2 tc2 : Nat), x34 = vI ((pre.length + 1 : Nat) : Int) ∧ x4 = .slice (some ⟨tb2, 0, none⟩) 1 tc2 ∧ 0 < l.length ∧ Inv C (Res.row 180 5 (.slice (some ⟨tb2, 0, none⟩) 1 tc2) 1 [.slice ca l.length cc, vI 1, vI 2, .slice la l.length lc, .slice la l.length lc] :: Res.row 28 4 (.slice ca l.length cc) l.length (lvC l none) :: Res.row 28 4 (.slice oa (pre.length + 1) oc) (pre.length + 1) (lvC pre (some (x, .slice ca l.length cc))) :: Res.cell b43 [.slice oa (pre.length + 1) oc, vI 0, vI 0, vN, vN] 180 :: Res.cell b6 [vI 5, vS [], vI 0, .slice v0 m vc] 28 :: Res.cell b2 [vI 0, vS [], vI 0, vN] 28 :: H) wr)) (fun x34 x4 _ => (pre.length + 1) - (intOf x34).toNat)
   case atStart => exact .inl ⟨0, rfl, rfl, Nat.zero_le _, (((((hv.front 4 rfl).front 4 rfl).front 3 rfl).front 4 rfl).front 4 rfl)⟩
   case round =>
    rcases hrel with ⟨i, rfl, rfl, hi, hv⟩ | ⟨rfl, rfl, hl0, hv⟩ | ⟨ca, cc, tb2, tc2, rfl, rfl, h0, hv⟩
    ·refine sK fun _ k49 => rL (uG (.bool true) rfl (ex_lss rfl rfl rfl (qT (by omega))) ?_)
     refine uW k49 (sK fun _ k50 => ?_)
     refine cT rfl (kS ?_)
     refine tK k50 (sK fun _ k51 => ?_)
     refine bB (sK fun _ k52 => ?_)
     rcases (show i < pre.length ∨ i = pre.length by omega) with hip | rfl
     ·obtain ⟨q, hq⟩ : ∃ q, pre[i]? = some q := ⟨_, List.getElem?_eq_getElem (by omega)⟩
      have hv8 := hv
      clear hv
      obtain ⟨ob, h9⟩ := row_some (hv8.get 1 rfl) (by omega)
      subst h9
      have hv := hv8
      clear hv8
      refine rL (uM rfl ?_)
      refine uG (.pointer (some ⟨ob, 0 + i * 4, none⟩)) rfl (ex_index rfl rfl rfl (run_idx (k := i) Tryz.underlying26 rles26 (by omega))) ?_
      refine uL (.agg #[vI q.k, vS q.s, vI q.n, vN]) rfl (run_loadR (cs := [vI q.k, vS q.s, vI q.n, vN]) rswd28 (row_loads (hv.get 1 rfl) (k := i * 4) (Nat.zero_add _) (fun j hj => (lvC_pre hq hj).symm))) ?_
      refine sl_alloc tV (wn rfl) rfl hv rlal28 (fun b53 w54 hv => ?_)
      refine uA rfl ?_
      refine xS 0 rfl hv rssz28 rfl (by exact ⟨rfl, rfl, rfl, rfl, trivial⟩) (fun w55 hv => ?_)
      simp only [zO, sp] at hv
      refine uW k52 (sK fun _ k56 => ?_)
      refine rL (uF (vP b43) rfl (rlfa180_0 _ _ _) ?_)
      refine uL _ rfl (run_load1 rtna26 (hv.load 3 0 rfl rfl)) (uM rfl ?_)
      refine uG (.pointer (some ⟨ob, 0 + i * 4, none⟩)) rfl (ex_index rfl rfl rfl (run_idx (k := i) Tryz.underlying26 rles26 (by omega))) ?_
      refine uF (.pointer (some ⟨ob, 0 + i * 4 + 3, none⟩)) rfl (rtfa28_3 _ _ _) ?_
      replace hv := hv.front 2 rfl
      simp only [eS, eZ] at hv
      refine sl_storeRow (v := vN) tV (wn rfl) rfl rfl rfl hv rtsz26 (by rw [lvC_len1]; omega) rfl rfl (fun w57 hv => ?_)
      rw [show 0 + i * 4 + 3 = i * 4 + 3 by omega, lvC_set hq] at hv
      refine uW k56 (sK fun _ k58 => ?_)
      refine rL (uF (.pointer (some ⟨b43, 1, none⟩)) rfl (rlfa180_1 _ _ _) ?_)
      refine uL (.agg #[vI 0, vI 0, vN, vN]) rfl (lM 3 rlwd178 hv rfl rfl rfl rfl) ?_
      refine uF (.pointer (some ⟨b53, 3, none⟩)) rfl (rtfa28_3 _ _ _) ?_
      refine uL _ rfl (run_load1 rtna26 (hv.load 1 3 rfl rfl)) ?_
      refine uF (.pointer (some ⟨b53, 3, none⟩)) rfl (rtfa28_3 _ _ _) ?_
      refine uL _ rfl (run_load1 rtna26 (hv.load 1 3 rfl rfl)) ?_
      refine xC rlcallable99 rfl ((trailLeaf C _ _ 0 0 (vN) (vN) rfl rfl rfl rfl none 0 hv).mono ?_) rfl
      rintro e w59 ⟨rfl, hv⟩
      refine ⟨_, rfl, uM rfl ?_⟩
      refine uE rfl (uE rfl ?_)
      refine sl_alloc tV (wn rfl) rfl hv rlal178 (fun b60 w61 hv => ?_)
      simp only [zP, po]
      refine xS 0 rfl hv rlsz178 rfl (by exact ⟨rfl, rfl, rfl, rfl, trivial⟩) (fun w62 hv => ?_)
      simp only [zO, sp] at hv
      refine uA rfl (uW k58 ?_)
      refine sK fun _ k63 => rL (uM rfl ?_)
      refine uW k63 (cF rfl ?_)
      refine kS (bN ?_)
      refine tK k51 (rL ?_)
      refine uG (vI ((i + 1 : Nat) : Int)) rfl (ex_add rfl rfl rfl (by rw [i64_in (by omega)]; omega)) (uM rfl ?_)
      refine uZ (then_normal ?_)
      go_roundw
      case rel => exact .inl ⟨i + 1, rfl, rfl, by omega, (hv.kp [6, 6, 6, 4, 6] 5 2)⟩
      case measure => show (pre.length + 1) - (((i + 1 : Nat) : Int)).toNat < (pre.length + 1) - ((i : Int)).toNat; omega
     rcases Nat.eq_zero_or_pos l.length with h0 | h0
     ·obtain rfl : l = [] := List.eq_nil_of_length_eq_zero h0
      have hv8 := hv
      clear hv
      obtain ⟨ob, h9⟩ := row_some (hv8.get 1 rfl) (by omega)
      subst h9
      have hv := hv8
      clear hv8
      refine rL (uM rfl ?_)
      refine uG (.pointer (some ⟨ob, 0 + pre.length * 4, none⟩)) rfl (ex_index rfl rfl rfl (run_idx (k := pre.length) Tryz.underlying26 rles26 (by omega))) ?_
      refine uL (.agg #[vI x.k, vS x.s, vI x.n, .slice la 0 lc]) rfl (run_loadR (cs := [vI x.k, vS x.s, vI x.n, .slice la 0 lc]) rswd28 (row_loads (hv.get 1 rfl) (k := pre.length * 4) (Nat.zero_add _) (fun j hj => lvC_last.symm))) ?_
      refine sl_alloc tV (wn rfl) rfl hv rlal28 (fun b64 w65 hv => ?_)
      refine uA rfl ?_
      refine xS 0 rfl hv rssz28 rfl (by exact ⟨rfl, rfl, rfl, rfl, trivial⟩) (fun w66 hv => ?_)
      simp only [zO, sp] at hv
      refine uW k52 (sK fun _ k67 => ?_)
      refine rL (uF (vP b43) rfl (rlfa180_0 _ _ _) ?_)
      refine uL _ rfl (run_load1 rtna26 (hv.load 3 0 rfl rfl)) (uM rfl ?_)
      refine uG (.pointer (some ⟨ob, 0 + pre.length * 4, none⟩)) rfl (ex_index rfl rfl rfl (run_idx (k := pre.length) Tryz.underlying26 rles26 (by omega))) ?_
      refine uF (.pointer (some ⟨ob, 0 + pre.length * 4 + 3, none⟩)) rfl (rtfa28_3 _ _ _) ?_
      replace hv := hv.front 2 rfl
      simp only [eS, eZ] at hv
      refine sl_storeRow (v := vN) tV (wn rfl) rfl rfl rfl hv rtsz26 (by rw [lvC_len1]; omega) rfl rfl (fun w68 hv => ?_)
      rw [show 0 + pre.length * 4 + 3 = pre.length * 4 + 3 by omega, lvC_setl] at hv
      refine uW k67 (sK fun _ k69 => ?_)
      refine rL (uF (.pointer (some ⟨b43, 1, none⟩)) rfl (rlfa180_1 _ _ _) ?_)
      refine uL (.agg #[vI 0, vI 0, vN, vN]) rfl (lM 3 rlwd178 hv rfl rfl rfl rfl) ?_
      refine uF (.pointer (some ⟨b64, 3, none⟩)) rfl (rtfa28_3 _ _ _) ?_
      refine uL _ rfl (run_load1 rtna26 (hv.load 1 3 rfl rfl)) ?_
      refine uF (.pointer (some ⟨b64, 3, none⟩)) rfl (rtfa28_3 _ _ _) ?_
      refine uL _ rfl (run_load1 rtna26 (hv.load 1 3 rfl rfl)) ?_
      refine xC rlcallable99 rfl ((trailLeaf C _ _ 0 0 (vN) (vN) rfl rfl rfl rfl la lc hv).mono ?_) rfl
      rintro e w70 ⟨rfl, hv⟩
      refine ⟨_, rfl, uM rfl ?_⟩
      refine uE rfl (uE rfl ?_)
      refine sl_alloc tV (wn rfl) rfl hv rlal178 (fun b71 w72 hv => ?_)
      simp only [zP, po]
      refine xS 0 rfl hv rlsz178 rfl (by exact ⟨rfl, rfl, rfl, rfl, trivial⟩) (fun w73 hv => ?_)
      simp only [zO, sp] at hv
      refine uA rfl (uW k69 ?_)
      refine sK fun _ k74 => rL (uM rfl ?_)
      refine uW k74 (cF rfl ?_)
      refine kS (bN ?_)
      refine tK k51 (rL ?_)
      refine uG (vI ((pre.length + 1 : Nat) : Int)) rfl (ex_add rfl rfl rfl (by rw [i64_in (by omega)]; omega)) (uM rfl ?_)
      refine uZ (then_normal ?_)
      go_roundw
      case rel => exact .inr (.inl ⟨rfl, rfl, (by first | rfl | trivial), (hv.kp [6, 6, 6, 4, 6] 5 2)⟩)
      case measure => show (pre.length + 1) - (((pre.length + 1 : Nat) : Int)).toNat < (pre.length + 1) - ((pre.length : Int)).toNat; omega
     have hv8 := hv
     clear hv
     obtain ⟨ob, h9⟩ := row_some (hv8.get 1 rfl) (by omega)
     subst h9
     have hv := hv8
     clear hv8
     refine rL (uM rfl ?_)
     refine uG (.pointer (some ⟨ob, 0 + pre.length * 4, none⟩)) rfl (ex_index rfl rfl rfl (run_idx (k := pre.length) Tryz.underlying26 rles26 (by omega))) ?_
     refine uL (.agg #[vI x.k, vS x.s, vI x.n, .slice la l.length lc]) rfl (run_loadR (cs := [vI x.k, vS x.s, vI x.n, .slice la l.length lc]) rswd28 (row_loads (hv.get 1 rfl) (k := pre.length * 4) (Nat.zero_add _) (fun j hj => lvC_last.symm))) ?_
     refine sl_alloc tV (wn rfl) rfl hv rlal28 (fun b75 w76 hv => ?_)
     refine uA rfl ?_
     refine xS 0 rfl hv rssz28 rfl (by exact ⟨rfl, rfl, rfl, rfl, trivial⟩) (fun w77 hv => ?_)
     simp only [zO, sp] at hv
     refine uW k52 (sK fun _ k78 => ?_)
     refine rL (uF (vP b43) rfl (rlfa180_0 _ _ _) ?_)
     refine uL _ rfl (run_load1 rtna26 (hv.load 3 0 rfl rfl)) (uM rfl ?_)
     refine uG (.pointer (some ⟨ob, 0 + pre.length * 4, none⟩)) rfl (ex_index rfl rfl rfl (run_idx (k := pre.length) Tryz.underlying26 rles26 (by omega))) ?_
     refine uF (.pointer (some ⟨ob, 0 + pre.length * 4 + 3, none⟩)) rfl (rtfa28_3 _ _ _) ?_
     replace hv := hv.front 2 rfl
     simp only [eS, eZ] at hv
     refine sl_storeRow (v := vN) tV (wn rfl) rfl rfl rfl hv rtsz26 (by rw [lvC_len1]; omega) rfl rfl (fun w79 hv => ?_)
     rw [show 0 + pre.length * 4 + 3 = pre.length * 4 + 3 by omega, lvC_setl] at hv
     refine uW k78 (sK fun _ k80 => ?_)
     refine rL (uF (.pointer (some ⟨b43, 1, none⟩)) rfl (rlfa180_1 _ _ _) ?_)
     refine uL (.agg #[vI 0, vI 0, vN, vN]) rfl (lM 3 rlwd178 hv rfl rfl rfl rfl) ?_
     refine uF (.pointer (some ⟨b75, 3, none⟩)) rfl (rtfa28_3 _ _ _) ?_
     refine uL _ rfl (run_load1 rtna26 (hv.load 1 3 rfl rfl)) ?_
     refine uF (.pointer (some ⟨b75, 3, none⟩)) rfl (rtfa28_3 _ _ _) ?_
     refine uL _ rfl (run_load1 rtna26 (hv.load 1 3 rfl rfl)) ?_
     refine xC rlcallable99 rfl ((trailNew C _ _ la l.length lc h0 hv).mono ?_) rfl
     rintro e w81 ⟨rfl, hv⟩
     refine ⟨_, rfl, uM rfl ?_⟩
     refine uE rfl (uE rfl ?_)
     refine sl_alloc tV (wn rfl) rfl hv rlal178 (fun b82 w83 hv => ?_)
     simp only [zP, po]
     refine xS 0 rfl hv rlsz178 rfl (by exact ⟨rfl, rfl, rfl, rfl, trivial⟩) (fun w84 hv => ?_)
     simp only [zO, sp] at hv
     refine uA rfl (uW k80 ?_)
     refine sK fun _ k85 => rL (uM rfl ?_)
     refine uW k85 (cT rfl ?_)
     refine sK fun _ k86 => rW mixed [5, 8] [0,1,2,3,4,5,6,7,8] 76 rfl (by kernel_rfl) hv ?_
     simp only [qm, opAt]
     refine dG (vP b43) rfl (ex_field rfl rfl (rlfa180_0 _ _ _)) (dF _ rfl (fun hv => ex_load rfl rfl (run_load1 rtna26 (hv.load 4 0 rfl rfl))) fun f87 hf87 => ?_)
     refine dM (vI (pre.length : Int)) rfl ?_
     simp only [zP, po]
     refine dG (.pointer (some ⟨b75, 3, none⟩)) rfl (ex_field rfl rfl (rtfa28_3 _ _ _)) (dL _ rfl (fun hv => ex_load rfl rfl (run_load1 rtna26 (hv.load 2 3 rfl rfl))) ?_)
     refine dS rfl fun w88 hv => mC rlcallable98 rfl ((cloneRps C _ _ la l.length lc (lvC l none) hla (lvC_len0 l) (lvC_one fun p h => by cases h) hlm hrl hv).mono ?_) rfl
     rintro e w89 ⟨ca, cc, rfl, hv⟩
     refine ⟨_, rfl, dV hv (fC (fun ww hv => hf87 ww (ex_load rfl rfl (run_load1 rtna26 (hv.load 5 0 rfl rfl)))) fN) ?_⟩
     simp only [zP, po]
     refine dG (.pointer (some ⟨ob, 0 + pre.length * 4, none⟩)) rfl (ex_index rfl rfl rfl (run_idx (k := pre.length) Tryz.underlying26 rles26 (by omega))) (dG (.pointer (some ⟨ob, 0 + pre.length * 4 + 3, none⟩)) rfl (ex_field rfl rfl (rtfa28_3 _ _ _)) ?_)
     refine dS rfl fun w90 hv => ?_
     replace hv := hv.front 2 rfl
     simp only [eS, eZ] at hv
     refine mem_storeRow (v := .slice ca l.length cc) rfl rfl rfl rfl hv rtsz26 (by rw [lvC_len1]; omega) rfl rfl (fun w91 hv => ?_)
     rw [show 0 + pre.length * 4 + 3 = pre.length * 4 + 3 by omega, lvC_setl] at hv
     refine dV hv (fK rfl fN) (dE fun w92 hv => ?_)
     simp only [zP, po]
     refine tK k86 (rW mixed [9, 10] [0,1,2,3,4,5,6,7,8,9,10,11] 76 rfl (by kernel_rfl) hv ?_)
     simp only [qm, opAt]
     refine dM (.slice (some ⟨tb, 0, none⟩) 0 tc) rfl (dG (vP b43) rfl (ex_field rfl rfl (rlfa180_0 _ _ _)) ?_)
     refine dL _ rfl (fun hv => ex_load rfl rfl (run_load1 rtna26 (hv.load 5 0 rfl rfl))) ?_
     simp only [zP, po]
     refine dM (vI (pre.length : Int)) rfl (dG (.pointer (some ⟨ob, 0 + pre.length * 4, none⟩)) rfl (ex_index rfl rfl rfl (run_idx (k := pre.length) Tryz.underlying26 rles26 (by omega))) ?_)
     refine dG (.pointer (some ⟨ob, 0 + pre.length * 4 + 3, none⟩)) rfl (ex_field rfl rfl (rtfa28_3 _ _ _)) ?_
     simp only [zP, po]
     refine dL (.slice ca l.length cc) rfl (fun hv => ex_load rfl rfl (run_load1 rtna26 (by rw [Nat.add_assoc]; exact row_load (hv.get 0 rfl) lvC_last))) (dL (.agg #[vI 1, vI 2, .slice la l.length lc, .slice la l.length lc]) rfl (fun hv => ex_load rfl rfl (lM 2 rlwd178 hv rfl rfl rfl rfl)) ?_)
     refine dG (.agg #[.slice ca l.length cc, vI 1, vI 2, .slice la l.length lc, .slice la l.length lc]) rfl (ex_buildN (vs := #[(0, .slice ca l.length cc), (1, .agg #[vI 1, vI 2, .slice la l.length lc, .slice la l.length lc])]) rfl (by simp only [List.map_toArray, List.map_cons, List.map_nil]; rfl) (by kernel_rfl)) ?_
     simp only [zP, po]
     refine dS rfl fun w93 hv => mem_rowAgg (L := [.slice ca l.length cc, vI 1, vI 2, .slice la l.length lc, .slice la l.length lc]) rfl rfl rfl hv rlel181 rfl (by decide) (fun b94 w95 hv => ?_)
     refine dW hv (dS rfl fun w96 hv => ?_)
     replace hv := hv.front 5 rfl
     simp only [eS, eZ] at hv
     refine mem_append (news := [.slice ca l.length cc, vI 1, vI 2, .slice la l.length lc, .slice la l.length lc]) rfl rfl rfl rfl rlel181 hv (ok_full (by omega)) rfl (rd_all (hv.get 1 rfl)) (by intro u hu; simp only [List.mem_cons, List.not_mem_nil, or_false] at hu; rcases hu with rfl | rfl | rfl | rfl | rfl <;> rfl) (by unfold maxLen; omega) (by omega) (fun rv97 w100 hv => ?_)
     obtain ⟨ra98, rc99, rfl⟩ := row_slice hv.head
     refine dW hv (dA (.slice ra98 (0 + 1) rc99) rfl ?_)
     refine dE fun w101 hv => ?_
     simp only [zP, po]
     refine bN (tK k51 ?_)
     refine rL (uG (vI ((pre.length + 1 : Nat) : Int)) rfl (ex_add rfl rfl rfl (by rw [i64_in (by omega)]; omega)) ?_)
     refine uM rfl (uZ ?_)
     refine then_normal ?_
     go_roundw
     case rel => (obtain ⟨tb9, h9⟩ := row_some (hv.get 0 rfl) (by omega); subst h9; exact .inr (.inr ⟨ca, cc, tb9, _, rfl, rfl, h0, (hv.kp [8, 8, 8, 5, 6, 5] 6 3)⟩))
     case measure => show (pre.length + 1) - (((pre.length + 1 : Nat) : Int)).toNat < (pre.length + 1) - ((pre.length : Int)).toNat; omega
    ·refine sK fun _ k102 => rL (uG (.bool false) rfl (ex_lss rfl rfl rfl (qF (by omega))) ?_)
     refine uW k102 (sK fun _ k103 => ?_)
     refine cF rfl (xE ?_)
     refine tX (tX ?_)
     refine bH (bN ?_)
     refine then_normal ?_
     go_roundw
     case rel => (obtain ⟨D, hD, hv, hro, hoko, -⟩ := ((hv.kp [4, 4, 3] 3 2)).rowBy; exact ⟨v0, vc, .inr (.inr ⟨D, _, _, rfl, hC.trans hD, hfin D hD nilS (by rw [hl0]; exact ⟨none, 0, rfl, ⟨Nat.le_refl _, Nat.zero_le _, fun _ => rfl⟩, rdV_nil⟩) ⟨oa, oc, rfl, hoko, hro⟩, hv⟩)⟩)
     case measure => (rw [lvMu0]; omega)
    refine sK fun _ k104 => rL (uG (.bool false) rfl (ex_lss rfl rfl rfl (qF (by omega))) ?_)
    refine uW k104 (sK fun _ k105 => ?_)
    refine cF rfl (xE ?_)
    refine tX (tX ?_)
    refine bH (bN ?_)
    refine then_normal ?_
    go_roundw
    case rel => (obtain ⟨D, hD, hv, hro, hoko, -⟩ := ((hv.kp [5, 5, 3, 3, 4] 5 1)).rowBy; exact ⟨v0, vc, .inl ⟨D, l, ca, cc, tb2, tc2, 1, 2, _, _, rfl, hC.trans hD, ⟨hlm, rfl, rfl, rfl, rfl⟩, fun E hE h9 => hfin E (hD.trans hE) (.slice ca l.length cc) h9 ⟨oa, oc, rfl, hoko, hro.more hE (fun _ h => h)⟩, hv⟩⟩)
    case measure => (rw [hmu]; exact lvMu3 (row_load (hv.get 0 rfl) rfl))
  refine sK fun _ k106 => sK fun _ k107 => rL (uM rfl ?_)
  refine uG (vI 0) rfl (ex_len0 Tryz.underlying181 rfl rfl) ?_
  refine uG (.bool false) rfl (ex_gtr rfl rfl rfl (by decide)) (uW k107 ?_)
  refine cF rfl (xE ?_)
  refine tX (tX ?_)
  refine bH (tK k12 ?_)
  refine sK fun _ k108 => rL (uL (.agg #[vI 5, vS [], vI 0, .slice v0 m vc]) rfl (lM 0 rswd28 hv rfl rfl rfl rfl) ?_)
  refine xS 1 rfl hv rssz28 rfl (by exact ⟨rfl, rfl, rfl, rfl, trivial⟩) (fun w109 hv => ?_)
  simp only [zS, zO, sp] at hv
  refine uW k108 (rR ?_)
  refine bC 1 rswd28 hv rfl rfl rfl rfl (⟨C, _, hC, rfl, hat, (hv.kp [] 0 2)⟩)
end Go.Proofs.YtmhdpjifhfoabaaGreatDoor
namespace Go.Pm
open Go.RowKit
section
variable {B : Base} {X X' : List (List Ent)} {M : Model} {key : List UInt8} {i j : Nat}
end
section
variable {ti tb te : TypeId} {p : Nat} {n : Int} {X : List (List Ent)} {bvs : List Value} {B : Base} {H : List Res} {w : World}
end
theorem RdV.shift {B : Base} {H : List Res} {b off : Nat} {xs : List Value} (h : RdV B H (some ⟨b, off, none⟩) xs) (k : Nat) : RdV B H (some ⟨b, off + k, none⟩) (xs.drop k) := fun i hi => by
 rw [List.length_drop] at hi
 obtain ⟨b', off', h1, h2⟩ := h (k + i) (by omega)
 cases h1
 refine ⟨b, off + k, rfl, ?_⟩
 rw [List.getElem_drop, Nat.add_assoc]
 exact h2
theorem rdV_nil_any (B : Base) (ad : Option Addr) : RdV B [] ad [] := fun i hi => by simp at hi
theorem sliced_rdV {B : Base} {ad : Option Addr} {n c k : Nat} {xs : List Value} (size : Nat) (hr : RdV B [] ad xs) (hl : xs.length = n * size) (hn : n ≤ c) (hk : k ≤ n) (hz : 0 < size) : ∃ a2, sliced ad k n c size = .slice a2 (n - k) (c - k) ∧ RdV B [] a2 (xs.drop (k * size)) := by
 rcases Nat.lt_or_ge k n with h | h
 ·have h1 : 0 < xs.length := by rw [hl]; exact Nat.mul_pos (by omega) hz
  obtain ⟨b, off, rfl, -⟩ := hr 0 h1
  refine ⟨some ⟨b, off + k * size, none⟩, ?_, hr.shift _⟩
  unfold sliced
  rw [if_neg (by omega), Option.map_some, addr_add]
 obtain rfl : k = n := by omega
 have hd : xs.drop (k * size) = [] := List.drop_of_length_le (by omega)
 refine ⟨_, rfl, ?_⟩
 rw [hd]
 exact rdV_nil_any _ _
end Go.Pm
