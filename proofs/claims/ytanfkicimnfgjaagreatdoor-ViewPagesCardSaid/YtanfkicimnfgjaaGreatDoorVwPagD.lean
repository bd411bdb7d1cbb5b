/- Scopes out of which no jump goes. -/
import Derived.Test.YtanfkicimnfgjaaGreatDoorVwPagB
import Derived.Scope
import Derived.Test.YtanfkicimnfgjaaGreatDoorRows
import Derived.Test.YtanfkicimnfgjaaGreatDoorVwPagC
import Derived.RecoverIn
import Derived.RegionIn
import Derived.Laws.Pointers
import Derived.TacticsInMore
import Derived.Test.YtanfkicimnfgjaaGreatDoorVwPagA
import Derived.Laws.Strings2
import Derived.Laws.IdiomStrings
import Derived.Lib.ItoaNum
import Derived.Lib.AtoiAll
import Derived.Lib.ParseIntBTie
import Derived.Shelf.Strconv.ParseIntPublic10
import Derived.Shelf.Strconv.Itoa4
import Derived.Ground.NamesProg
set_option maxRecDepth 100000
set_option maxHeartbeats 16000000
set_option synthInstance.maxSize 4096
set_option synthInstance.maxHeartbeats 400000
namespace Go.Pm
section
variable {P : Program} {Q : Exit → Act → World → Prop} {a : Act} {w : World} {n : Nat} {c : Code}
theorem wpIn_scopeW (h : c.wpIn Fence.wide n P (Exit.noGoto Q) a w) : (Code.scope c).wpIn Fence.wide n P Q a w := wpIn_wide.2 (wp_scope_straight (wpIn_wide.1 h))
theorem scope_ret (h : Q .ret a w) : Exit.noGoto Q .ret a w := h
end
section
variable {P : Program} {a : Act} {w : World} {o : Oper} {t u : TypeId} {x y : Operand}
theorem ex_beqS {p q b : Bool} (ht : P.underlying t = some .bool) (ho : o.op = .binOp .eql t x y u) (hx : a.eval x = .bool p) (hy : a.eval y = .bool q) (hb : (p == q) = b) : Ex P a o w (.bool b) w := by
 subst hb
 have he : (Op.equal t (.bool p) (.bool q)).run P w = .ok (p == q) w := run_equal_bool w t p q ht
 unfold Ex; simp [execOp, ho, hx, hy, eqGuard, binOp, he]
end
end Go.Pm
namespace Go.Proofs.YtanfkicimnfgjaaGreatDoor
open Go.RowKit Go.Pm
theorem row_nil0 (B : Base) : RowB B (vN) 0 [] := ⟨none, 0, rfl, ⟨Nat.le_refl _, Nat.zero_le _, fun _ => rfl⟩, rdV_nil⟩
def zver0 : Ver := ⟨0, false, 0, ⟨0, [], [], [], []⟩⟩
theorem zver0_at (B : Base) : ValAt B zver0.val (vN) (vN) (vN) := ⟨row_nil0 B, row_nil0 B, row_nil0 B, by decide, by decide, by decide⟩
theorem search0 (B : Base) (H : List Res) (w : World) (fv : Value) (hv : Inv B H w) :
  Calls Tryz.prog 125 #[vI 0, fv] w fun e w' => e = .returned (vI 0) ∧ Inv B H w' := by
 refine cW Tryz.func125 rfl Tryz.ntmps125 ?_
 simp only [al]
 refine sK fun _ k1 => rL (uA rfl ?_)
 refine uW k1 (sK fun _ k2 => ?_)
 refine rL (uM rfl ?_)
 refine uA rfl (uA rfl ?_)
 refine uW k2 (sK fun _ k3 => ?_)
 refine bB ?_
 gi_loopw [5, 6] (fun x5 x6 wr => x5 = vI 0 ∧ x6 = vI 0 ∧ Inv B H wr) (fun x5 x6 _ => 0)
 case atStart => exact ⟨rfl, rfl, hv⟩
 case round =>
  obtain ⟨rfl, rfl, hv⟩ := hrel
  refine sK fun _ k5 => sK fun _ k6 => rL (uM rfl ?_)
  refine uM rfl ?_
  refine uG (.bool false) rfl (ex_lss rfl rfl rfl (by decide)) (uW k6 ?_)
  refine cF rfl (xE ?_)
  refine tX (tX ?_)
  refine bH (tK k3 ?_)
  refine sK fun _ k7 => rL (uM rfl ?_)
  refine uA rfl (uW k7 ?_)
  refine rR (bR rfl rfl ?_)
  exact ⟨rfl, hv⟩
theorem x0na98 (w : World) : (isAgg 98).run Tryz.prog w = .ok false w := by kernel_rfl
theorem x0fa134_0 : FA Tryz.prog 134 0 0 := fun w b o => by kernel_rfl
theorem x0na132 (w : World) : (isAgg 132).run Tryz.prog w = .ok false w := by kernel_rfl
theorem x0callable125 : Callable Tryz.prog 125 := cb Tryz.func125 (by kernel_rfl)
theorem ixFind0 (B : Base) (H : List Res) (w : World) (p : Nat) (key : List UInt8) (hv : Inv B (Res.cell p [vN, vI 0] 134 :: H) w) :
  Calls Tryz.prog 123 #[vP p, vS key] w fun e w' => e = .returned (.tuple #[vI 0, vI 0, .bool false]) ∧ Inv B (Res.cell p [vN, vI 0] 134 :: H) w' := by
 refine cW Tryz.func123 rfl Tryz.ntmps123 ?_
 simp only [al]
 refine sK fun _ k1 => rL (sl_box (L := [vP p]) tV (wn rfl) rfl rfl hv (fun w => by kernel_rfl) (fun b2 w3 hv => ?_))
 refine sl_box (L := [vS key]) tV (wn rfl) rfl rfl hv (fun w => by kernel_rfl) (fun b4 w5 hv => ?_)
 refine uA rfl (uA rfl ?_)
 refine uA rfl (uW k1 ?_)
 refine sK fun _ k6 => rL (uL _ rfl (run_load1 x0na98 (hv.load 1 0 rfl rfl)) ?_)
 refine uG (vP p) rfl (ex_nil rfl rfl) ?_
 refine uF (vP p) rfl (x0fa134_0 _ _ _) ?_
 refine uL _ rfl (run_load1 x0na132 (hv.load 2 0 rfl rfl)) ?_
 refine uG (vI 0) rfl (ex_len0 Tryz.underlying132 rfl rfl) ?_
 refine uG (.func (.func 127) #[] #[vP b2, vP b4]) rfl (ex_makeFunc (c' := #[vP b2, vP b4]) rfl (by simp only [List.map_toArray, List.map_nil]) (by simp only [List.map_toArray, List.map_cons, List.map_nil]; rfl)) ?_
 refine xC x0callable125 rfl ((search0 B _ _ _ hv).mono ?_) rfl
 rintro e w7 ⟨rfl, hv⟩
 refine ⟨_, rfl, uA rfl ?_⟩
 refine uW k6 (sK fun _ k8 => ?_)
 refine sK fun _ k9 => rL (uM rfl ?_)
 refine uL _ rfl (run_load1 x0na98 (hv.load 1 0 rfl rfl)) ?_
 refine uG (vP p) rfl (ex_nil rfl rfl) ?_
 refine uF (vP p) rfl (x0fa134_0 _ _ _) ?_
 refine uL _ rfl (run_load1 x0na132 (hv.load 2 0 rfl rfl)) ?_
 refine uG (vI 0) rfl (ex_len0 Tryz.underlying132 rfl rfl) ?_
 refine uG (.bool true) rfl (ex_eql rfl rfl rfl (by decide)) (uW k9 ?_)
 refine cT rfl (sK fun _ k10 => ?_)
 refine rL (uM rfl ?_)
 refine uA rfl (uA rfl ?_)
 refine uA rfl (uW k10 ?_)
 refine rR (tR ?_)
 refine bodyPost_ret (results_tmp3 rfl _ _ _) rfl (⟨rfl, (hv.kp [2] 1 2)⟩)
theorem x0callable123 : Callable Tryz.prog 123 := cb Tryz.func123 (by kernel_rfl)
theorem ixGet0 (B : Base) (H : List Res) (w : World) (p : Nat) (key : List UInt8) (hv : Inv B (Res.cell p [vN, vI 0] 134 :: H) w) :
  Calls Tryz.prog 120 #[vP p, vS key] w fun e w' => e = .returned (vN) ∧ Inv B (Res.cell p [vN, vI 0] 134 :: H) w' := by
 refine cW Tryz.func120 rfl Tryz.ntmps120 ?_
 simp only [al]
 refine sK fun _ k1 => rL (uA rfl ?_)
 refine uW k1 (sK fun _ k2 => ?_)
 refine rL (uM rfl ?_)
 refine uM rfl ?_
 refine xC x0callable123 rfl ((ixFind0 B _ _ p key hv).mono ?_) rfl
 rintro e w3 ⟨rfl, hv⟩
 refine ⟨_, rfl, uM rfl ?_⟩
 refine uE rfl (uE rfl ?_)
 refine uE rfl (uA rfl ?_)
 refine uA rfl (uA rfl ?_)
 refine uW k2 (sK fun _ k4 => ?_)
 refine sK fun _ k5 => rL (uM rfl ?_)
 refine uG (.bool true) rfl (ex_not rfl rfl rfl) (uW k5 ?_)
 refine cT rfl (sK fun _ k6 => ?_)
 refine rL (uA rfl ?_)
 refine uW k6 (rR ?_)
 refine tR (bR rfl rfl ?_)
 exact ⟨rfl, hv⟩
theorem x0na196 (w : World) : (isAgg 196).run Tryz.prog w = .ok false w := by kernel_rfl
theorem chainUpto0 (B : Base) (H : List Res) (w : World) (s : Int) (hv : Inv B H w) :
  Calls Tryz.prog 121 #[vN, vI s] w fun e w' => e = .returned (vI 0) ∧ Inv B H w' := by
 refine cW Tryz.func121 rfl Tryz.ntmps121 ?_
 simp only [al]
 refine sK fun _ k1 => rL (sl_box (L := [vN]) tV (wn rfl) rfl rfl hv (fun w => by kernel_rfl) (fun b2 w3 hv => ?_))
 refine sl_box (L := [vI s]) tV (wn rfl) rfl rfl hv (fun w => by kernel_rfl) (fun b4 w5 hv => ?_)
 refine uA rfl (uW k1 ?_)
 refine sK fun _ k6 => rL (uL _ rfl (run_load1 x0na196 (hv.load 1 0 rfl rfl)) ?_)
 refine uG (vI 0) rfl (ex_len0 Tryz.underlying196 rfl rfl) ?_
 refine uG (.func (.func 126) #[] #[vP b2, vP b4]) rfl (ex_makeFunc (c' := #[vP b2, vP b4]) rfl (by simp only [List.map_toArray, List.map_nil]) (by simp only [List.map_toArray, List.map_cons, List.map_nil]; rfl)) ?_
 refine xC x0callable125 rfl ((search0 B _ _ _ hv).mono ?_) rfl
 rintro e w7 ⟨rfl, hv⟩
 refine ⟨_, rfl, uA rfl ?_⟩
 refine uW k6 (rR ?_)
 refine bR rfl rfl (⟨rfl, (hv.kp [] 0 2)⟩)
theorem x0al45 : AL Tryz.prog 45 [vI 0, .bool false, vI 0, vI 0, vS [], vN, vN, vN] := fun w => by kernel_rfl
theorem x0callable121 : Callable Tryz.prog 121 := cb Tryz.func121 (by kernel_rfl)
theorem x0sz45 : (Tryz.prog.info? 45).map (·.size) = some 8 := by kernel_rfl
theorem x0wd45 : Wide Tryz.prog 45 8 := wide_of (fun w => by kernel_rfl) (by kernel_rfl)
theorem chainAt0 (B : Base) (H : List Res) (w : World) (s : Int) (hv : Inv B H w) :
  Calls Tryz.prog 119 #[vN, vI s] w fun e w' => e = .returned (.tuple #[.agg #[vI 0, .bool false, vI 0, vI 0, vS [], vN, vN, vN], .bool false]) ∧ Inv B H w' := by
 refine cW Tryz.func119 rfl Tryz.ntmps119 ?_
 simp only [al]
 refine sK fun _ k1 => rL (sl_alloc tV (wn rfl) rfl hv x0al45 (fun b2 w3 hv => ?_))
 refine uA rfl (uW k1 ?_)
 refine sK fun _ k4 => rL (uM rfl ?_)
 refine uM rfl ?_
 refine xC x0callable121 rfl ((chainUpto0 B _ _ s hv).mono ?_) rfl
 rintro e w5 ⟨rfl, hv⟩
 refine ⟨_, rfl, uA rfl ?_⟩
 refine uW k4 (sK fun _ k6 => ?_)
 refine sK fun _ k7 => rL (uM rfl ?_)
 refine uG (.bool true) rfl (ex_eql rfl rfl rfl (by decide)) (uW k7 ?_)
 refine cT rfl (sK fun _ k8 => ?_)
 refine rL (uG (.agg #[vI 0, .bool false, vI 0, vI 0, vS [], vN, vN, vN]) rfl (ex_buildN (vs := #[]) rfl (by simp only [List.map_toArray, List.map_nil]) (by kernel_rfl)) ?_)
 refine xS 0 rfl hv x0sz45 rfl (by exact ⟨rfl, rfl, rfl, rfl, rfl, rfl, rfl, rfl, trivial⟩) (fun w9 hv => ?_)
 simp only [zO, sp] at hv
 refine uA rfl (uW k8 ?_)
 refine rR (tR ?_)
 refine bodyPost_ret (res_cell2 rfl rfl (lM 0 x0wd45 hv rfl rfl rfl rfl)) rfl (⟨rfl, (hv.kp [] 0 1)⟩)
theorem x0fa101_0 : FA Tryz.prog 101 0 0 := fun w b o => by kernel_rfl
theorem x0callable120 : Callable Tryz.prog 120 := cb Tryz.func120 (by kernel_rfl)
theorem x0callable119 : Callable Tryz.prog 119 := cb Tryz.func119 (by kernel_rfl)
theorem storeRead0 (B : Base) (H : List Res) (w : World) (s p : Nat) (stamp clock : Int) (key : List UInt8) (hv : Inv B (Res.cell s [vP p, vI 0, vI 0] 101 :: Res.cell p [vN, vI 0] 134 :: H) w) :
  Calls Tryz.prog 117 #[vP s, vS key, vI stamp, vI clock] w fun e w' => e = .returned (.tuple #[.agg #[vI 0, .bool false, vI 0, vI 0, vS [], vN, vN, vN], .bool false]) ∧ Inv B (Res.cell s [vP p, vI 0, vI 0] 101 :: Res.cell p [vN, vI 0] 134 :: H) w' := by
 refine cW Tryz.func117 rfl Tryz.ntmps117 ?_
 simp only [al]
 refine sK fun _ k1 => rL (sl_alloc tV (wn rfl) rfl hv x0al45 (fun b2 w3 hv => ?_))
 refine uA rfl (uW k1 ?_)
 refine sK fun _ k4 => rL (uM rfl ?_)
 refine uG (vP s) rfl (ex_nil rfl rfl) ?_
 refine uF (vP s) rfl (x0fa101_0 _ _ _) ?_
 refine uL _ rfl (run_load1 x0na98 (hv.load 1 0 rfl rfl)) (uM rfl ?_)
 replace hv := hv.front 2 rfl
 simp only [eS, eZ] at hv
 refine xC x0callable120 rfl ((ixGet0 B _ _ p key hv).mono ?_) rfl
 rintro e w5 ⟨rfl, hv⟩
 refine ⟨_, rfl, uM rfl ?_⟩
 refine xC x0callable119 rfl ((chainAt0 B _ _ stamp hv).mono ?_) rfl
 rintro e w6 ⟨rfl, hv⟩
 refine ⟨_, rfl, uM rfl ?_⟩
 refine uE rfl (uE rfl ?_)
 refine sl_alloc tV (wn rfl) rfl hv x0al45 (fun b7 w8 hv => ?_)
 simp only [zP, po]
 refine xS 0 rfl hv x0sz45 rfl (by exact ⟨rfl, rfl, rfl, rfl, rfl, rfl, rfl, rfl, trivial⟩) (fun w9 hv => ?_)
 simp only [zO, sp] at hv
 refine uA rfl (uW k4 ?_)
 refine sK fun _ k10 => sK fun _ k11 => rL (uM rfl ?_)
 refine uG (.bool true) rfl (ex_not rfl rfl rfl) (uM rfl ?_)
 iterate 4 refine uP rfl ?_
 refine uK rfl (uW k11 ?_)
 refine cT rfl (sK fun _ k12 => ?_)
 refine rL (uG (.agg #[vI 0, .bool false, vI 0, vI 0, vS [], vN, vN, vN]) rfl (ex_buildN (vs := #[]) rfl (by simp only [List.map_toArray, List.map_nil]) (by kernel_rfl)) ?_)
 refine xS 2 rfl hv x0sz45 rfl (by exact ⟨rfl, rfl, rfl, rfl, rfl, rfl, rfl, rfl, trivial⟩) (fun w13 hv => ?_)
 simp only [zS, zO, sp] at hv
 refine uA rfl (uW k12 ?_)
 refine rR (tR ?_)
 refine bodyPost_ret (res_cell2 rfl rfl (lM 2 x0wd45 hv rfl rfl rfl rfl)) rfl (⟨rfl, (hv.kp [1, 3] 2 2)⟩)
def PutOk (k : List UInt8) (v : Val) (e : Int) : Prop := k.length ≤ 256 ∧ ValOk v ∧ 0 ≤ e ∧ e ≤ 1099511627776
theorem x2mk9 : (Tryz.prog.info? 9).map (fun i => (i.zero, i.size, i.bytes)) = some (some (vS []), 1, 16) := by kernel_rfl
theorem x2el22 : Elem Tryz.prog 22 9 (vS []) 1 16 := elem_of Tryz.underlying22 x2mk9 (by rfl) (by decide)
theorem x2callable24 : Callable Tryz.prog 24 := cb Tryz.func24 (by kernel_rfl)
theorem x2callable25 : Callable Tryz.prog 25 := cb Tryz.func25 (by kernel_rfl)
theorem x2fa76_4 : FA Tryz.prog 76 4 4 := fun w b o => by kernel_rfl
theorem x2na74 (w : World) : (isAgg 74).run Tryz.prog w = .ok false w := by kernel_rfl
theorem x2callable26 : Callable Tryz.prog 26 := cb Tryz.func26 (by kernel_rfl)
theorem txnPut (B : Base) (H : List Res) (w : World) (t m s p wb : Nat) (va : Option Addr) (vc : Nat) (sv : Value) (clk : Int) (es : List (List UInt8 × Value)) (M : List (List UInt8 × Ver)) (key : List UInt8) (v : Val) (pp pt pz : Value) (exp : Int) (hM : VM B es M) (hval : ValAt B v pp pt pz) (hv : Inv B (txR t m s p wb va vc sv clk es :: H) w) :
  Calls Tryz.prog 10 #[vP t, vS key, .agg #[vI v.kind, vS v.text, pp, pt, pz], vI exp] w fun e w' => ∃ C es' ec, B.Le C ∧ e = .returned (vI ec) ∧ ((ec = 0 ∧ PutOk key v exp ∧ VM C es' (updA M key ⟨0, false, exp, v⟩)) ∨ (ec = 2 ∧ ¬ PutOk key v exp ∧ es' = es)) ∧ Inv C (txR t m s p wb va vc sv clk es' :: H) w' := by
 refine cW Tryz.func10 rfl Tryz.ntmps10 ?_
 simp only [al]
 refine sK fun _ k1 => ?_
 replace hv := Inv.unstar hv
 simp only [txL, List.cons_append, List.nil_append] at hv
 refine rL (sl_box (L := [vI v.kind, vS v.text, pp, pt, pz]) tV (wn rfl) rfl rfl hv (fun w => by kernel_rfl) (fun b2 w3 hv => ?_))
 refine uA rfl (uW k1 ?_)
 refine sK fun _ k4 => sK fun _ k5 => rL (uM rfl ?_)
 refine uM rfl ?_
 refine sl_rowOne (v := vS key) tV (wn rfl) rfl rfl hv x2el22 rfl (fun b6 w7 hv => ?_)
 simp only [zP, po]
 obtain ⟨C, hBC, hv, hrk, -, -⟩ := (hv.cellRow (n := 1) (c := 1) (size := 1) rfl (by decide) (by decide)).rowBy
 replace hv := hv.front 3 rfl
 simp only [eS, eZ] at hv
 replace hv := hv.front 3 rfl
 simp only [eS, eZ] at hv
 replace hv := hv.front 3 rfl
 simp only [eS, eZ] at hv
 refine xC x2callable24 rfl ((txnMay C _ _ t m s wb va vc sv clk _ 1 [key] hrk (by simp) hv).mono ?_) rfl
 rintro e w8 ⟨ec, rfl, hmay, hv⟩
 refine ⟨_, rfl, ?_⟩
 rcases hmay with ⟨rfl, hk⟩ | ⟨rfl, hk⟩
 ·replace hk : key.length ≤ 256 := by simpa using hk
  refine uA rfl (uW k5 ?_)
  refine sK fun _ k9 => rL (uM rfl ?_)
  refine uG (.bool false) rfl (ex_neq rfl rfl rfl (by decide)) (uW k9 ?_)
  refine cF rfl (kS ?_)
  refine tK k4 (sK fun _ k10 => ?_)
  refine sK fun _ k11 => rL (uL (.agg #[vI v.kind, vS v.text, pp, pt, pz]) rfl (lM 3 s1wd43 hv rfl rfl rfl rfl) ?_)
  refine xC x2callable25 rfl ((valueRight C _ _ v pp pt pz (hval.more hBC) hv).mono ?_) rfl
  rintro e w13 ⟨bl12, rfl, hbl12, hv⟩
  refine ⟨_, rfl, ?_⟩
  cases bl12
  ·refine uG (.bool true) rfl (ex_not rfl rfl rfl) (uM rfl ?_)
   refine uP rfl ?_
   refine uP rfl (uK rfl ?_)
   refine uM rfl ?_
   refine uP rfl ?_
   refine uP rfl (uK rfl ?_)
   refine uW k11 (cT rfl ?_)
   refine sK fun _ k14 => rL (uA rfl ?_)
   refine uW k14 (rR ?_)
   refine tR (bR rfl rfl ?_)
   exact ⟨_, _, 2, hBC, rfl, .inr ⟨rfl, fun h => (by have h9 := hbl12.2 h.2.1; cases h9), rfl⟩, Inv.star (K := txL _ _ _ _ _ _ _ _ _ _) ((hv.kp [6, 6, 6, 5, 5, 5] 6 1))⟩
  refine uG (.bool false) rfl (ex_not rfl rfl rfl) (uM rfl ?_)
  refine uM rfl ?_
  by_cases hb15 : exp < 0
  ·refine uG (.bool true) rfl (ex_lss rfl rfl rfl (qT hb15)) (uK rfl ?_)
   refine uM rfl ?_
   refine uP rfl ?_
   refine uP rfl (uK rfl ?_)
   refine uW k11 (cT rfl ?_)
   refine sK fun _ k16 => rL (uA rfl ?_)
   refine uW k16 (rR ?_)
   refine tR (bR rfl rfl ?_)
   exact ⟨_, _, 2, hBC, rfl, .inr ⟨rfl, fun h => (by have h9 := h.2.2; omega), rfl⟩, Inv.star (K := txL _ _ _ _ _ _ _ _ _ _) ((hv.kp [6, 6, 6, 5, 5, 5] 6 1))⟩
  refine uG (.bool false) rfl (ex_lss rfl rfl rfl (qF hb15)) (uK rfl ?_)
  refine uM rfl ?_
  refine uM rfl ?_
  by_cases hb17 : exp > 1099511627776
  ·refine uG (.bool true) rfl (ex_gtr rfl rfl rfl (qT hb17)) (uK rfl ?_)
   refine uW k11 (cT rfl ?_)
   refine sK fun _ k18 => rL (uA rfl ?_)
   refine uW k18 (rR ?_)
   refine tR (bR rfl rfl ?_)
   exact ⟨_, _, 2, hBC, rfl, .inr ⟨rfl, fun h => (by have h9 := h.2.2; omega), rfl⟩, Inv.star (K := txL _ _ _ _ _ _ _ _ _ _) ((hv.kp [6, 6, 6, 5, 5, 5] 6 1))⟩
  refine uG (.bool false) rfl (ex_gtr rfl rfl rfl (qF hb17)) (uK rfl ?_)
  refine uW k11 (cF rfl ?_)
  refine kS (tK k10 ?_)
  refine sK fun _ k19 => rW mixed [7, 9] [0,1,2,3,4,5,6,7,8,9] 37 rfl (by kernel_rfl) hv ?_
  simp only [qm, opAt]
  refine dM (vP t) rfl (dG (vP t) rfl (ex_nil rfl rfl) ?_)
  refine dG (.pointer (some ⟨t, 4, none⟩)) rfl (ex_field rfl rfl (x2fa76_4 _ _ _)) ?_
  simp only [zP, po]
  refine dF _ rfl (fun hv => ex_load rfl rfl (run_load1 x2na74 (hv.load 0 4 rfl rfl))) fun f20 hf20 => dM (vS key) rfl (dM (vI exp) rfl ?_)
  simp only [zP, po]
  refine dL (.agg #[vI v.kind, vS v.text, pp, pt, pz]) rfl (fun hv => ex_load rfl rfl (lM 3 s1wd43 hv rfl rfl rfl rfl)) (dS rfl fun w21 hv => ?_)
  refine mC x2callable26 rfl ((valueClone _ _ _ v pp pt pz (hval.more hBC) hv).mono ?_) rfl
  rintro e w26 ⟨C22, p23, t24, z25, hC22, rfl, hp23, hv⟩
  refine ⟨_, rfl, dV hv (fC (fun ww hv => hf20 ww (ex_load rfl rfl (run_load1 x2na74 (hv.load 0 4 rfl rfl)))) fN) ?_⟩
  refine dG (.agg #[vI 0, .bool false, vI exp, vI v.kind, vS v.text, p23, t24, z25]) rfl (ex_buildN (vs := #[(2, vI exp), (3, .agg #[vI v.kind, vS v.text, p23, t24, z25])]) rfl (by simp only [List.map_toArray, List.map_cons, List.map_nil]; rfl) (by kernel_rfl)) ?_
  simp only [zP, po]
  refine dS rfl fun w27 hv => mem_updV 4 (k := key) (v := .agg #[vI 0, .bool false, vI exp, vI v.kind, vS v.text, p23, t24, z25]) rfl rfl rfl rfl rfl Tryz.underlying74 Tryz.underlying9 hv rfl (fun w28 hv => ?_)
  simp only [zS, zO] at hv
  refine dV hv (fK rfl fN) (dE fun w29 hv => ?_)
  simp only [zP, po]
  refine tK k19 (sK fun _ k30 => ?_)
  refine rL (uA rfl ?_)
  refine uW k30 (rR ?_)
  refine bR rfl rfl (⟨_, _, 0, (hBC.trans hC22), rfl, .inl ⟨rfl, ⟨hk, hbl12.1 rfl, by omega, by omega⟩, VM.upd (x := ⟨0, false, exp, v⟩) hp23 (VM.more (hBC.trans hC22) hM)⟩, Inv.star (K := txL _ _ _ _ _ _ _ _ _ _) ((hv.kp [6, 6, 6, 5, 5, 5] 6 1))⟩)
 replace hk : ¬ key.length ≤ 256 := by simpa using hk
 refine uA rfl (uW k5 ?_)
 refine sK fun _ k31 => rL (uM rfl ?_)
 refine uG (.bool true) rfl (ex_neq rfl rfl rfl (by decide)) (uW k31 ?_)
 refine cT rfl (sK fun _ k32 => ?_)
 refine rL (uM rfl ?_)
 refine uA rfl (uW k32 ?_)
 refine rR (tR ?_)
 refine bR rfl rfl (⟨_, _, 2, hBC, rfl, .inr ⟨rfl, fun h => hk h.1, rfl⟩, Inv.star (K := txL _ _ _ _ _ _ _ _ _ _) ((hv.kp [6, 6, 6, 5, 5, 5] 6 1))⟩)
theorem x2al45 : AL Tryz.prog 45 [vI 0, .bool false, vI 0, vI 0, vS [], vN, vN, vN] := fun w => by kernel_rfl
theorem x2fa97_0 : FA Tryz.prog 97 0 0 := fun w b o => by kernel_rfl
theorem x2na62 (w : World) : (isAgg 62).run Tryz.prog w = .ok false w := by kernel_rfl
theorem x2fa76_1 : FA Tryz.prog 76 1 1 := fun w b o => by kernel_rfl
theorem x2fa76_2 : FA Tryz.prog 76 2 2 := fun w b o => by kernel_rfl
theorem x2callable117 : Callable Tryz.prog 117 := cb Tryz.func117 (by kernel_rfl)
theorem x2callable118 : Callable Tryz.prog 118 := cb Tryz.func118 (by kernel_rfl)
theorem x2fa45_3 : FA Tryz.prog 45 3 3 := fun w b o => by kernel_rfl
theorem txnGet (B : Base) (H : List Res) (w : World) (t m s p wb : Nat) (va : Option Addr) (vc : Nat) (sv : Value) (clk : Int) (es : List (List UInt8 × Value)) (M : List (List UInt8 × Ver)) (key : List UInt8) (hM : VM B es M) (hv : Inv B (txR t m s p wb va vc sv clk es :: H) w) :
  Calls Tryz.prog 116 #[vP t, vS key] w fun e w' => ∃ C x p' t' z' ok, B.Le C ∧ e = .returned (.tuple #[.agg (verCells x p' t' z').toArray, .bool ok]) ∧ ((ok = true ∧ lookA M key = some x ∧ aliveB x clk = true) ∨ (ok = false ∧ x = zver0 ∧ ∀ y, lookA M key = some y → aliveB y clk = false)) ∧ ValAt C x.val p' t' z' ∧ Inv C (txR t m s p wb va vc sv clk es :: H) w' := by
 refine cW Tryz.func116 rfl Tryz.ntmps116 ?_
 simp only [al]
 refine sK fun _ k1 => ?_
 replace hv := Inv.unstar hv
 simp only [txL, List.cons_append, List.nil_append] at hv
 refine rL (sl_alloc tV (wn rfl) rfl hv x2al45 (fun b2 w3 hv => ?_))
 refine uA rfl (uW k1 ?_)
 refine sK fun _ k4 => rL (uM rfl ?_)
 refine uG (vP t) rfl (ex_nil rfl rfl) ?_
 refine uF (.pointer (some ⟨t, 4, none⟩)) rfl (x2fa76_4 _ _ _) ?_
 refine uL _ rfl (run_load1 x2na74 (hv.load 1 4 rfl rfl)) (uM rfl ?_)
 rcases VM.look key hM with ⟨hl, hlM⟩ | ⟨x, xp, xt, xz, hl, hlM, hxv⟩
 ·refine uG (.tuple #[.agg #[vI 0, .bool false, vI 0, vI 0, vS [], vN, vN, vN], .bool false]) rfl (ex_lookN (z := .agg #[vI 0, .bool false, vI 0, vI 0, vS [], vN, vN, vN]) 4 rfl rfl rfl Tryz.underlying74 Tryz.underlying9 (fun w => by kernel_rfl) hv rfl hl) (uM rfl ?_)
  refine uE rfl (uE rfl ?_)
  refine sl_alloc tV (wn rfl) rfl hv x2al45 (fun b5 w6 hv => ?_)
  refine xS 0 rfl hv x0sz45 rfl (by exact ⟨rfl, rfl, rfl, rfl, rfl, rfl, rfl, rfl, trivial⟩) (fun w7 hv => ?_)
  simp only [zO, sp] at hv
  refine uA rfl (uW k4 ?_)
  refine sK fun _ k8 => sK fun _ k9 => rL (uM rfl ?_)
  refine uG (.bool true) rfl (ex_not rfl rfl rfl) (uW k9 ?_)
  refine cT rfl (sK fun _ k10 => ?_)
  refine rW mixed [16, 19] [0,1,2,3,4,5,6,7,8,9,10,11,12,13,14,15,16,17,18,19,20] 51 rfl (by kernel_rfl) hv ?_
  simp only [qm, opAt]
  refine dM (vP t) rfl (dG (vP t) rfl (ex_nil rfl rfl) ?_)
  refine dG (vP t) rfl (ex_field rfl rfl (x1fa76_0 _ _ _)) ?_
  simp only [zP, po]
  refine dL _ rfl (fun hv => ex_load rfl rfl (run_load1 x1na59 (hv.load 2 0 rfl rfl))) (dG (vP m) rfl (ex_nil rfl rfl) ?_)
  refine dG (vP m) rfl (ex_field rfl rfl (x2fa97_0 _ _ _)) ?_
  simp only [zP, po]
  refine dL _ rfl (fun hv => ex_load rfl rfl (run_load1 x2na62 (hv.load 3 0 rfl rfl))) (dM (vS key) rfl ?_)
  refine dM (vP t) rfl ?_
  simp only [zP, po]
  refine dG (vP t) rfl (ex_nil rfl rfl) (dG (.pointer (some ⟨t, 1, none⟩)) rfl (ex_field rfl rfl (x2fa76_1 _ _ _)) ?_)
  refine dL _ rfl (fun hv => ex_load rfl rfl (run_load1 s2na3 (hv.load 2 1 rfl rfl))) ?_
  simp only [zP, po]
  refine dM (vP t) rfl (dG (vP t) rfl (ex_nil rfl rfl) ?_)
  refine dG (.pointer (some ⟨t, 2, none⟩)) rfl (ex_field rfl rfl (x2fa76_2 _ _ _)) ?_
  simp only [zP, po]
  refine dL _ rfl (fun hv => ex_load rfl rfl (run_load1 s2na3 (hv.load 2 2 rfl rfl))) (dS rfl fun w11 hv => ?_)
  replace hv := hv.front 7 rfl
  simp only [eS, eZ] at hv
  replace hv := hv.front 7 rfl
  simp only [eS, eZ] at hv
  refine mC x2callable117 rfl ((storeRead0 B _ _ s p 0 clk key hv).mono ?_) rfl
  rintro e w12 ⟨rfl, hv⟩
  refine ⟨_, rfl, dW hv ?_⟩
  refine dG (.agg #[vI 0, .bool false, vI 0, vI 0, vS [], vN, vN, vN]) rfl (ex_extract rfl rfl rfl) ?_
  simp only [zP, po]
  refine dG (.bool false) rfl (ex_extract rfl rfl rfl) (dS rfl fun w13 hv => ?_)
  refine mS 3 rfl hv x0sz45 rfl (by exact ⟨rfl, rfl, rfl, rfl, rfl, rfl, rfl, rfl, trivial⟩) (fun w14 hv => ?_)
  simp only [zS, zO, sp] at hv
  refine dW hv (dA (.bool false) rfl ?_)
  refine dE fun w15 hv => ?_
  simp only [zP, po]
  refine tK k10 (rR ?_)
  refine tR (bodyPost_ret (res_cell2 rfl rfl (lM 3 x0wd45 hv rfl rfl rfl rfl)) rfl ?_)
  exact ⟨_, zver0, _, _, _, false, (Base.Le.refl _), rfl, .inr ⟨rfl, rfl, fun y hy => (by rw [hlM] at hy; cases hy)⟩, zver0_at _, Inv.star (K := txL _ _ _ _ _ _ _ _ _ _) ((hv.kp [1, 1, 7, 7, 7, 7] 6 2))⟩
 refine uG (.tuple #[.agg #[vI x.stamp, .bool x.gone, vI x.expire, vI x.val.kind, vS x.val.text, xp, xt, xz], .bool true]) rfl (ex_lookS (z := .agg #[vI 0, .bool false, vI 0, vI 0, vS [], vN, vN, vN]) 4 rfl rfl rfl Tryz.underlying74 Tryz.underlying9 (fun w => by kernel_rfl) hv rfl hl) (uM rfl ?_)
 refine uE rfl (uE rfl ?_)
 refine sl_alloc tV (wn rfl) rfl hv x2al45 (fun b16 w17 hv => ?_)
 refine xS 0 rfl hv x0sz45 rfl (by exact ⟨rfl, rfl, rfl, rfl, rfl, hxv.p.one, hxv.t.one, hxv.z.one, trivial⟩) (fun w18 hv => ?_)
 simp only [zO, sp] at hv
 refine uA rfl (uW k4 ?_)
 refine sK fun _ k19 => sK fun _ k20 => rL (uM rfl ?_)
 refine uG (.bool false) rfl (ex_not rfl rfl rfl) (uW k20 ?_)
 refine cF rfl (kS ?_)
 refine tK k19 (sK fun _ k21 => ?_)
 refine sK fun _ k22 => rW mixed [5] [0,1,2,3,4,5,6] 51 rfl (by kernel_rfl) hv ?_
 simp only [qm, opAt]
 refine dL (.agg #[vI x.stamp, .bool x.gone, vI x.expire, vI x.val.kind, vS x.val.text, xp, xt, xz]) rfl (fun hv => ex_load rfl rfl (lM 0 x0wd45 hv rfl rfl rfl rfl)) (dM (vP t) rfl ?_)
 refine dG (vP t) rfl (ex_nil rfl rfl) ?_
 simp only [zP, po]
 refine dG (.pointer (some ⟨t, 2, none⟩)) rfl (ex_field rfl rfl (x2fa76_2 _ _ _)) (dL _ rfl (fun hv => ex_load rfl rfl (run_load1 s2na3 (hv.load 2 2 rfl rfl))) ?_)
 refine dS rfl fun w23 hv => mC x2callable118 rfl ((chainAlive B _ _ x xp xt xz clk hv).mono ?_) rfl
 rintro e w24 ⟨rfl, hv⟩
 refine ⟨_, rfl, dW hv ?_⟩
 simp only [zP, po]
 refine dG (.bool (!(aliveB x clk))) rfl (ex_not rfl rfl rfl) (dE fun w25 hv => ?_)
 simp only [zP, po]
 refine tK k22 (wpIn_cond_split (t := !(aliveB x clk)) rfl (fun hc26 => ?_) (fun hc26 => ?_))
 ·refine sK fun _ k27 => rL (uG (.agg #[vI 0, .bool false, vI 0, vI 0, vS [], vN, vN, vN]) rfl (ex_buildN (vs := #[]) rfl (by simp only [List.map_toArray, List.map_nil]) (by kernel_rfl)) ?_)
  refine xS 1 rfl hv x0sz45 rfl (by exact ⟨rfl, rfl, rfl, rfl, rfl, rfl, rfl, rfl, trivial⟩) (fun w28 hv => ?_)
  simp only [zS, zO, sp] at hv
  refine uA rfl (uW k27 ?_)
  refine rR (tR ?_)
  refine bodyPost_ret (res_cell2 rfl rfl (lM 1 x0wd45 hv rfl rfl rfl rfl)) rfl (⟨_, zver0, _, _, _, false, (Base.Le.refl _), rfl, .inr ⟨rfl, rfl, fun y hy => (by rw [hlM] at hy; cases hy; simpa using hc26)⟩, zver0_at _, Inv.star (K := txL _ _ _ _ _ _ _ _ _ _) ((hv.kp [7, 7, 7, 7, 7, 7] 6 2))⟩)
 refine kS (tK k21 ?_)
 refine sK fun _ k29 => rL (uF (.pointer (some ⟨b16, 3, none⟩)) rfl (x2fa45_3 _ _ _) ?_)
 refine uL (.agg #[vI x.val.kind, vS x.val.text, xp, xt, xz]) rfl (lM 0 s1wd43 hv rfl rfl rfl rfl) ?_
 refine xC x2callable26 rfl ((valueClone _ _ _ x.val xp xt xz (hxv.more (Base.Le.refl _)) hv).mono ?_) rfl
 rintro e w34 ⟨C30, p31, t32, z33, hC30, rfl, hp31, hv⟩
 refine ⟨_, rfl, uF (.pointer (some ⟨b16, 3, none⟩)) rfl (x2fa45_3 _ _ _) ?_⟩
 refine xS 0 rfl hv s1sz43 rfl (by exact ⟨rfl, rfl, hp31.p.one, hp31.t.one, hp31.z.one, trivial⟩) (fun w35 hv => ?_)
 simp only [zO, sp] at hv
 refine uW k29 (sK fun _ k36 => ?_)
 refine rL (uL (.agg #[vI x.stamp, .bool x.gone, vI x.expire, vI x.val.kind, vS x.val.text, p31, t32, z33]) rfl (lM 0 x0wd45 hv rfl rfl rfl rfl) ?_)
 refine xS 1 rfl hv x0sz45 rfl (by exact ⟨rfl, rfl, rfl, rfl, rfl, hp31.p.one, hp31.t.one, hp31.z.one, trivial⟩) (fun w37 hv => ?_)
 simp only [zS, zO, sp] at hv
 refine uA rfl (uW k36 ?_)
 refine rR (bodyPost_ret (res_cell2 rfl rfl (lM 1 x0wd45 hv rfl rfl rfl rfl)) rfl ?_)
 exact ⟨_, x, _, _, _, true, hC30, rfl, .inl ⟨rfl, hlM, by simpa using hc26⟩, hp31, Inv.star (K := txL _ _ _ _ _ _ _ _ _ _) ((hv.kp [7, 7, 7, 7, 7, 7] 6 2))⟩
end Go.Proofs.YtanfkicimnfgjaaGreatDoor
namespace Go.Pm
open Go.RowKit
section
variable {F : Fence} {n : Nat} {P : Program} {ops : Array Oper} {Q : Exit → Act → World → Prop} {a : Act} {w : World} {rest : List Oper} {o : Oper} {x : Operand}
theorem ex_iface {t : TypeId} {v : Value} {y : Operand} {d : TypeDesc} (ht : P.underlying t = some d) (hd : ∀ m, d ≠ .interface m) (ho : o.op = .makeInterface t y) (hy : a.eval y = v) : Ex P a o w (.iface t v) w := by
 unfold Ex
 cases d <;> first | exact absurd rfl (hd _) | simp [execOp, ho, hy, Instr.makeInterface, run_underlying ht]
theorem ex_ifnil {t u d : TypeId} {v : Value} {ms : Array (String × TypeId)} {y : Operand} (ht : P.underlying t = some (.interface ms)) (ho : o.op = .binOp .eql t x y u) (hx : a.eval x = .iface d v) (hy : a.eval y = .nilIface) : Ex P a o w (.bool false) w := by
 have hg : (eqGuard .eql t x y (.iface d v) .nilIface).run P w = .ok () w := by simp [eqGuard]
 have h : ∀ k : Nat, (Op.equalIn (k + 1) t (.iface d v) .nilIface).run P w = .ok false w := fun k => by simp [Op.equalIn, run_underlying ht]
 have hr : (binOp .eql t (.iface d v) .nilIface).run P w = .ok (.bool false) w := by
  simp only [binOp]; simp [Op.equal, Op.maxDepth, h 9999]
 unfold Ex; simp [execOp, ho, hx, hy, hg, hr]
theorem sl_rowN {B : Base} {H : List Res} {t e : TypeId} {k : Nat} {parts : Array (Nat × Operand)} {pv : Array (Nat × Value)} {L : List Value} (hF : ∀ f, F.fn f) (hg : Region.wanted o (yielded ops a.tmps) = true) (ho : o.op = .buildSlice t k parts) (hx : (parts.map fun (i, x) => (i, a.eval x)) = pv) (hv : Inv B H w)
  (hr : ∀ w, (Instr.buildSlice t k pv).run P w = .ok (.slice (some ⟨w.heap.size, 0, none⟩) k k) (w.alloc (.cells L.toArray e))) (h : ∀ b w', Inv B (Res.cell b L e :: H) w' → wpListIn F n P ops Q rest (a.put o.dst (.slice (some ⟨b, 0, none⟩) k k)) w') : wpListIn F n P ops Q (o :: rest) a w :=
 wpi_exG hF hg (by unfold isDefer; rw [ho]) (by unfold Ex; simp only [execOp, ho, hx]; simp [hr]) (h _ _ (hv.alloc L e))
theorem run_callI {f : FuncId} {name : String} {xs : Array Operand} {ts : Array TypeId} {args : Array Value} {t : TypeId} {r r' : Value} (hf : Callable P f) (ho : o.op = .call { callee := .invoke x name, args := xs, argTypes := ts }) (hfx : a.eval x = .iface t r)
  (hm : ∀ w, (method (P.types.size + Made.depth) t r name).run P w = .ok (f, r') w) (hx : xs.map a.eval = args) (w : World) : (execOp a.eval o).run P w = .ok (.enter f (#[r'] ++ args)) w := by
 obtain ⟨fn, h1, h2, h3⟩ := hf
 have hb : ¬ fn.body = none := by intro h; rw [h] at h3; cases h3
 have hn : ¬ fn.name = "runtime.NumGoroutine" := by simpa using h2
 have hget : (#[Value.iface t r] ++ xs.map a.eval)[0]? = some (.iface t r) := by
  rw [← Array.getElem?_toList, Array.toList_append]; rfl
 have hext : (#[Value.iface t r] ++ xs.map a.eval).extract 1 (#[Value.iface t r] ++ xs.map a.eval).size = xs.map a.eval := by
  apply Array.ext'; simp
  exact List.take_of_length_le (by simp)
 obtain ⟨d, op, ty, pos, af, gd⟩ := o
 simp only at ho
 subst ho
 simp only [execOp, resolve, Sem.run_bind, Sem.run_pure, Result.andThen_ok, invoke, hfx, hget, hext, callMethod]
 simp only [program, Sem.run, Result.andThen_ok, hm, hx]
 simp [callFunc, h1, hn, hb]
theorem wpi_callI {f : FuncId} {name : String} {xs : Array Operand} {ts : Array TypeId} {args : Array Value} {t : TypeId} {r r' : Value} (hf : Callable P f) (hF : ∀ f, F.fn f) (hC : ∀ (f : FuncId) (args : Array Value) (w : World) (R : Ending → World → Prop), Calls P f args w R → CallsIn F (n - 1) P f args w R) (hdp : F.depth = none) (hg : Region.wanted o (yielded ops a.tmps) = true)
  (ho : o.op = .call { callee := .invoke x name, args := xs, argTypes := ts }) (hfx : a.eval x = .iface t r) (hm : ∀ w, (method (P.types.size + Made.depth) t r name).run P w = .ok (f, r') w) (hx : xs.map a.eval = args) (hc : Calls P f (#[r'] ++ args) w fun e w' => ∃ v, e = .returned v ∧ wpListIn F n P ops Q rest (a.put o.dst v) w') : wpListIn F n P ops Q (o :: rest) a w := by
 refine wpListIn_step fun K hK => ?_
 rw [if_pos hg]
 refine ⟨fun f _ => hF f, ?_⟩
 have hd : isDefer o = false := by unfold isDefer; rw [ho]
 rw [Oper.semAt_eq _ _ _ (not_defer hd), run_callI hf ho hfx hm hx w, Oper.uponIn_enter]
 refine ⟨fun e => by simp [hdp] at e, hC _ _ _ _ (hc.mono ?_)⟩
 rintro e w' ⟨v, rfl, hh⟩
 exact hK _ _ hh
end
section
variable {F : Fence} {n : Nat} {P : Program} {ops : Array Oper} {Q : Exit → Act → World → Prop} {a : Act} {w : World} {rest : List Oper} {o : Oper} {x : Operand}
theorem wpi_defer {f : FuncId} {cb : Array Value} (hF : ∀ f, F.fn f) (hro : F.round = none) (hg : Region.wanted o (yielded ops a.tmps) = true) (ho : o.op = .defer { callee := .value x, args := #[], argTypes := #[] }) (hx : a.eval x = .func (.func f) #[] cb)
  (h : wpListIn F n P ops Q rest (({ a with defers := { target := .fn (.func f) cb, args := #[] } :: a.defers } : Act).put o.dst undef) w) : wpListIn F n P ops Q (o :: rest) a w := by
 refine wpListIn_step fun K hK => ?_
 rw [if_pos hg]
 refine ⟨fun f _ => hF f, ?_⟩
 have hr : (execOp a.eval o).run P w = .ok (.defer { target := .fn (.func f) cb, args := #[] }) w := by
  obtain ⟨d, op, ty, pos, af, gd⟩ := o
  simp only at ho
  subst ho
  simp [execOp, resolve, hx, Deferred.ofValue]
 rw [hro, Oper.semAt_none, hr, Oper.uponIn_defer]
 exact hK _ _ h
end
theorem res_cells2 {P : Program} {fn : Func} {w : World} {t u : TypeId} {v v' : Value} {r i : Nat} (h : fn.results = #[.cell r t, .cell i u]) {tmps : Array Value} {ad ad' : Addr} (hr : tmps.getD r undef = .pointer (some ad)) (hl : (Instr.loadAt t (.pointer (some ad))).run P w = .ok v w)
  (hr2 : tmps.getD i undef = .pointer (some ad')) (hl2 : (Instr.loadAt u (.pointer (some ad'))).run P w = .ok v' w) : (results fn tmps).run P w = .ok (.tuple #[v, v']) w := by
 have hl' : (loadVar t ad).run P w = .ok v w := by simpa [Instr.loadAt, Instr.sureAddr] using hl
 have hr' : tmps[r]?.getD undef = .pointer (some ad) := by rw [← hr, Array.getD_eq_getD_getElem?]
 have hl2' : (loadVar u ad').run P w = .ok v' w := by simpa [Instr.loadAt, Instr.sureAddr] using hl2
 have hr2' : tmps[i]?.getD undef = .pointer (some ad') := by rw [← hr2, Array.getD_eq_getD_getElem?]
 simp [results, h, hr', hr2', asAddr, hl', hl2']
theorem leave_rec {P : Program} {fn : Func} {n : Nat} {tmps cb : Array Value} {R : Ending → World → Prop} {w : World} {v : Value} {f : FuncId} (hf : Callable P f) (hrec : CallsDIn Fence.wide (n - 1) P f cb .returning w fun e u' w' => e = .returned (.tuple #[]) ∧ u' = .returning ∧ w' = w)
  (hres : (results fn tmps).run P w = .ok v w) (hR : R (.returned v) w) : bodyPostDIn Fence.wide n P fn R .ret ⟨tmps, [{ target := .fn (.func f) cb, args := #[] }]⟩ w := by
 obtain ⟨fn', h1, h2, h3⟩ := hf
 have hb : ¬ fn'.body = none := by intro h; rw [h] at h3; cases h3
 have hn : ¬ fn'.name = "runtime.NumGoroutine" := by simpa using h2
 refine leavesIn_cons (f := f) (args := cb) (by simp) (by simp [Fence.wide]) (by simp [invoke, callFunc, h1, hn, hb]) (fun _ _ => trivial) ?_
 refine hrec.mono ?_
 rintro e u' w'' ⟨rfl, rfl, rfl⟩
 exact ⟨v, by simpa [settle] using hres, hR⟩
end Go.Pm
namespace Go.Proofs.YtanfkicimnfgjaaGreatDoor
open Go.RowKit Go.Pm
theorem ixNew0 (B : Base) (H : List Res) (w : World) (hv : Inv B H w) :
  Calls Tryz.prog 35 #[] w fun e w' => ∃ p, e = .returned (vP p) ∧ Inv B (Res.cell p [vN, vI 0] 134 :: H) w' := by
 refine cW Tryz.func35 rfl Tryz.ntmps35 ?_
 simp only [al]
 refine sK fun _ k1 => rL (uA rfl ?_)
 refine uW k1 (sK fun _ k2 => ?_)
 refine rL (uG (.agg #[vN, vI 0]) rfl (ex_buildN (vs := #[]) rfl (by simp only [List.map_toArray, List.map_nil]) (by kernel_rfl)) ?_)
 refine sl_box (L := [vN, vI 0]) tV (wn rfl) rfl rfl hv (fun w => by kernel_rfl) (fun b3 w4 hv => ?_)
 refine uA rfl (uW k2 ?_)
 refine rR (bR rfl rfl ?_)
 exact ⟨_, rfl, hv⟩
theorem x3callable35 : Callable Tryz.prog 35 := cb Tryz.func35 (by kernel_rfl)
theorem storeNew0 (B : Base) (H : List Res) (w : World) (hv : Inv B H w) :
  Calls Tryz.prog 20 #[] w fun e w' => ∃ s p, e = .returned (vP s) ∧ Inv B (Res.cell s [vP p, vI 0, vI 0] 101 :: Res.cell p [vN, vI 0] 134 :: H) w' := by
 refine cW Tryz.func20 rfl Tryz.ntmps20 ?_
 simp only [al]
 refine sK fun _ k1 => rL (uA rfl ?_)
 refine uW k1 (sK fun _ k2 => ?_)
 refine rL (xC x3callable35 rfl ((ixNew0 B _ _ hv).mono ?_) rfl)
 rintro e w3 ⟨p, rfl, hv⟩
 refine ⟨_, rfl, uG (.agg #[vP p, vI 0, vI 0]) rfl (ex_buildN (vs := #[(0, vP p)]) rfl (by simp only [List.map_toArray, List.map_cons, List.map_nil]; rfl) (by kernel_rfl)) ?_⟩
 refine sl_box (L := [vP p, vI 0, vI 0]) tV (wn rfl) rfl rfl hv (fun w => by kernel_rfl) (fun b4 w5 hv => ?_)
 refine uA rfl (uW k2 ?_)
 refine rR (bR rfl rfl ?_)
 exact ⟨_, p, rfl, hv⟩
theorem txnNew0 (B : Base) (H : List Res) (w : World) (s : Nat) (tt : TypeId) (sq : Value) (hv : Inv B H w) :
  Calls Tryz.prog 19 #[vP s, (.iface tt sq)] w fun e w' => ∃ m, e = .returned (.tuple #[vP m, vI 0]) ∧ Inv B (Res.cell m [vP s, .iface tt sq, vI 0, vN] 97 :: H) w' := by
 refine cW Tryz.func19 rfl Tryz.ntmps19 ?_
 simp only [al]
 refine sK fun _ k1 => rL (uA rfl ?_)
 refine uA rfl (uW k1 ?_)
 refine sK fun _ k2 => sK fun _ k3 => rL (uM rfl ?_)
 refine uG (.bool false) rfl (ex_pisnil Tryz.underlying62 rfl rfl rfl rfl) (uM rfl ?_)
 refine uM rfl ?_
 refine uG (.bool false) rfl (ex_ifnil Tryz.underlying94 rfl rfl rfl) (uK rfl ?_)
 refine uW k3 (cF rfl ?_)
 refine kS (tK k2 ?_)
 refine sK fun _ k4 => rL (uM rfl ?_)
 refine uM rfl ?_
 refine uG (.agg #[vP s, (.iface tt sq), vI 0, vN]) rfl (ex_buildN (vs := #[(0, vP s), (1, (.iface tt sq))]) rfl (by simp only [List.map_toArray, List.map_cons, List.map_nil]; rfl) (by kernel_rfl)) ?_
 refine sl_box (L := [vP s, (.iface tt sq), vI 0, vN]) tV (wn rfl) rfl rfl hv (fun w => by kernel_rfl) (fun b5 w6 hv => ?_)
 refine uA rfl (uA rfl ?_)
 refine uW k4 (rR ?_)
 refine bodyPost_ret (results_tmp2 rfl _ _ _) rfl (⟨_, rfl, hv⟩)
theorem x3fa101_1 : FA Tryz.prog 101 1 1 := fun w b o => by kernel_rfl
theorem x3na3 (w : World) : (isAgg 3).run Tryz.prog w = .ok false w := by kernel_rfl
theorem storeLast0 (B : Base) (H : List Res) (w : World) (s p : Nat) (hv : Inv B (Res.cell s [vP p, vI 0, vI 0] 101 :: H) w) :
  Calls Tryz.prog 37 #[vP s] w fun e w' => e = .returned (vI 0) ∧ Inv B (Res.cell s [vP p, vI 0, vI 0] 101 :: H) w' := by
 refine cW Tryz.func37 rfl Tryz.ntmps37 ?_
 simp only [al]
 refine sK fun _ k1 => rL (uA rfl ?_)
 refine uW k1 (sK fun _ k2 => ?_)
 refine rL (uM rfl ?_)
 refine uG (vP s) rfl (ex_nil rfl rfl) ?_
 refine uF (.pointer (some ⟨s, 1, none⟩)) rfl (x3fa101_1 _ _ _) ?_
 refine uL _ rfl (run_load1 x3na3 (hv.load 0 1 rfl rfl)) (uA rfl ?_)
 refine uW k2 (rR ?_)
 refine bR rfl rfl (⟨rfl, hv⟩)
theorem x3fa97_3 : FA Tryz.prog 97 3 3 := fun w b o => by kernel_rfl
theorem x3na95 (w : World) : (isAgg 95).run Tryz.prog w = .ok false w := by kernel_rfl
theorem x3fa97_2 : FA Tryz.prog 97 2 2 := fun w b o => by kernel_rfl
theorem x3mk36 : (Tryz.prog.info? 36).map (fun i => (i.zero, i.size, i.bytes)) = some (some (.pointer none), 1, 8) := by kernel_rfl
theorem x3el95 : Elem Tryz.prog 95 36 (.pointer none) 1 8 := elem_of Tryz.underlying95 x3mk36 (by rfl) (by decide)
theorem x3sz95 : (Tryz.prog.info? 95).map (·.size) = some 1 := by kernel_rfl
theorem txnBegin0 (B : Base) (H : List Res) (w : World) (m s : Nat) (sv : Value) (clk : Int) (hv : Inv B (Res.cell m [vP s, sv, vI clk, vN] 97 :: H) w) :
  Calls Tryz.prog 36 #[vP m, vI 0, .bool false] w fun e w' => ∃ t wb va vc, e = .returned (.tuple #[vP t, vI 0]) ∧ Inv B (Res.cell t [vP m, vI 0, vI clk, .bool false, .map (some wb)] 76 :: Res.cell m [vP s, sv, vI clk, .slice va 1 vc] 97 :: Res.row 36 1 (.slice va 1 vc) 1 [vP t] :: Res.vmap wb [] :: H) w' := by
 refine cW Tryz.func36 rfl Tryz.ntmps36 ?_
 simp only [al]
 refine sK fun _ k1 => rL (uA rfl ?_)
 refine uA rfl (uW k1 ?_)
 refine sK fun _ k2 => sK fun _ k3 => rL (uM rfl ?_)
 refine uG (vP m) rfl (ex_nil rfl rfl) ?_
 refine uF (.pointer (some ⟨m, 3, none⟩)) rfl (x3fa97_3 _ _ _) ?_
 refine uL _ rfl (run_load1 x3na95 (hv.load 0 3 rfl rfl)) ?_
 refine uG (vI 0) rfl (ex_len0 Tryz.underlying95 rfl rfl) ?_
 refine uG (.bool false) rfl (ex_geq rfl rfl rfl (by decide)) (uW k3 ?_)
 refine cF rfl (kS ?_)
 refine tK k2 (sK fun _ k4 => ?_)
 refine rL (uM rfl ?_)
 refine uM rfl (uM rfl ?_)
 refine uG (vP m) rfl (ex_nil rfl rfl) ?_
 refine uF (.pointer (some ⟨m, 2, none⟩)) rfl (x3fa97_2 _ _ _) ?_
 refine uL _ rfl (run_load1 x3na3 (hv.load 0 2 rfl rfl)) (uM rfl ?_)
 refine sl_newMapV tV (wn rfl) rfl hv (fun mp5 w6 hv => ?_)
 refine uG (.agg #[vP m, vI 0, vI clk, .bool false, .map (some mp5)]) rfl (ex_buildN (vs := #[(0, vP m), (1, vI 0), (2, vI clk), (3, .bool false), (4, .map (some mp5))]) rfl (by simp only [List.map_toArray, List.map_cons, List.map_nil]; rfl) (by kernel_rfl)) ?_
 refine sl_box (L := [vP m, vI 0, vI clk, .bool false, .map (some mp5)]) tV (wn rfl) rfl rfl hv (fun w => by kernel_rfl) (fun b7 w8 hv => ?_)
 refine uA rfl (uW k4 ?_)
 refine sK fun _ k9 => ?_
 replace hv := hv.rowNil 36 1
 refine rL (uM rfl ?_)
 refine uM rfl ?_
 refine uG (vP m) rfl (ex_nil rfl rfl) ?_
 refine uF (.pointer (some ⟨m, 3, none⟩)) rfl (x3fa97_3 _ _ _) ?_
 refine uL _ rfl (run_load1 x3na95 (hv.load 3 3 rfl rfl)) (uM rfl ?_)
 refine sl_rowOne (v := vP b7) tV (wn rfl) rfl rfl hv x3el95 rfl (fun b10 w11 hv => ?_)
 replace hv := hv.front 1 rfl
 simp only [eS, eZ] at hv
 refine sl_append (news := [vP b7]) tV (wn rfl) rfl rfl rfl x3el95 hv (ok_full (by omega)) rfl (rd_all (hv.get 1 rfl)) (by intro u hu; simp only [List.mem_cons, List.not_mem_nil, or_false] at hu; rcases hu with rfl <;> rfl) (by unfold maxLen; omega) (by omega) (fun rv12 w15 hv => ?_)
 obtain ⟨ra13, rc14, rfl⟩ := row_slice hv.head
 refine uG (vP m) rfl (ex_nil rfl rfl) ?_
 refine uF (.pointer (some ⟨m, 3, none⟩)) rfl (x3fa97_3 _ _ _) ?_
 refine xV 4 (.slice ra13 (0 + 1) rc14) rfl hv x3sz95 rfl rfl (fun w16 hv => ?_)
 simp only [zS, zO, sp] at hv
 refine uW k9 (sK fun _ k17 => ?_)
 refine rL (uM rfl ?_)
 refine uA rfl (uA rfl ?_)
 refine uW k17 (rR ?_)
 refine bodyPost_ret (results_tmp2 rfl _ _ _) rfl (⟨_, _, _, _, rfl, (hv.kp [3, 1, 4, 4] 4 1)⟩)
theorem x3fa97_0 : FA Tryz.prog 97 0 0 := fun w b o => by kernel_rfl
theorem x3na62 (w : World) : (isAgg 62).run Tryz.prog w = .ok false w := by kernel_rfl
theorem x3callable37 : Callable Tryz.prog 37 := cb Tryz.func37 (by kernel_rfl)
theorem x3callable36 : Callable Tryz.prog 36 := cb Tryz.func36 (by kernel_rfl)
theorem txnBegin (B : Base) (H : List Res) (w : World) (m s p : Nat) (sv : Value) (clk : Int) (hv : Inv B (Res.cell m [vP s, sv, vI clk, vN] 97 :: Res.cell s [vP p, vI 0, vI 0] 101 :: Res.cell p [vN, vI 0] 134 :: H) w) :
  Calls Tryz.prog 22 #[vP m] w fun e w' => ∃ t wb va vc, e = .returned (.tuple #[vP t, vI 0]) ∧ Inv B (txR t m s p wb va vc sv clk [] :: H) w' := by
 refine cW Tryz.func22 rfl Tryz.ntmps22 ?_
 simp only [al]
 refine sK fun _ k1 => rL (uA rfl ?_)
 refine uA rfl (uW k1 ?_)
 refine sK fun _ k2 => rL (uM rfl ?_)
 refine uM rfl ?_
 refine uG (vP m) rfl (ex_nil rfl rfl) ?_
 refine uF (vP m) rfl (x3fa97_0 _ _ _) ?_
 refine uL _ rfl (run_load1 x3na62 (hv.load 0 0 rfl rfl)) ?_
 replace hv := hv.front 1 rfl
 simp only [eS, eZ] at hv
 refine xC x3callable37 rfl ((storeLast0 B _ _ s p hv).mono ?_) rfl
 rintro e w3 ⟨rfl, hv⟩
 refine ⟨_, rfl, ?_⟩
 simp only [zP, po]
 replace hv := hv.front 1 rfl
 simp only [eS, eZ] at hv
 refine xC x3callable36 rfl ((txnBegin0 B _ _ m s sv clk hv).mono ?_) rfl
 rintro e w4 ⟨t, wb, va, vc, rfl, hv⟩
 refine ⟨_, rfl, uE rfl ?_⟩
 refine uE rfl (uA rfl ?_)
 refine uA rfl (uW k2 ?_)
 refine rR (bodyPost_ret (results_tmp2 rfl _ _ _) rfl ?_)
 exact ⟨t, wb, va, vc, rfl, Inv.star (K := txL _ _ _ _ _ _ _ _ _ _) (((((((hv.front 5 rfl).front 5 rfl).front 5 rfl).front 5 rfl).front 5 rfl).front 5 rfl))⟩
theorem x3sz3 : (Tryz.prog.info? 3).map (·.size) = some 1 := by kernel_rfl
theorem txnTick0 (B : Base) (H : List Res) (w : World) (m s : Nat) (sv : Value) (n : Int) (h0 : 0 ≤ n) (h1 : n ≤ 1099511627776) (hv : Inv B (Res.cell m [vP s, sv, vI 0, vN] 97 :: H) w) :
  Calls Tryz.prog 21 #[vP m, vI n] w fun e w' => ∃ r : Int, e = .returned (vI r) ∧ Inv B (Res.cell m [vP s, sv, vI n, vN] 97 :: H) w' := by
 refine cW Tryz.func21 rfl Tryz.ntmps21 ?_
 simp only [al]
 refine sK fun _ k1 => rL (uA rfl ?_)
 refine uW k1 (sK fun _ k2 => ?_)
 refine sK fun _ k3 => rL (uM rfl ?_)
 by_cases hb4 : n > 0
 ·refine uG (.bool true) rfl (ex_gtr rfl rfl rfl (qT hb4)) (uW k3 ?_)
  refine cT rfl (rW mixed [14] [0,1,2,3,4,5,6,7,8,9,10,11,12,13,14] 25 rfl (by kernel_rfl) hv ?_)
  simp only [qm, opAt]
  refine dM (vP m) rfl (dG (vP m) rfl (ex_nil rfl rfl) ?_)
  refine dG (.pointer (some ⟨m, 2, none⟩)) rfl (ex_field rfl rfl (x3fa97_2 _ _ _)) ?_
  simp only [zP, po]
  refine dL _ rfl (fun hv => ex_load rfl rfl (run_load1 x3na3 (hv.load 0 2 rfl rfl))) (dM (vI n) rfl ?_)
  refine dM (vP m) rfl ?_
  simp only [zP, po]
  refine dG (vP m) rfl (ex_nil rfl rfl) (dG (.pointer (some ⟨m, 2, none⟩)) rfl (ex_field rfl rfl (x3fa97_2 _ _ _)) ?_)
  refine dL _ rfl (fun hv => ex_load rfl rfl (run_load1 x3na3 (hv.load 0 2 rfl rfl))) ?_
  simp only [zP, po]
  refine dG (vI 1099511627776) rfl (ex_sub rfl rfl rfl (i64_in (by omega))) (dG (vI n) rfl (ex_min2 (m := n) (n := 1099511627776) rfl rfl rfl (if_neg (by omega))) ?_)
  refine dG (vI n) rfl (ex_add rfl rfl rfl (by rw [i64_in (by omega)]; omega)) ?_
  simp only [zP, po]
  refine dG (vP m) rfl (ex_nil rfl rfl) (dG (.pointer (some ⟨m, 2, none⟩)) rfl (ex_field rfl rfl (x3fa97_2 _ _ _)) ?_)
  refine dS rfl fun w5 hv => mV 0 (vI n) rfl hv x3sz3 rfl rfl (fun w6 hv => ?_)
  simp only [zO, sp] at hv
  refine dW hv (dE fun w7 hv => ?_)
  simp only [zP, po]
  refine tK k2 (sK fun _ k8 => ?_)
  refine rL (uM rfl ?_)
  refine uG (vP m) rfl (ex_nil rfl rfl) ?_
  refine uF (.pointer (some ⟨m, 2, none⟩)) rfl (x3fa97_2 _ _ _) ?_
  refine uL _ rfl (run_load1 x3na3 (hv.load 0 2 rfl rfl)) (uA rfl ?_)
  refine uW k8 (rR ?_)
  refine bR rfl rfl (⟨_, rfl, hv⟩)
 refine uG (.bool false) rfl (ex_gtr rfl rfl rfl (qF hb4)) (uW k3 ?_)
 refine cF rfl (kS ?_)
 refine tK k2 (sK fun _ k9 => ?_)
 refine rL (uM rfl ?_)
 refine uG (vP m) rfl (ex_nil rfl rfl) ?_
 refine uF (.pointer (some ⟨m, 2, none⟩)) rfl (x3fa97_2 _ _ _) ?_
 refine uL _ rfl (run_load1 x3na3 (hv.load 0 2 rfl rfl)) (uA rfl ?_)
 refine uW k9 (rR ?_)
 refine bR rfl rfl ?_
 obtain rfl : n = 0 := by omega
 exact ⟨_, rfl, hv⟩
def DeadM (M : List (List UInt8 × Ver)) (clk : Int) (k : List UInt8) : Prop := ∀ y, lookA M k = some y → aliveB y clk = false
def OfI (M : List (List UInt8 × Ver)) (clk : Int) (key : List UInt8) (kind : Int) (y : Ver) (ec : Int) : Prop :=
 (ec = 0 ∧ y = zver0 ∧ DeadM M clk key) ∨ (ec = 40 ∧ y = zver0 ∧ ∃ x, lookA M key = some x ∧ aliveB x clk = true ∧ x.val.kind ≠ kind) ∨ (ec = 0 ∧ lookA M key = some y ∧ aliveB y clk = true ∧ y.val.kind = kind)
theorem v1al45 : AL Tryz.prog 45 [vI 0, .bool false, vI 0, vI 0, vS [], vN, vN, vN] := fun w => by kernel_rfl
theorem v1al26 : AL Tryz.prog 26 [vI 0] := fun w => by kernel_rfl
theorem v1fa107_0 : FA Tryz.prog 107 0 0 := fun w b o => by kernel_rfl
theorem v1na105 (w : World) : (isAgg 105).run Tryz.prog w = .ok false w := by kernel_rfl
theorem v1callable116 : Callable Tryz.prog 116 := cb Tryz.func116 (by kernel_rfl)
theorem v1sz26 : (Tryz.prog.info? 26).map (·.size) = some 1 := by kernel_rfl
theorem v1na26 (w : World) : (isAgg 26).run Tryz.prog w = .ok false w := by kernel_rfl
theorem v1callable48 : Callable Tryz.prog 48 := cb Tryz.func48 (by kernel_rfl)
theorem v1rec48 (n : Nat) (x0 x1 : Value) (w : World) : CallsDIn Fence.wide n Tryz.prog 48 #[x0, x1] .returning w fun e u' w' => e = .returned (.tuple #[]) ∧ u' = .returning ∧ w' = w := by
 refine callsDIn_of_wpSIn Tryz.func48 rfl trivial fun c₀ cs hu => ?_
 apply wpSIn_seq
 apply wpSIn_region
 simp [wpOpsSIn, go_sem, recoverD, hu, Tryz.ntmps48, Exit.thenS]
 refine wpSIn_cond (t := false) (by simp [Act.eval, Array.replicate]) ?_
 simp only [Bool.false_eq_true, if_false]
 refine wpSIn_of_wpIn rfl (wpIn_skip ?_)
 cases c₀
 simp_all [bodyPostS, results, Tryz.results48]
theorem viewOf (B : Base) (H : List Res) (w : World) (v t m s p wb : Nat) (va : Option Addr) (vc : Nat) (sv : Value) (clk : Int) (es : List (List UInt8 × Value)) (M : List (List UInt8 × Ver)) (key : List UInt8) (kind : Int) (hM : VM B es M) (hv : Inv B (Res.cell v [.iface 36 (vP t)] 107 :: txR t m s p wb va vc sv clk es :: H) w) :
  Calls Tryz.prog 27 #[vP v, vS key, vI kind] w fun e w' => ∃ C y p' t' z' ec, B.Le C ∧ e = .returned (.tuple #[.agg (verCells y p' t' z').toArray, vI ec]) ∧ ValAt C y.val p' t' z' ∧ OfI M clk key kind y ec ∧ Inv C (Res.cell v [.iface 36 (vP t)] 107 :: txR t m s p wb va vc sv clk es :: H) w' := by
 refine (callsIn_wide (n := 5)).1 (callsIn_of_wp_defers Tryz.func27 rfl trivial ?_)
 simp only [Tryz.ntmps27, List.size_toArray, List.length_cons, List.length_nil, Nat.reduceAdd, Nat.reduceSub, Array.replicate_succ, Array.replicate_zero, List.push_toArray, List.append_toArray, List.nil_append, List.cons_append]
 refine sK fun _ k1 => rL (sl_alloc tV (wn rfl) rfl hv v1al45 (fun b2 w3 hv => ?_))
 refine sl_alloc tV (wn rfl) rfl hv v1al26 (fun b4 w5 hv => ?_)
 refine uW k1 (sK fun _ k6 => ?_)
 refine rL (uG (.func (.func 48) #[] #[vP b2, vP b4]) rfl (ex_makeFunc (c' := #[vP b2, vP b4]) rfl (by simp only [List.map_toArray, List.map_nil]) (by simp only [List.map_toArray, List.map_cons, List.map_nil]; rfl)) ?_)
 refine wpi_defer tV rfl (wn rfl) rfl rfl (uW k6 ?_)
 refine sK fun _ k7 => rL (uM rfl ?_)
 refine uG (vP v) rfl (ex_nil rfl rfl) ?_
 refine uF (vP v) rfl (v1fa107_0 _ _ _) ?_
 refine uL _ rfl (run_load1 v1na105 (hv.load 2 0 rfl rfl)) (uM rfl ?_)
 replace hv := hv.front 3 rfl
 simp only [eS, eZ] at hv
 refine wpi_callI v1callable116 tV wideC rfl (wn rfl) rfl rfl (r := vP t) (fun w => by kernel_rfl) (args := #[vS key]) (by simp only [List.map_toArray, List.map_cons, List.map_nil]; rfl) ((txnGet B _ _ t m s p wb va vc sv clk es M key hM hv).mono ?_)
 rintro e w8 ⟨C, x, xp, xt, xz, ok, hBC, rfl, hget, hxv, hv⟩
 refine ⟨_, rfl, ?_⟩
 rcases hget with ⟨rfl, hlk, hal⟩ | ⟨rfl, hx0, hdead⟩
 ·refine uM rfl (uE rfl ?_)
  refine uE rfl ?_
  refine sl_alloc tV (wn rfl) rfl hv v1al45 (fun b9 w10 hv => ?_)
  refine xS 0 rfl hv x0sz45 rfl (by exact ⟨rfl, rfl, rfl, rfl, rfl, hxv.p.one, hxv.t.one, hxv.z.one, trivial⟩) (fun w11 hv => ?_)
  simp only [zO, sp] at hv
  refine uA rfl (uW k7 ?_)
  refine sK fun _ k12 => sK fun _ k13 => rL (uM rfl ?_)
  refine uG (.bool false) rfl (ex_not rfl rfl rfl) (uW k13 ?_)
  refine cF rfl (kS ?_)
  refine tK k12 (sK fun _ k14 => ?_)
  refine sK fun _ k15 => rL (uF (.pointer (some ⟨b9, 3, none⟩)) rfl (x2fa45_3 _ _ _) ?_)
  refine uF (.pointer (some ⟨b9, 3, none⟩)) rfl (s12fa43_0 _ _ _) ?_
  refine uL _ rfl (run_load1 s2na3 (hv.load 0 3 rfl rfl)) (uM rfl ?_)
  by_cases hb16 : x.val.kind ≠ kind
  ·refine uG (.bool true) rfl (ex_neq rfl rfl rfl (qT hb16)) (uW k15 ?_)
   refine cT rfl (sK fun _ k17 => ?_)
   refine rL (uG (.agg #[vI 0, .bool false, vI 0, vI 0, vS [], vN, vN, vN]) rfl (ex_buildN (vs := #[]) rfl (by simp only [List.map_toArray, List.map_nil]) (by kernel_rfl)) ?_)
   refine xS 3 rfl hv x0sz45 rfl (by exact ⟨rfl, rfl, rfl, rfl, rfl, rfl, rfl, rfl, trivial⟩) (fun w18 hv => ?_)
   simp only [zS, zO, sp] at hv
   refine xV 2 (vI 40) rfl hv v1sz26 rfl rfl (fun w19 hv => ?_)
   simp only [zS, zO, sp] at hv
   refine uW k17 (rR ?_)
   refine tR (leave_rec v1callable48 (v1rec48 _ _ _ _) (res_cells2 rfl rfl (lM 3 x0wd45 hv rfl rfl rfl rfl) rfl (run_load1 v1na26 (hv.load 2 0 rfl rfl))) ?_)
   exact ⟨_, zver0, _, _, _, 40, hBC, rfl, zver0_at _, .inr (.inl ⟨rfl, rfl, x, hlk, hal, hb16⟩), (hv.kp [1, 4] 2 3)⟩
  refine uG (.bool false) rfl (ex_neq rfl rfl rfl (qF hb16)) (uW k15 ?_)
  refine cF rfl (kS ?_)
  refine tK k14 (sK fun _ k20 => ?_)
  refine rL (uF (.pointer (some ⟨b9, 3, none⟩)) rfl (x2fa45_3 _ _ _) ?_)
  refine uL (.agg #[vI x.val.kind, vS x.val.text, xp, xt, xz]) rfl (lM 0 s1wd43 hv rfl rfl rfl rfl) ?_
  refine xC x2callable26 rfl ((valueClone _ _ _ x.val xp xt xz (hxv.more (Base.Le.refl _)) hv).mono ?_) rfl
  rintro e w25 ⟨C21, p22, t23, z24, hC21, rfl, hp22, hv⟩
  refine ⟨_, rfl, uF (.pointer (some ⟨b9, 3, none⟩)) rfl (x2fa45_3 _ _ _) ?_⟩
  refine xS 0 rfl hv s1sz43 rfl (by exact ⟨rfl, rfl, hp22.p.one, hp22.t.one, hp22.z.one, trivial⟩) (fun w26 hv => ?_)
  simp only [zO, sp] at hv
  refine uW k20 (sK fun _ k27 => ?_)
  refine rL (uL (.agg #[vI x.stamp, .bool x.gone, vI x.expire, vI x.val.kind, vS x.val.text, p22, t23, z24]) rfl (lM 0 x0wd45 hv rfl rfl rfl rfl) ?_)
  refine xS 3 rfl hv x0sz45 rfl (by exact ⟨rfl, rfl, rfl, rfl, rfl, hp22.p.one, hp22.t.one, hp22.z.one, trivial⟩) (fun w28 hv => ?_)
  simp only [zS, zO, sp] at hv
  refine xV 2 (vI 0) rfl hv v1sz26 rfl rfl (fun w29 hv => ?_)
  simp only [zS, zO, sp] at hv
  refine uW k27 (rR ?_)
  refine leave_rec v1callable48 (v1rec48 _ _ _ _) (res_cells2 rfl rfl (lM 3 x0wd45 hv rfl rfl rfl rfl) rfl (run_load1 v1na26 (hv.load 2 0 rfl rfl))) (⟨_, x, _, _, _, 0, (hBC.trans hC21), rfl, hp22, .inr (.inr ⟨rfl, hlk, hal, by omega⟩), (hv.kp [1, 4] 2 3)⟩)
 refine uM rfl (uE rfl ?_)
 refine uE rfl ?_
 refine sl_alloc tV (wn rfl) rfl hv v1al45 (fun b30 w31 hv => ?_)
 refine xS 0 rfl hv x0sz45 rfl (by exact ⟨rfl, rfl, rfl, rfl, rfl, hxv.p.one, hxv.t.one, hxv.z.one, trivial⟩) (fun w32 hv => ?_)
 simp only [zO, sp] at hv
 refine uA rfl (uW k7 ?_)
 refine sK fun _ k33 => sK fun _ k34 => rL (uM rfl ?_)
 refine uG (.bool true) rfl (ex_not rfl rfl rfl) (uW k34 ?_)
 refine cT rfl (sK fun _ k35 => ?_)
 refine rL (uG (.agg #[vI 0, .bool false, vI 0, vI 0, vS [], vN, vN, vN]) rfl (ex_buildN (vs := #[]) rfl (by simp only [List.map_toArray, List.map_nil]) (by kernel_rfl)) ?_)
 refine xS 3 rfl hv x0sz45 rfl (by exact ⟨rfl, rfl, rfl, rfl, rfl, rfl, rfl, rfl, trivial⟩) (fun w36 hv => ?_)
 simp only [zS, zO, sp] at hv
 refine xV 2 (vI 0) rfl hv v1sz26 rfl rfl (fun w37 hv => ?_)
 simp only [zS, zO, sp] at hv
 refine uW k35 (rR ?_)
 refine tR (leave_rec v1callable48 (v1rec48 _ _ _ _) (res_cells2 rfl rfl (lM 3 x0wd45 hv rfl rfl rfl rfl) rfl (run_load1 v1na26 (hv.load 2 0 rfl rfl))) ?_)
 exact ⟨_, zver0, _, _, _, 0, hBC, rfl, zver0_at _, .inl ⟨rfl, rfl, hdead⟩, (hv.kp [1, 4] 2 3)⟩
end Go.Proofs.YtanfkicimnfgjaaGreatDoor
namespace Go.Pm
open Go.RowKit
section
variable {P : Program} {a : Act} {w : World} {o : Oper} {t : TypeId} {x y : Operand} {l : List UInt8}
theorem ex_sidx0 {i : Nat} {c : UInt8} (ht : P.underlying t = some .string) (ho : o.op = .index t x y) (hx : a.eval x = .string ⟨l.toArray⟩) (hy : a.eval y = .int .i64 (i : Int)) (hc : l[i]? = some c) : Ex P a o w (.int .u8 (c.toNat : Int)) w := by
 obtain ⟨hi, rfl⟩ := List.getElem?_eq_some_iff.1 hc
 have h := run_index_string (P := P) w t ⟨l.toArray⟩ .i64 (i : Int) ht
 rw [dif_pos ⟨by omega, by show (i : Int) < (l.length : Int); omega⟩] at h
 have e : (⟨l.toArray⟩ : ByteArray)[((i : Int)).toNat]'(by show ((i : Int)).toNat < l.length; omega) = l[i] := rfl
 rw [e] at h
 unfold Ex
 simp [execOp, ho, hx, hy, h]
end
section
variable {a b : List UInt8} {i : Nat}
end
end Go.Pm
namespace Go.Proofs.YtanfkicimnfgjaaGreatDoor
open Go.RowKit Go.Pm
def lowZ (n : Int) : Int := if 65 ≤ n ∧ n ≤ 90 then n + 32 else n
def SameC (x arg : List UInt8) : Prop := x.length = arg.length ∧ ∀ (k : Nat) (a b : UInt8), x[k]? = some a → arg[k]? = some b → lowZ (a.toNat : Int) = lowZ (b.toNat : Int)
def IsI (arg : List UInt8) (ws : List (List UInt8)) (r : Int) : Prop := (r = -1 ∧ ∀ x ∈ ws, ¬ SameC x arg) ∨ ∃ (i : Nat) (x : List UInt8), r = (i : Int) ∧ ws[i]? = some x ∧ SameC x arg ∧ ∀ (j : Nat) y, j < i → ws[j]? = some y → ¬ SameC y arg
theorem viewLow (B : Base) (H : List Res) (w : World) (n : Int) (h0 : 0 ≤ n) (h1 : n ≤ 255) (hv : Inv B H w) :
  Calls Tryz.prog 28 #[.int .u8 n] w fun e w' => e = .returned (.int .u8 (lowZ n)) ∧ Inv B H w' := by
 refine cW Tryz.func28 rfl Tryz.ntmps28 ?_
 simp only [al]
 refine sK fun _ k1 => rL (uA rfl ?_)
 refine uW k1 (sK fun _ k2 => ?_)
 refine sK fun _ k3 => rL (uM rfl ?_)
 by_cases hb4 : 65 ≤ n
 ·refine uG (.bool true) rfl (ex_leq rfl rfl rfl (qT hb4)) (uM rfl ?_)
  refine uM rfl ?_
  by_cases hb5 : n ≤ 90
  ·refine uG (.bool true) rfl (ex_leq rfl rfl rfl (qT hb5)) (uK rfl ?_)
   refine uW k3 (cT rfl ?_)
   refine sK fun _ k6 => rL (uM rfl ?_)
   refine uG (.int .u8 (n + 97)) rfl (ex_add rfl rfl rfl (u8_in (by omega))) ?_
   refine uG (.int .u8 (n + 32)) rfl (ex_sub rfl rfl rfl (by rw [u8_in (by omega)]; omega)) (uA rfl ?_)
   refine uW k6 (rR ?_)
   refine tR (bR rfl rfl ?_)
   exact ⟨congrArg (fun n : Int => Ending.returned (Value.int .u8 n)) (by unfold lowZ; split <;> omega), hv⟩
  refine uG (.bool false) rfl (ex_leq rfl rfl rfl (qF hb5)) (uK rfl ?_)
  refine uW k3 (cF rfl ?_)
  refine kS (tK k2 ?_)
  refine sK fun _ k7 => rL (uM rfl ?_)
  refine uA rfl (uW k7 ?_)
  refine rR (bR rfl rfl ?_)
  exact ⟨congrArg (fun n : Int => Ending.returned (Value.int .u8 n)) (by unfold lowZ; split <;> omega), hv⟩
 refine uG (.bool false) rfl (ex_leq rfl rfl rfl (qF hb4)) (uM rfl ?_)
 refine uP rfl ?_
 refine uP rfl (uK rfl ?_)
 refine uW k3 (cF rfl ?_)
 refine kS (tK k2 ?_)
 refine sK fun _ k8 => rL (uM rfl ?_)
 refine uA rfl (uW k8 ?_)
 refine rR (bR rfl rfl ?_)
 exact ⟨congrArg (fun n : Int => Ending.returned (Value.int .u8 n)) (by unfold lowZ; split <;> omega), hv⟩
theorem v5callable28 : Callable Tryz.prog 28 := cb Tryz.func28 (by kernel_rfl)
theorem viewIs (B : Base) (H : List Res) (w : World) (arg : List UInt8) (ka : Option Addr) (kc : Nat) (ws : List (List UInt8)) (hr : RdV B [] ka (textCells ws)) (hm : ws.length ≤ 1000000) (hma : arg.length ≤ 9223372036854775807) (hv : Inv B H w) :
  Calls Tryz.prog 12 #[vS arg, .slice ka ws.length kc] w fun e w' => ∃ r : Int, e = .returned (vI r) ∧ IsI arg ws r ∧ Inv B H w' := by
 refine cW Tryz.func12 rfl Tryz.ntmps12 ?_
 simp only [al]
 refine sK fun _ k1 => rL (uA rfl ?_)
 refine uW k1 (wpIn_scopeW ?_)
 refine sK fun _ k2 => wpIn_label (tK k2 ?_)
 refine sK fun _ k3 => sK fun _ k4 => rL (uM rfl ?_)
 refine uG (vI (ws.length : Int)) rfl (ex_len0 Tryz.underlying22 rfl rfl) (uM rfl ?_)
 refine uW k4 (bB ?_)
 gi_loopw [10] (fun x10 wr => ∃ (i : Nat), x10 = vI i ∧ i ≤ ws.length ∧ (∀ (j : Nat) y, j < i → ws[j]? = some y → ¬ SameC y arg) ∧ Inv B H wr) (fun x10 _ => ws.length - (intOf x10).toNat)
 case atStart => exact ⟨0, rfl, Nat.zero_le _, fun j y h => by omega, hv⟩
 case round =>
  obtain ⟨i, rfl, hi, hno, hv⟩ := hrel
  refine sK fun _ k6 => rL ?_
  by_cases hb7 : (i : Int) < (ws.length : Int)
  ·refine uG (.bool true) rfl (ex_lss rfl rfl rfl (qT hb7)) (uW k6 ?_)
   refine sK fun _ k8 => cT rfl (kS ?_)
   refine tK k8 (sK fun _ k9 => ?_)
   refine bB (sK fun _ k10 => ?_)
   obtain ⟨x, hx⟩ : ∃ x, ws[i]? = some x := ⟨_, List.getElem?_eq_getElem (show i < ws.length by omega)⟩
   obtain ⟨bb, bo, had, hrdx⟩ := text_reads hr hx
   subst had
   refine rL (uM rfl ?_)
   refine uG (.pointer (some ⟨bb, bo + i, none⟩)) rfl (ex_index rfl rfl rfl (run_idx1 (k := i) Tryz.underlying22 s9es22 (by omega))) ?_
   refine uL _ rfl (run_load1 s9na9 (hrdx _ _ _ (Base.Le.refl _) no_res hv 0 _ rfl)) (uA rfl ?_)
   refine uA rfl (uW k10 ?_)
   refine sK fun _ k11 => sK fun _ k12 => rL (uM rfl ?_)
   refine uG (vI (x.length : Int)) rfl (ex_lenStr Tryz.underlying9 rfl rfl) (uM rfl ?_)
   refine uG (vI (arg.length : Int)) rfl (ex_lenStr Tryz.underlying9 rfl rfl) ?_
   by_cases hb13 : (x.length : Int) ≠ (arg.length : Int)
   ·refine uG (.bool true) rfl (ex_neq rfl rfl rfl (qT hb13)) (uW k12 ?_)
    refine cT rfl (xE ?_)
    refine tX (bH ?_)
    refine tK k9 (rL ?_)
    refine uG (vI ((i + 1 : Nat) : Int)) rfl (ex_add rfl rfl rfl (by rw [i64_in (by omega)]; omega)) (uM rfl ?_)
    refine uZ (then_normal ?_)
    go_roundw
    case rel => exact ⟨i + 1, rfl, by omega, fun j9 y9 hj9 hy9 => (by
       rcases Nat.lt_or_ge j9 i with h | h
       ·exact hno j9 y9 h hy9
       obtain rfl : j9 = i := by omega
       rw [hx] at hy9; cases hy9
       exact fun h => by have h9 := h.1; omega), hv⟩
    case measure => show ws.length - (((i + 1 : Nat) : Int)).toNat < ws.length - ((i : Int)).toNat; omega
   refine uG (.bool false) rfl (ex_neq rfl rfl rfl (qF hb13)) (uW k12 ?_)
   refine cF rfl (kS ?_)
   refine tK k11 (sK fun _ k14 => ?_)
   refine sK fun _ k15 => rL (uM rfl ?_)
   refine uG (vI (x.length : Int)) rfl (ex_lenStr Tryz.underlying9 rfl rfl) (uM rfl ?_)
   refine uW k15 (bB ?_)
   gi_loopw [22] (fun x22 wr => ∃ (j : Nat), x22 = vI j ∧ j ≤ x.length ∧ (∀ (k : Nat) (a b : UInt8), k < j → x[k]? = some a → arg[k]? = some b → lowZ (a.toNat : Int) = lowZ (b.toNat : Int)) ∧ Inv B H wr) (fun x22 _ => x.length - (intOf x22).toNat)
   case atStart => exact ⟨0, rfl, Nat.zero_le _, fun k a b h => by omega, hv⟩
   case round =>
    obtain ⟨j, rfl, hj, heq, hv⟩ := hrel
    refine sK fun _ k17 => rL ?_
    by_cases hb18 : (j : Int) < (x.length : Int)
    ·refine uG (.bool true) rfl (ex_lss rfl rfl rfl (qT hb18)) (uW k17 ?_)
     refine sK fun _ k19 => cT rfl (kS ?_)
     refine tK k19 (sK fun _ k20 => ?_)
     refine bB (sK fun _ k21 => ?_)
     refine rL (uM rfl ?_)
     refine uA rfl (uW k21 ?_)
     refine sK fun _ k22 => ?_
     obtain ⟨a, ha⟩ : ∃ y, x[j]? = some y := ⟨_, List.getElem?_eq_getElem (show j < x.length by omega)⟩
     obtain ⟨b, hb⟩ : ∃ y, arg[j]? = some y := ⟨_, List.getElem?_eq_getElem (show j < arg.length by omega)⟩
     refine rW mixed [3, 7] [0,1,2,4,5,6,3,7,8] 37 rfl (by kernel_rfl) hv ?_
     simp only [qm, opAt]
     refine dM (vS x) rfl (dM (vI j) rfl ?_)
     refine dG (.int .u8 (a.toNat : Int)) rfl (ex_sidx0 Tryz.underlying9 rfl rfl rfl ha) ?_
     simp only [zP, po]
     refine dM (vS arg) rfl (dM (vI j) rfl ?_)
     refine dG (.int .u8 (b.toNat : Int)) rfl (ex_sidx0 Tryz.underlying9 rfl rfl rfl hb) ?_
     simp only [zP, po]
     refine dS rfl fun w23 hv => mC v5callable28 rfl ((viewLow B _ _ (a.toNat : Int) (by omega) (by have := a.toNat_lt; omega) hv).mono ?_) rfl
     rintro e w24 ⟨rfl, hv⟩
     refine ⟨_, rfl, dW hv ?_⟩
     refine dS rfl fun w25 hv => mC v5callable28 rfl ((viewLow B _ _ (b.toNat : Int) (by omega) (by have := b.toNat_lt; omega) hv).mono ?_) rfl
     rintro e w26 ⟨rfl, hv⟩
     refine ⟨_, rfl, dW hv ?_⟩
     by_cases hb27 : (lowZ (a.toNat : Int)) ≠ (lowZ (b.toNat : Int))
     ·refine dG (.bool true) rfl (ex_neq rfl rfl rfl (qT hb27)) (dE fun w28 hv => ?_)
      simp only [zP, po]
      refine tK k22 (cT rfl ?_)
      refine xE (bM rfl ?_)
      refine tX (tX ?_)
      refine bM rfl (tX ?_)
      refine bH (tK k9 ?_)
      refine rL (uG (vI ((i + 1 : Nat) : Int)) rfl (ex_add rfl rfl rfl (by rw [i64_in (by omega)]; omega)) ?_)
      refine uM rfl (uZ ?_)
      refine then_normal ?_
      go_roundw
      case rel => exact ⟨i + 1, rfl, by omega, fun j9 y9 hj9 hy9 => (by
         rcases Nat.lt_or_ge j9 i with h | h
         ·exact hno j9 y9 h hy9
         obtain rfl : j9 = i := by omega
         rw [hx] at hy9; cases hy9
         exact fun h => hb27 (h.2 j a b ha hb)), hv⟩
      case measure => show ws.length - (((i + 1 : Nat) : Int)).toNat < ws.length - ((i : Int)).toNat; omega
     refine dG (.bool false) rfl (ex_neq rfl rfl rfl (qF hb27)) (dE fun w29 hv => ?_)
     simp only [zP, po]
     refine tK k22 (cF rfl ?_)
     refine kS (bN ?_)
     refine tK k20 (rL ?_)
     refine uG (vI ((j + 1 : Nat) : Int)) rfl (ex_add rfl rfl rfl (by rw [i64_in (by omega)]; omega)) (uM rfl ?_)
     refine uZ (then_normal ?_)
     go_roundw
     case rel => exact ⟨j + 1, rfl, by omega, fun k9 a9 b9 hk9 ha9 hb9 => (by
        rcases Nat.lt_or_ge k9 j with h | h
        ·exact heq k9 a9 b9 h ha9 hb9
        obtain rfl : k9 = j := by omega
        rw [ha] at ha9; cases ha9
        rw [hb] at hb9; cases hb9
        omega), hv⟩
     case measure => show x.length - (((j + 1 : Nat) : Int)).toNat < x.length - ((j : Int)).toNat; omega
    refine uG (.bool false) rfl (ex_lss rfl rfl rfl (qF hb18)) (uW k17 ?_)
    refine sK fun _ k30 => cF rfl (xE ?_)
    refine tX (tX ?_)
    refine bH (tK k14 ?_)
    refine sK fun _ k31 => rL (uM rfl ?_)
    refine uA rfl (uW k31 ?_)
    refine rR (bZ ?_)
    refine tR (tR ?_)
    refine bZ (tR ?_)
    refine scope_ret (bR rfl rfl ?_)
    exact ⟨_, rfl, .inr ⟨i, x, rfl, hx, ⟨by omega, fun k9 a9 b9 ha9 hb9 => heq k9 a9 b9 (by have := (List.getElem?_eq_some_iff.1 ha9).1; omega) ha9 hb9⟩, hno⟩, hv⟩
  refine uG (.bool false) rfl (ex_lss rfl rfl rfl (qF hb7)) (uW k6 ?_)
  refine sK fun _ k32 => cF rfl (xE ?_)
  refine tX (tX ?_)
  refine bH (tK k3 ?_)
  refine sK fun _ k33 => rL (uA rfl ?_)
  refine uW k33 (rR ?_)
  refine scope_ret (bR rfl rfl ?_)
  obtain rfl : i = ws.length := by omega
  exact ⟨_, rfl, .inl ⟨rfl, fun y hy => (by obtain ⟨j9, hj9⟩ := List.mem_iff_getElem?.1 hy; exact hno j9 y (List.getElem?_eq_some_iff.1 hj9).1 hj9)⟩, hv⟩
end Go.Proofs.YtanfkicimnfgjaaGreatDoor
namespace Go.Pm
open Go.RowKit
section
variable {P : Program} {t e : TypeId} {w : World}
end
section
variable {P : Program} {ops : Array Oper} {Q : Exit → Act → World → Prop} {a : Act} {w : World} {o : Oper} {B : Base} {H : List Res} {t e u : TypeId} {x y : Operand} {size : Nat} {J : List Value → World → Prop} {vals : List Value}
end
end Go.Pm
namespace Go.Proofs.YtanfkicimnfgjaaGreatDoor
open Go.RowKit Go.Pm
theorem viewNew (B : Base) (H : List Res) (w : World) (t : Nat) (hv : Inv B H w) :
  Calls Tryz.prog 23 #[.iface 36 (vP t)] w fun e w' => ∃ v, e = .returned (.tuple #[vP v, vI 0]) ∧ Inv B (Res.cell v [.iface 36 (vP t)] 107 :: H) w' := by
 refine cW Tryz.func23 rfl Tryz.ntmps23 ?_
 simp only [al]
 refine sK fun _ k1 => rL (uA rfl ?_)
 refine uA rfl (uW k1 ?_)
 refine sK fun _ k2 => sK fun _ k3 => rL (uM rfl ?_)
 refine uG (.bool false) rfl (ex_ifnil Tryz.underlying105 rfl rfl rfl) (uW k3 ?_)
 refine cF rfl (kS ?_)
 refine tK k2 (sK fun _ k4 => ?_)
 refine rL (uM rfl ?_)
 refine uG (.agg #[.iface 36 (vP t)]) rfl (ex_buildN (vs := #[(0, .iface 36 (vP t))]) rfl (by simp only [List.map_toArray, List.map_cons, List.map_nil]; rfl) (by kernel_rfl)) ?_
 refine sl_box (L := [.iface 36 (vP t)]) tV (wn rfl) rfl rfl hv (fun w => by kernel_rfl) (fun b5 w6 hv => ?_)
 refine uA rfl (uA rfl ?_)
 refine uW k4 (rR ?_)
 refine bodyPost_ret (results_tmp2 rfl _ _ _) rfl (⟨_, rfl, hv⟩)
theorem v6callable20 : Callable Tryz.prog 20 := cb Tryz.func20 (by kernel_rfl)
theorem v6callable19 : Callable Tryz.prog 19 := cb Tryz.func19 (by kernel_rfl)
theorem v6callable21 : Callable Tryz.prog 21 := cb Tryz.func21 (by kernel_rfl)
theorem v6callable22 : Callable Tryz.prog 22 := cb Tryz.func22 (by kernel_rfl)
theorem v6callable23 : Callable Tryz.prog 23 := cb Tryz.func23 (by kernel_rfl)
theorem lawOpened20 (B : Base) (H : List Res) (w : World) (now : Int) (h0 : 0 ≤ now) (h1 : now ≤ 1099511627776) (hv : Inv B H w) :
  Calls Tryz.prog 9 #[vI now] w fun e w' => ∃ v t m s p wb va vc sv, e = .returned (.tuple #[vP v, vP t]) ∧ Inv B (Res.cell v [.iface 36 (vP t)] 107 :: txR t m s p wb va vc sv now [] :: H) w' := by
 refine cW Tryz.func9 rfl Tryz.ntmps9 ?_
 simp only [al]
 refine sK fun _ k1 => rL (uA rfl ?_)
 refine uA rfl (uW k1 ?_)
 refine sK fun _ k2 => rL (xC v6callable20 rfl ((storeNew0 B _ _ hv).mono ?_) rfl)
 rintro e w3 ⟨s, p, rfl, hv⟩
 refine ⟨_, rfl, uG (.agg #[]) rfl (ex_buildN (vs := #[]) rfl (by simp only [List.map_toArray, List.map_nil]) (by kernel_rfl)) ?_⟩
 refine uG (.iface 65 (.agg #[])) rfl (ex_iface Tryz.underlying65 (fun _ h => by cases h) rfl rfl) ?_
 refine xC v6callable19 rfl ((txnNew0 B _ _ s 65 (.agg #[]) hv).mono ?_) rfl
 rintro e w4 ⟨m, rfl, hv⟩
 refine ⟨_, rfl, ?_⟩
 obtain ⟨sv, hsv⟩ : ∃ sv, sv = Value.iface 65 (.agg #[]) := ⟨_, rfl⟩
 rw [← hsv] at hv
 refine uM rfl (uE rfl ?_)
 refine uE rfl (uA rfl ?_)
 refine uA rfl (uW k2 ?_)
 refine sK fun _ k5 => sK fun _ k6 => rL (uM rfl ?_)
 refine uG (.bool false) rfl (ex_pisnil Tryz.underlying59 rfl rfl rfl rfl) (uW k6 ?_)
 refine cF rfl (kS ?_)
 refine tK k5 (sK fun _ k7 => ?_)
 refine rL (uM rfl ?_)
 refine uM rfl ?_
 refine xC v6callable21 rfl ((txnTick0 B _ _ m s sv now h0 h1 hv).mono ?_) rfl
 rintro e w8 ⟨r9, rfl, hv⟩
 refine ⟨_, rfl, uW k7 ?_⟩
 refine sK fun _ k9 => rL (uM rfl ?_)
 replace hv := hv.front 2 rfl
 simp only [eS, eZ] at hv
 replace hv := hv.front 2 rfl
 simp only [eS, eZ] at hv
 replace hv := hv.front 2 rfl
 simp only [eS, eZ] at hv
 refine xC v6callable22 rfl ((txnBegin B _ _ m s p sv now hv).mono ?_) rfl
 rintro e w10 ⟨t, wb, va, vc, rfl, hv⟩
 refine ⟨_, rfl, uM rfl ?_⟩
 refine uE rfl (uE rfl ?_)
 refine uA rfl (uA rfl ?_)
 refine uW k9 (sK fun _ k11 => ?_)
 refine sK fun _ k12 => rL (uM rfl ?_)
 refine uG (.bool false) rfl (ex_pisnil Tryz.underlying36 rfl rfl rfl rfl) (uW k12 ?_)
 refine cF rfl (kS ?_)
 refine tK k11 (sK fun _ k13 => ?_)
 refine rL (uM rfl ?_)
 refine uG (.iface 36 (vP t)) rfl (ex_iface Tryz.underlying36 (fun _ h => by cases h) rfl rfl) ?_
 refine xC v6callable23 rfl ((viewNew B _ _ t hv).mono ?_) rfl
 rintro e w14 ⟨v, rfl, hv⟩
 refine ⟨_, rfl, uM rfl ?_⟩
 refine uE rfl (uE rfl ?_)
 refine uA rfl (uA rfl ?_)
 refine uW k13 (sK fun _ k15 => ?_)
 refine rL (uM rfl ?_)
 refine uM rfl (uA rfl ?_)
 refine uA rfl (uW k15 ?_)
 refine rR (bodyPost_ret (results_tmp2 rfl _ _ _) rfl ?_)
 exact ⟨v, t, m, s, p, wb, va, vc, sv, rfl, hv⟩
theorem v6al45 : AL Tryz.prog 45 [vI 0, .bool false, vI 0, vI 0, vS [], vN, vN, vN] := fun w => by kernel_rfl
theorem v6callable27 : Callable Tryz.prog 27 := cb Tryz.func27 (by kernel_rfl)
theorem viewText (B : Base) (H : List Res) (w : World) (v t m s p wb : Nat) (va : Option Addr) (vc : Nat) (sv : Value) (clk : Int) (es : List (List UInt8 × Value)) (M : List (List UInt8 × Ver)) (key : List UInt8) (hM : VM B es M) (hv : Inv B (Res.cell v [.iface 36 (vP t)] 107 :: txR t m s p wb va vc sv clk es :: H) w) :
  Calls Tryz.prog 11 #[vP v, vS key] w fun e w' => ∃ C y p' t' z' ec, B.Le C ∧ e = .returned (.tuple #[.agg (verCells y p' t' z').toArray, vI ec]) ∧ ValAt C y.val p' t' z' ∧ OfI M clk key 1 y ec ∧ Inv C (Res.cell v [.iface 36 (vP t)] 107 :: txR t m s p wb va vc sv clk es :: H) w' := by
 refine cW Tryz.func11 rfl Tryz.ntmps11 ?_
 simp only [al]
 refine sK fun _ k1 => rL (sl_alloc tV (wn rfl) rfl hv v6al45 (fun b2 w3 hv => ?_))
 refine uA rfl (uW k1 ?_)
 refine sK fun _ k4 => rL (uM rfl ?_)
 refine uM rfl ?_
 replace hv := hv.front 2 rfl
 simp only [eS, eZ] at hv
 replace hv := hv.front 2 rfl
 simp only [eS, eZ] at hv
 refine xC v6callable27 rfl ((viewOf B _ _ v t m s p wb va vc sv clk es M key 1 hM hv).mono ?_) rfl
 rintro e w5 ⟨C, y, yp, yt, yz, ec, hC, rfl, hyv, hof, hv⟩
 refine ⟨_, rfl, uE rfl ?_⟩
 refine uE rfl ?_
 refine xS 2 rfl hv x0sz45 rfl (by exact ⟨rfl, rfl, rfl, rfl, rfl, hyv.p.one, hyv.t.one, hyv.z.one, trivial⟩) (fun w6 hv => ?_)
 simp only [zS, zO, sp] at hv
 refine uA rfl (uW k4 ?_)
 refine rR (bodyPost_ret (res_cell2 rfl rfl (lM 2 x0wd45 hv rfl rfl rfl rfl)) rfl ?_)
 exact ⟨C, y, _, _, _, ec, hC, rfl, hyv, hof, (hv.kp [1, 1] 2 1)⟩
theorem sameC_of {x arg : List UInt8} (h : (x.map fun c => lowZ (c.toNat : Int)) = arg.map fun c => lowZ (c.toNat : Int)) : SameC x arg := by
 refine ⟨by simpa using congrArg List.length h, fun k a b ha hb => ?_⟩
 have h2 := congrArg (fun l => l[k]?) h
 simpa [ha, hb] using h2
theorem isI_one {r : Int} (h : IsI [119, 73, 116, 72, 115, 67, 111, 82, 101, 83] [[76, 73, 77, 73, 84], [87, 73, 84, 72, 83, 67, 79, 82, 69, 83]] r) : r = 1 := by
 have hs : SameC ([87, 73, 84, 72, 83, 67, 79, 82, 69, 83] : List UInt8) [119, 73, 116, 72, 115, 67, 111, 82, 101, 83] := sameC_of (by decide)
 have hn : ¬ SameC ([76, 73, 77, 73, 84] : List UInt8) [119, 73, 116, 72, 115, 67, 111, 82, 101, 83] := fun h => by have := h.1; simp at this
 rcases h with ⟨-, h⟩ | ⟨i, x, rfl, hx, h1, h2⟩
 ·exact absurd hs (h _ (by simp))
 match i, hx with
 | 0, hx => simp at hx; subst hx; exact absurd h1 hn
 | 1, _ => rfl
 | i + 2, hx => simp at hx
def lval : Val := ⟨3, [], [], [[120]], []⟩
theorem lput_ok : PutOk [108] lval 0 := ⟨by decide, .inr (.inr (.inl (by unfold lval; simp [listRight]))), by omega, by omega⟩
theorem v7callable9 : Callable Tryz.prog 9 := cb Tryz.func9 (by kernel_rfl)
theorem v7mk9 : (Tryz.prog.info? 9).map (fun i => (i.zero, i.size, i.bytes)) = some (some (vS []), 1, 16) := by kernel_rfl
theorem v7el22 : Elem Tryz.prog 22 9 (vS []) 1 16 := elem_of Tryz.underlying22 v7mk9 (by rfl) (by decide)
theorem v7callable10 : Callable Tryz.prog 10 := cb Tryz.func10 (by kernel_rfl)
theorem v7callable11 : Callable Tryz.prog 11 := cb Tryz.func11 (by kernel_rfl)
theorem v7al45 : AL Tryz.prog 45 [vI 0, .bool false, vI 0, vI 0, vS [], vN, vN, vN] := fun w => by kernel_rfl
theorem v7callable12 : Callable Tryz.prog 12 := cb Tryz.func12 (by kernel_rfl)
theorem lawAwake20 (B : Base) (H : List Res) (w : World) (hv : Inv B H w) :
  Calls Tryz.prog 4 #[] w fun e w' => e = .returned (.bool true) ∧ Inv B H w' := by
 refine cW Tryz.func4 rfl Tryz.ntmps4 ?_
 simp only [al]
 refine sK fun _ k1 => rL (uA rfl ?_)
 refine uW k1 (sK fun _ k2 => ?_)
 refine rL (xC v7callable9 rfl ((lawOpened20 B _ _ 0 (by omega) (by omega) hv).mono ?_) rfl)
 rintro e w3 ⟨v, t, m, s, p, wb, va, vc, sv, rfl, hv⟩
 refine ⟨_, rfl, uM rfl ?_⟩
 refine uE rfl (uE rfl ?_)
 refine uA rfl (uA rfl ?_)
 refine uW k2 (sK fun _ k4 => ?_)
 refine sK fun _ k5 => rL (uM rfl ?_)
 refine uG (.bool false) rfl (ex_pisnil Tryz.underlying35 rfl rfl rfl rfl) (uM rfl ?_)
 refine uM rfl ?_
 refine sl_rowOne (v := vS [120]) tV (wanted_of (j := 2) (d := 11) (b := false) rfl rfl rfl) rfl rfl hv v7el22 rfl (fun b6 w7 hv => ?_)
 refine uG (.agg #[vI 3, vS [], vN, .slice (some ⟨b6, 0, none⟩) 1 1, vN]) rfl (ex_buildN (vs := #[(0, vI 3), (3, .slice (some ⟨b6, 0, none⟩) 1 1)]) rfl (by simp only [List.map_toArray, List.map_cons, List.map_nil]; rfl) (by kernel_rfl)) ?_
 obtain ⟨C, hC, hv, hrk, hok, -⟩ := (hv.cellRow (n := 1) (c := 1) (size := 1) rfl (by decide) (by decide)).rowBy
 have hval : ValAt C lval (vN) (.slice (some ⟨b6, 0, none⟩) 1 1) (vN) := ⟨row_nil0 C, ⟨_, _, rfl, hok, hrk⟩, row_nil0 C, by decide, by decide, by decide⟩
 replace hv := hv.front 1 rfl
 simp only [eS, eZ] at hv
 refine xC v7callable10 rfl ((txnPut C _ _ t m s p wb va vc sv 0 [] [] [108] lval _ _ _ 0 trivial hval hv).mono ?_) rfl
 rintro e w8 ⟨D, es2, ec, hD, rfl, hput, hv⟩
 refine ⟨_, rfl, ?_⟩
 obtain ⟨rfl, hM2⟩ : ec = 0 ∧ VM D es2 (updA [] [108] ⟨0, false, 0, lval⟩) := by
  rcases hput with ⟨h1, -, h2⟩ | ⟨-, h1, -⟩
  ·exact ⟨h1, h2⟩
  exact absurd lput_ok h1
 refine uG (.bool false) rfl (ex_neq rfl rfl rfl (by decide)) (uK rfl ?_)
 refine uW k5 (cF rfl ?_)
 refine kS (tK k4 ?_)
 refine sK fun _ k9 => rL (uM rfl ?_)
 replace hv := hv.front 1 rfl
 simp only [eS, eZ] at hv
 refine xC v7callable11 rfl ((viewText D _ _ v t m s p wb va vc sv 0 es2 _ [108] hM2 hv).mono ?_) rfl
 rintro e w10 ⟨E, y, yp, yt, yz, ec2, hE, rfl, hyv, hof, hv⟩
 refine ⟨_, rfl, ?_⟩
 obtain rfl : ec2 = 40 := by
  have hl : lookA (updA [] [108] (⟨0, false, 0, lval⟩ : Ver)) [108] = some ⟨0, false, 0, lval⟩ := by rw [look_upd, if_pos rfl]
  rcases hof with ⟨-, -, h⟩ | ⟨h, -⟩ | ⟨-, h, -, h2⟩
  ·have := h _ hl; cases this
  ·exact h
  rw [hl] at h; cases h; exact absurd h2 (by decide)
 refine uM rfl (uE rfl ?_)
 refine uE rfl ?_
 refine sl_alloc tV (wn rfl) rfl hv v7al45 (fun b11 w12 hv => ?_)
 simp only [zP, po]
 refine xS 0 rfl hv x0sz45 rfl (by exact ⟨rfl, rfl, rfl, rfl, rfl, hyv.p.one, hyv.t.one, hyv.z.one, trivial⟩) (fun w13 hv => ?_)
 simp only [zO, sp] at hv
 refine uA rfl (uW k9 ?_)
 refine sK fun _ k14 => rL (uM rfl ?_)
 refine uG (.bool true) rfl (ex_eql rfl rfl rfl (by decide)) (uM rfl ?_)
 refine sl_rowN (pv := #[(0, vS [76, 73, 77, 73, 84]), (1, vS [87, 73, 84, 72, 83, 67, 79, 82, 69, 83])]) (L := [vS [76, 73, 77, 73, 84], vS [87, 73, 84, 72, 83, 67, 79, 82, 69, 83]]) (e := 9) tV (wanted_of (j := 2) (d := 25) (b := true) rfl rfl rfl) rfl (by simp only [List.map_toArray, List.map_cons, List.map_nil]; rfl) hv (fun w => by kernel_rfl) (fun b15 w16 hv => ?_)
 obtain ⟨G, hG, hv, hrk2, -, -⟩ := (hv.cellRow (n := 2) (c := 2) (size := 1) rfl (by decide) (by decide)).rowBy
 refine xC v7callable12 rfl ((viewIs G _ _ [119, 73, 116, 72, 115, 67, 111, 82, 101, 83] _ 2 [[76, 73, 77, 73, 84], [87, 73, 84, 72, 83, 67, 79, 82, 69, 83]] hrk2 (by simp) (by simp) hv).mono ?_) rfl
 rintro e w17 ⟨r, rfl, his, hv⟩
 refine ⟨_, rfl, ?_⟩
 obtain rfl := isI_one his
 refine uG (.bool true) rfl (ex_eql rfl rfl rfl (by decide)) (uK rfl ?_)
 refine uA rfl (uW k14 ?_)
 refine rR (bR rfl rfl ?_)
 exact ⟨rfl, ((hv.kp [] 0 3)).weak (((hC.trans hD).trans hE).trans hG)⟩
end Go.Proofs.YtanfkicimnfgjaaGreatDoor
namespace Go.Pm
open Go.Lib
theorem parseUint10_append {r : List UInt8} : ∀ (l : List UInt8) (a b : Nat), parseUint10 a l = .ok b → parseUint10 a (l ++ r) = parseUint10 b r
 | [], a, b, h => by
  simp only [parseUint10, NumEnd.ok.injEq] at h
  subst h; rfl
 | c :: l, a, b, h => by
  simp only [parseUint10] at h
  simp only [List.cons_append, parseUint10]
  split at h
  ·rename_i h1
   rw [if_pos h1]
   split at h
   ·cases h
   rename_i h2
   rw [if_neg h2]
   split at h
   ·cases h
   rename_i h3
   rw [if_neg h3]
   exact parseUint10_append l _ b h
  cases h
theorem dig_toNat {d : Nat} (h : d < 10) : (UInt8.ofNat (48 + d)).toNat = 48 + d := by
 rw [UInt8.toNat_ofNat']
 exact Nat.mod_eq_of_lt (by omega)
theorem parse_dec (u : Nat) (h : u < 18446744073709551616) : parseUint10 0 (decDigits u) = .ok u := by
 induction u using Nat.strongRecOn with
 | _ u ih =>
  rw [decDigits]
  split
  ·rename_i h1
   simp only [parseUint10, dig_toNat h1]
   rw [if_pos (by omega), if_neg (by omega), if_neg (by omega)]
   congr 1
   omega
  rename_i h1
  rw [parseUint10_append _ 0 (u / 10) (ih (u / 10) (by omega) (by omega))]
  have hd : u % 10 < 10 := Nat.mod_lt _ (by omega)
  simp only [parseUint10, dig_toNat hd]
  rw [if_pos (by omega), if_neg (by omega), if_neg (by omega)]
  congr 1
  omega
theorem dec_bytes (u : Nat) : ∀ c ∈ decDigits u, 48 ≤ c.toNat ∧ c.toNat ≤ 57 := by
 induction u using Nat.strongRecOn with
 | _ u ih =>
  intro c hc
  rw [decDigits] at hc
  split at hc
  ·rename_i h1
   simp only [List.mem_singleton] at hc
   subst hc
   rw [dig_toNat h1]; omega
  rename_i h1
  rcases List.mem_append.1 hc with hc | hc
  ·exact ih (u / 10) (by omega) c hc
  simp only [List.mem_singleton] at hc
  subst hc
  rw [dig_toNat (Nat.mod_lt _ (by omega))]; omega
theorem dec_ne (u : Nat) : decDigits u ≠ [] := by
 rw [decDigits]
 split <;> simp
theorem parseMag_dec (u : Nat) (h : u < 18446744073709551616) : parseMag (decDigits u) = .ok u := by
 unfold parseMag
 rw [if_neg (dec_ne u), parse_dec u h]
theorem parse_itoa (n : Int) (h0 : -9223372036854775808 ≤ n) (h1 : n ≤ 9223372036854775807) : parseIntB 64 (itoa n) = .ok n := by
 rw [parseIntB_64]
 unfold itoa
 split
 ·rename_i hn
  have h45 : (45 : UInt8).toNat = 45 := rfl
  simp only [atoiAll, h45]
  rw [if_pos (by simp), parseMag_dec _ (by omega)]
  simp only [not_true_eq_false, false_and, if_false, true_and, if_true]
  rw [if_neg (by omega)]
  congr 1
  omega
 rename_i hn
 have hm := parseMag_dec n.toNat (by omega)
 have hb := dec_bytes n.toNat
 cases hl : decDigits n.toNat with
 | nil => exact absurd hl (dec_ne _)
 | cons c r =>
  rw [hl] at hm hb
  have hc := hb c (by simp)
  have h43 : ¬ c.toNat = 43 := by omega
  have h45 : ¬ c.toNat = 45 := by omega
  simp only [atoiAll, h43, h45, or_self, if_false, hm, not_false_eq_true, true_and, false_and]
  rw [if_neg (by omega)]
  congr 1
  omega
theorem nDigits_le : ∀ (k u : Nat), u < 10 ^ (k + 1) → nDigits u ≤ k + 1
 | 0, u, h => by rw [nDigits_small (by simpa using h)]; exact Nat.le_refl _
 | k + 1, u, h => by
  by_cases hu : u < 10
  ·rw [nDigits_small hu]; omega
  rw [nDigits_big hu]
  have := nDigits_le k (u / 10) (by rw [Nat.pow_succ] at h; omega)
  omega
theorem itoa_length (n : Int) (h0 : -9223372036854775808 ≤ n) (h1 : n ≤ 9223372036854775807) : 1 ≤ (itoa n).length ∧ (itoa n).length ≤ 20 := by
 have hp : (10 : Nat) ^ 19 = 10000000000000000000 := by decide
 unfold itoa
 split
 ·have := nDigits_le 18 n.natAbs (by rw [hp]; omega)
  simp only [List.length_cons, decDigits_length]; omega
 have := nDigits_le 18 n.toNat (by rw [hp]; omega)
 have := nDigits_pos n.toNat
 rw [decDigits_length]; omega
end Go.Pm
namespace Go.Proofs.YtanfkicimnfgjaaGreatDoor
open Go.RowKit Go.Pm
theorem u64_mod (n : Int) : IntKind.u64.wrap n = n % 18446744073709551616 := by simp [IntKind.wrap, IntKind.signed, IntKind.bits]
theorem u64_neg (n : Int) (h0 : -9223372036854775808 ≤ n) (h1 : n < 0) : IntKind.u64.wrap (-(n % 18446744073709551616)) = (n.natAbs : Int) := by
 rw [u64_mod]; omega
theorem ex_neg64 {P : Program} {o : Oper} {a : Act} {w : World} {t : TypeId} {x : Operand} {m s : Int} (ho : o.op = .unOp .neg t x) (hx : a.eval x = .int .u64 m) (hs : IntKind.u64.wrap (-m) = s) : Ex P a o w (.int .u64 s) w := by
 subst hs; unfold Ex; simp [execOp, ho, hx, Op.unary, Op.intArith]
theorem rem10 (u : Nat) : ((u : Int)).tmod 10 = ((u % 10 : Nat) : Int) := by rw [Int.tmod_eq_emod_of_nonneg (by omega)]; omega
theorem quo10 (u : Nat) (h : u ≤ 9223372036854775808) : IntKind.u64.wrap ((u : Int).tdiv 10) = ((u / 10 : Nat) : Int) := by
 rw [Int.tdiv_eq_ediv_of_nonneg (by omega), u64_in (by omega)]; omega
theorem dec_big (u : Nat) (h : ¬ u < 10) : Lib.decDigits u = Lib.decDigits (u / 10) ++ [UInt8.ofNat (48 + u % 10)] := by rw [Lib.decDigits, dif_neg h]
theorem dec_small (u : Nat) (h : u < 10) : Lib.decDigits u = [UInt8.ofNat (48 + u % 10)] := by rw [Lib.decDigits, dif_pos h, Nat.mod_eq_of_lt h]
theorem dec_len (u : Nat) (h : u ≤ 9223372036854775808) : (Lib.decDigits u).length ≤ 19 := by
 have hp : (10 : Nat) ^ 19 = 10000000000000000000 := by decide
 rw [Lib.decDigits_length]
 exact nDigits_le 18 u (by rw [hp]; omega)
theorem u8_dig (u : Nat) : IntKind.u8.wrap ((48 + u % 10 : Nat) : Int) = ((UInt8.ofNat (48 + u % 10)).toNat : Int) := by
 rw [dig_toNat (Nat.mod_lt _ (by decide)), u8_in (by omega)]
theorem prmk5 : (Tryz.prog.info? 5).map (fun i => (i.zero, i.size, i.bytes)) = some (some (.int .u8 0), 1, 1) := by kernel_rfl
theorem prel81 : Elem Tryz.prog 81 5 (.int .u8 0) 1 1 := elem_of Tryz.underlying81 prmk5 (by rfl) (by decide)
theorem refPrint (B : Base) (H : List Res) (w : World) (n : Int) (h0 : -9223372036854775808 ≤ n) (h1 : n ≤ 9223372036854775807) (hv : Inv B H w) :
  Calls Tryz.prog 51 #[vI n] w fun e w' => e = .returned (vS (Lib.itoa n)) ∧ Inv B H w' := by
 refine cW Tryz.func51 rfl Tryz.ntmps51 ?_
 simp only [al]
 refine sK fun _ k1 => rL (uA rfl ?_)
 refine uW k1 (sK fun _ k2 => ?_)
 refine rL (uM rfl ?_)
 refine uG (.int .u64 (n % 18446744073709551616)) rfl (ex_int Tryz.underlying3 Tryz.underlying84 rfl rfl (u64_mod n)) (uA rfl ?_)
 refine uW k2 (sK fun _ k3 => ?_)
 refine rL (uA rfl ?_)
 refine uW k3 (sK fun _ k4 => ?_)
 refine sK fun _ k5 => rL (uM rfl ?_)
 by_cases hb6 : n < 0
 ·refine uG (.bool true) rfl (ex_lss rfl rfl rfl (qT hb6)) (uW k5 ?_)
  refine cT rfl (sK fun _ k7 => ?_)
  refine rL (uM rfl ?_)
  refine uG (.int .u64 (n.natAbs : Int)) rfl (ex_neg64 (m := (n % 18446744073709551616)) rfl rfl (u64_neg n h0 (by assumption))) (uA rfl ?_)
  refine uW k7 (rL ?_)
  refine uA rfl (uW k4 ?_)
  refine sK fun _ k8 => rL (uA rfl ?_)
  refine uW k8 (bB ?_)
  gi_loopw [3, 5] (fun x3 x5 wr => ∃ (u : Nat) (s : List UInt8), x3 = .int .u64 (u : Int) ∧ x5 = vS s ∧ Lib.decDigits n.natAbs = Lib.decDigits u ++ s ∧ u ≤ 9223372036854775808 ∧ Inv B H wr) (fun x3 x5 _ => (intOf x3).toNat)
  case atStart => exact ⟨n.natAbs, [], congrArg (Value.int .u64) (by omega), rfl, by simp, by omega, hv⟩
  case round =>
   obtain ⟨u, s, rfl, rfl, hd, hu, hv⟩ := hrel
   have hsl : s.length ≤ 19 := by have h9 := dec_len n.natAbs (by omega); rw [hd, List.length_append] at h9; omega
   refine bB (sK fun _ k10 => ?_)
   refine rL (uM rfl ?_)
   refine uG (.int .u64 ((u % 10 : Nat) : Int)) rfl (ex_rem (m := (u : Int)) (n := 10) rfl rfl rfl (by decide) (rem10 u)) ?_
   refine uG (.int .u64 ((48 + u % 10 : Nat) : Int)) rfl (ex_add rfl rfl rfl (by rw [u64_in (by omega)]; omega)) ?_
   refine uG (.int .u8 ((UInt8.ofNat (48 + u % 10)).toNat : Int)) rfl (ex_int Tryz.underlying84 Tryz.underlying5 rfl rfl (u8_dig u)) ?_
   refine sl_rowOne (v := .int .u8 ((UInt8.ofNat (48 + u % 10)).toNat : Int)) tV (wn rfl) rfl rfl hv prel81 rfl (fun b11 w12 hv => ?_)
   refine uG (.string ⟨[UInt8.ofNat (48 + u % 10)].toArray⟩) rfl (ex_str Tryz.underlying81 Tryz.underlying5 Tryz.underlying9 rfl rfl (bytes_all (l := [UInt8.ofNat (48 + u % 10)]) (hv.get 0 rfl)) (rfl)) (uM rfl ?_)
   refine uG (vS ([UInt8.ofNat (48 + u % 10)] ++ s)) rfl (ex_cat rfl rfl rfl (by simp only [List.length_cons, List.length_nil]; omega)) (uA rfl ?_)
   refine uW k10 (sK fun _ k13 => ?_)
   refine rL (uM rfl ?_)
   refine uG (.int .u64 ((u / 10 : Nat) : Int)) rfl (ex_quo (m := (u : Int)) (n := 10) rfl rfl rfl (by decide) (quo10 u hu)) (uA rfl ?_)
   refine uW k13 (sK fun _ k14 => ?_)
   refine rL (uM rfl ?_)
   by_cases hb15 : ((u / 10 : Nat) : Int) = 0
   ·refine uG (.bool true) rfl (ex_eql rfl rfl rfl (qT hb15)) (uW k14 ?_)
    refine cT rfl (sK fun _ k16 => ?_)
    refine rL (uM rfl ?_)
    refine uM rfl ?_
    refine uG (vS (([45] : List UInt8) ++ ([UInt8.ofNat (48 + u % 10)] ++ s))) rfl (ex_cat rfl rfl rfl (by simp only [List.length_append, List.length_cons, List.length_nil]; omega)) (uA rfl ?_)
    refine uW k16 (rR ?_)
    refine bZ (tR ?_)
    refine bZ (bR rfl rfl ?_)
    have hs : Lib.itoa n = ([45] : List UInt8) ++ ([UInt8.ofNat (48 + u % 10)] ++ s) := by
      unfold Lib.itoa
      rw [if_pos (by assumption)]
      rw [hd, dec_small u (by omega)]; simp
    rw [hs]; exact ⟨rfl, hv.drop⟩
   refine uG (.bool false) rfl (ex_eql rfl rfl rfl (qF hb15)) (uW k14 ?_)
   refine cF rfl (kS ?_)
   refine bN (then_normal ?_)
   go_roundw
   case rel => exact ⟨u / 10, [UInt8.ofNat (48 + u % 10)] ++ s, rfl, rfl, by rw [hd, dec_big u (by omega)]; simp, by omega, hv.drop⟩
   case measure => show (((u / 10 : Nat) : Int)).toNat < ((u : Int)).toNat; omega
 refine uG (.bool false) rfl (ex_lss rfl rfl rfl (qF hb6)) (uW k5 ?_)
 refine cF rfl (kS ?_)
 refine tK k4 (sK fun _ k17 => ?_)
 refine rL (uA rfl ?_)
 refine uW k17 (bB ?_)
 gi_loopw [3, 5] (fun x3 x5 wr => ∃ (u : Nat) (s : List UInt8), x3 = .int .u64 (u : Int) ∧ x5 = vS s ∧ Lib.decDigits n.natAbs = Lib.decDigits u ++ s ∧ u ≤ 9223372036854775808 ∧ Inv B H wr) (fun x3 x5 _ => (intOf x3).toNat)
 case atStart => exact ⟨n.natAbs, [], congrArg (Value.int .u64) (by omega), rfl, by simp, by omega, hv⟩
 case round =>
  obtain ⟨u, s, rfl, rfl, hd, hu, hv⟩ := hrel
  have hsl : s.length ≤ 19 := by have h9 := dec_len n.natAbs (by omega); rw [hd, List.length_append] at h9; omega
  refine bB (sK fun _ k19 => ?_)
  refine rL (uM rfl ?_)
  refine uG (.int .u64 ((u % 10 : Nat) : Int)) rfl (ex_rem (m := (u : Int)) (n := 10) rfl rfl rfl (by decide) (rem10 u)) ?_
  refine uG (.int .u64 ((48 + u % 10 : Nat) : Int)) rfl (ex_add rfl rfl rfl (by rw [u64_in (by omega)]; omega)) ?_
  refine uG (.int .u8 ((UInt8.ofNat (48 + u % 10)).toNat : Int)) rfl (ex_int Tryz.underlying84 Tryz.underlying5 rfl rfl (u8_dig u)) ?_
  refine sl_rowOne (v := .int .u8 ((UInt8.ofNat (48 + u % 10)).toNat : Int)) tV (wn rfl) rfl rfl hv prel81 rfl (fun b20 w21 hv => ?_)
  refine uG (.string ⟨[UInt8.ofNat (48 + u % 10)].toArray⟩) rfl (ex_str Tryz.underlying81 Tryz.underlying5 Tryz.underlying9 rfl rfl (bytes_all (l := [UInt8.ofNat (48 + u % 10)]) (hv.get 0 rfl)) (rfl)) (uM rfl ?_)
  refine uG (vS ([UInt8.ofNat (48 + u % 10)] ++ s)) rfl (ex_cat rfl rfl rfl (by simp only [List.length_cons, List.length_nil]; omega)) (uA rfl ?_)
  refine uW k19 (sK fun _ k22 => ?_)
  refine rL (uM rfl ?_)
  refine uG (.int .u64 ((u / 10 : Nat) : Int)) rfl (ex_quo (m := (u : Int)) (n := 10) rfl rfl rfl (by decide) (quo10 u hu)) (uA rfl ?_)
  refine uW k22 (sK fun _ k23 => ?_)
  refine rL (uM rfl ?_)
  by_cases hb24 : ((u / 10 : Nat) : Int) = 0
  ·refine uG (.bool true) rfl (ex_eql rfl rfl rfl (qT hb24)) (uW k23 ?_)
   refine cT rfl (sK fun _ k25 => ?_)
   refine rL (uM rfl ?_)
   refine uM rfl ?_
   refine uG (vS (([] : List UInt8) ++ ([UInt8.ofNat (48 + u % 10)] ++ s))) rfl (ex_cat rfl rfl rfl (by simp only [List.length_append, List.length_cons, List.length_nil]; omega)) (uA rfl ?_)
   refine uW k25 (rR ?_)
   refine bZ (tR ?_)
   refine bZ (bR rfl rfl ?_)
   have hs : Lib.itoa n = ([] : List UInt8) ++ ([UInt8.ofNat (48 + u % 10)] ++ s) := by
     unfold Lib.itoa
     rw [if_neg (by assumption), show n.toNat = n.natAbs by omega]
     rw [hd, dec_small u (by omega)]; simp
   rw [hs]; exact ⟨rfl, hv.drop⟩
  refine uG (.bool false) rfl (ex_eql rfl rfl rfl (qF hb24)) (uW k23 ?_)
  refine cF rfl (kS ?_)
  refine bN (then_normal ?_)
  go_roundw
  case rel => exact ⟨u / 10, [UInt8.ofNat (48 + u % 10)] ++ s, rfl, rfl, by rw [hd, dec_big u (by omega)]; simp, by omega, hv.drop⟩
  case measure => show (((u / 10 : Nat) : Int)).toNat < ((u : Int)).toNat; omega
end Go.Proofs.YtanfkicimnfgjaaGreatDoor
namespace Go.Pm
open Go.Lib
def numD (l : List UInt8) : Nat := l.foldl (fun a c => a * 10 + (c.toNat - 48)) 0
theorem numD_snoc (l : List UInt8) (c : UInt8) : numD (l ++ [c]) = numD l * 10 + (c.toNat - 48) := by simp [numD]
theorem numD_dec (u : Nat) : numD (decDigits u) = u := by
 induction u using Nat.strongRecOn with
 | _ u ih =>
  rw [decDigits]
  split
  ·rename_i h1
   rw [show [UInt8.ofNat (48 + u)] = [] ++ [UInt8.ofNat (48 + u)] from rfl, numD_snoc, dig_toNat h1]
   simp [numD]
  rename_i h1
  rw [numD_snoc, ih (u / 10) (by omega), dig_toNat (Nat.mod_lt _ (by omega))]
  omega
theorem itoa_at {s : List UInt8} {m : Int} (h : s = itoa m) {c : UInt8} (hc : s[0]? = some c) : (c.toNat = 45 ∧ m < 0 ∧ s.drop 1 = decDigits m.natAbs) ∨ (c.toNat ≠ 45 ∧ 0 ≤ m ∧ s = decDigits m.toNat) := by
 unfold itoa at h
 split at h
 ·rename_i hm
  subst h
  simp at hc
  subst hc
  exact .inl ⟨rfl, hm, rfl⟩
 rename_i hm
 refine .inr ⟨?_, by omega, h⟩
 rw [h] at hc
 have := dec_bytes _ c (List.mem_of_getElem? hc)
 omega
def nU (u : Nat) : Int := if u < 9223372036854775808 then (u : Int) else (u : Int) - 18446744073709551616
theorem nU_in {u : Nat} (h : u < 18446744073709551616) : -9223372036854775808 ≤ nU u ∧ nU u ≤ 9223372036854775807 := by
 unfold nU; split <;> omega
def numOf1 (s : List UInt8) (k : Nat) : Int := if k = 1 then nU ((18446744073709551616 - numD (s.drop 1) % 18446744073709551616) % 18446744073709551616) else nU (numD (s.drop 0) % 18446744073709551616)
theorem numOf1_in (s : List UInt8) (k : Nat) : -9223372036854775808 ≤ numOf1 s k ∧ numOf1 s k ≤ 9223372036854775807 := by
 unfold numOf1; split <;> exact nU_in (Nat.mod_lt _ (by decide))
theorem numOf1_itoa {s : List UInt8} {m : Int} {k : Nat} {c : UInt8} (h : s = itoa m) (h0 : -9223372036854775808 ≤ m) (h1 : m ≤ 9223372036854775807) (hc : s[0]? = some c) (hk : (c.toNat = 45 ∧ k = 1) ∨ (c.toNat ≠ 45 ∧ k = 0)) : numOf1 s k = m := by
 rcases itoa_at h hc with ⟨h2, h3, h4⟩ | ⟨h2, h3, h4⟩
 ·obtain rfl : k = 1 := by omega
  unfold numOf1
  rw [if_pos rfl, h4, numD_dec]
  unfold nU; split <;> omega
 obtain rfl : k = 0 := by omega
 unfold numOf1
 rw [if_neg (by decide), List.drop_zero, h4, numD_dec]
 unfold nU; split <;> omega
theorem itoa_dig {s : List UInt8} {m : Int} {k i : Nat} {c d : UInt8} (h : s = itoa m) (hc : s[0]? = some c) (hk : (c.toNat = 45 ∧ k = 1) ∨ (c.toNat ≠ 45 ∧ k = 0)) (hi : k ≤ i) (hd : s[i]? = some d) : 48 ≤ d.toNat ∧ d.toNat ≤ 57 := by
 rcases itoa_at h hc with ⟨h2, h3, h4⟩ | ⟨h2, h3, h4⟩
 ·obtain rfl : k = 1 := by omega
  refine dec_bytes m.natAbs d ?_
  rw [← h4]
  have : (s.drop 1)[i - 1]? = some d := by rw [List.getElem?_drop, show 1 + (i - 1) = i by omega]; exact hd
  exact List.mem_of_getElem? this
 refine dec_bytes m.toNat d ?_
 rw [← h4]
 exact List.mem_of_getElem? hd
theorem numD_step {s : List UInt8} {k i : Nat} {d : UInt8} (hk : k ≤ i) (hd : s[i]? = some d) : numD ((s.take (i + 1)).drop k) = numD ((s.take i).drop k) * 10 + (d.toNat - 48) := by
 obtain ⟨hi, rfl⟩ := List.getElem?_eq_some_iff.1 hd
 rw [List.take_succ_eq_append_getElem hi, List.drop_append_of_le_length (by rw [List.length_take]; omega), numD_snoc]
end Go.Pm
namespace Go.Proofs
open Go.Shelf
def Tryz.laysPI_ren : Go.Shelf.Ren := ⟨fun | 174 => 49 | 247 => 63 | 245 => 64 | 287 => 74 | 279 => 75 | 280 => 76 | 281 => 77 | 282 => 78 | 321 => 82 | 322 => 83 | 316 => 84 | 171 => 86 | 205 => 85 | 243 => 91 | 246 => 79 | 283 => 87 | 284 => 88 | 285 => 89 | 286 => 90 | 129 => 93 | 317 => 92 | 318 => 94 | 319 => 95 | 320 => 96 | 337 => 97 | 338 => 98 | n => n, fun | 9 => 9 | 3 => 3 | 2 => 2 | 75 => 123 | 85 => 124 | 4 => 4 | 167 => 152 | 5 => 5 | 53 => 84 | 175 => 153 | 46 => 155 | 168 => 156 | 37 => 81 | 0 => 0 | 210 => 161 | 21 => 21 | 127 => 168 | 145 => 171 | 143 => 169 | 171 => 163 | 173 => 166 | 212 => 173 | 51 => 174 | 20 => 20 | 213 => 175 | 232 => 178 | 233 => 179 | 80 => 180 | n => n, fun | 15 => 0 | 16 => 1 | 17 => 2 | 18 => 3 | 19 => 4 | n => n⟩
theorem Tryz.laysPI : Go.Proofs.LaysC.n174 Tryz.prog Tryz.laysPI_ren := {
 mixed := by kernel_rfl
 f129 := Tryz.func93.trans (congrArg some (by kernel_rfl))
 f171 := Tryz.func86.trans (congrArg some (by kernel_rfl))
 f174 := Tryz.func49.trans (congrArg some (by kernel_rfl))
 f205 := Tryz.func85.trans (congrArg some (by kernel_rfl))
 f243 := Tryz.func91.trans (congrArg some (by kernel_rfl))
 f245 := Tryz.func64.trans (congrArg some (by kernel_rfl))
 f246 := Tryz.func79.trans (congrArg some (by kernel_rfl))
 f247 := Tryz.func63.trans (congrArg some (by kernel_rfl))
 f279 := Tryz.func75.trans (congrArg some (by kernel_rfl))
 f280 := Tryz.func76.trans (congrArg some (by kernel_rfl))
 f281 := Tryz.func77.trans (congrArg some (by kernel_rfl))
 f282 := Tryz.func78.trans (congrArg some (by kernel_rfl))
 f283 := Tryz.func87.trans (congrArg some (by kernel_rfl))
 f284 := Tryz.func88.trans (congrArg some (by kernel_rfl))
 f285 := Tryz.func89.trans (congrArg some (by kernel_rfl))
 f286 := Tryz.func90.trans (congrArg some (by kernel_rfl))
 f287 := Tryz.func74.trans (congrArg some (by kernel_rfl))
 f316 := Tryz.func84.trans (congrArg some (by kernel_rfl))
 f317 := Tryz.func92.trans (congrArg some (by kernel_rfl))
 f318 := Tryz.func94.trans (congrArg some (by kernel_rfl))
 f319 := Tryz.func95.trans (congrArg some (by kernel_rfl))
 f320 := Tryz.func96.trans (congrArg some (by kernel_rfl))
 f321 := Tryz.func82.trans (congrArg some (by kernel_rfl))
 f322 := Tryz.func83.trans (congrArg some (by kernel_rfl))
 f337 := Tryz.func97.trans (congrArg some (by kernel_rfl))
 f338 := Tryz.func98.trans (congrArg some (by kernel_rfl))
 t0 := Tryz.underlying0
 a0 := Tryz.isAgg0
 z0 := Tryz.sizeOf0
 v0 := Tryz.zeroValue0
 t2 := Tryz.underlying2
 a2 := Tryz.isAgg2
 z2 := Tryz.sizeOf2
 v2 := Tryz.zeroValue2
 t3 := Tryz.underlying3
 a3 := Tryz.isAgg3
 z3 := Tryz.sizeOf3
 v3 := Tryz.zeroValue3
 t4 := Tryz.underlying4
 a4 := Tryz.isAgg4
 z4 := Tryz.sizeOf4
 v4 := Tryz.zeroValue4
 t5 := Tryz.underlying5
 a5 := Tryz.isAgg5
 z5 := Tryz.sizeOf5
 v5 := Tryz.zeroValue5
 t9 := Tryz.underlying9
 a9 := Tryz.isAgg9
 z9 := Tryz.sizeOf9
 v9 := Tryz.zeroValue9
 t20 := Tryz.underlying20
 a20 := Tryz.isAgg20
 z20 := Tryz.sizeOf20
 v20 := Tryz.zeroValue20
 t21 := Tryz.underlying21
 a21 := Tryz.isAgg21
 z21 := Tryz.sizeOf21
 v21 := Tryz.zeroValue21
 t37 := Tryz.underlying81
 a37 := Tryz.isAgg81
 z37 := Tryz.sizeOf81
 v37 := Tryz.zeroValue81
 t46 := Tryz.underlying155
 a46 := Tryz.isAgg155
 z46 := Tryz.sizeOf155
 v46 := Tryz.zeroValue155
 t51 := Tryz.underlying174
 a51 := Tryz.isAgg174
 z51 := Tryz.sizeOf174
 v51 := Tryz.zeroValue174
 t53 := Tryz.underlying84
 a53 := Tryz.isAgg84
 z53 := Tryz.sizeOf84
 v53 := Tryz.zeroValue84
 t75 := Tryz.underlying123
 a75 := Tryz.isAgg123
 z75 := Tryz.sizeOf123
 v75 := Tryz.zeroValue123
 t85 := Tryz.underlying124
 a85 := Tryz.isAgg124
 z85 := Tryz.sizeOf124
 v85 := Tryz.zeroValue124
 t127 := Tryz.underlying168
 a127 := Tryz.isAgg168
 z127 := Tryz.sizeOf168
 v127 := Tryz.zeroValue168
 t143 := Tryz.underlying169
 a143 := Tryz.isAgg169
 z143 := Tryz.sizeOf169
 v143 := Tryz.zeroValue169
 t145 := Tryz.underlying171
 a145 := Tryz.isAgg171
 z145 := Tryz.sizeOf171
 v145 := Tryz.zeroValue171
 t167 := Tryz.underlying152
 a167 := Tryz.isAgg152
 z167 := Tryz.sizeOf152
 v167 := Tryz.zeroValue152
 t168 := Tryz.underlying156
 a168 := Tryz.isAgg156
 z168 := Tryz.sizeOf156
 v168 := Tryz.zeroValue156
 t171 := Tryz.underlying163
 a171 := Tryz.isAgg163
 z171 := Tryz.sizeOf163
 v171 := Tryz.zeroValue163
 t173 := Tryz.underlying166
 a173 := Tryz.isAgg166
 z173 := Tryz.sizeOf166
 v173 := Tryz.zeroValue166
 t175 := Tryz.underlying153
 a175 := Tryz.isAgg153
 z175 := Tryz.sizeOf153
 v175 := Tryz.zeroValue153
 t210 := Tryz.underlying161
 a210 := Tryz.isAgg161
 z210 := Tryz.sizeOf161
 v210 := Tryz.zeroValue161
 t212 := Tryz.underlying173
 a212 := Tryz.isAgg173
 z212 := Tryz.sizeOf173
 v212 := Tryz.zeroValue173
 t213 := Tryz.underlying175
 a213 := Tryz.isAgg175
 z213 := Tryz.sizeOf175
 t232 := Tryz.underlying178
 a232 := Tryz.isAgg178
 z232 := Tryz.sizeOf178
 v232 := Tryz.zeroValue178
 t233 := Tryz.underlying179
 a233 := Tryz.isAgg179
 z233 := Tryz.sizeOf179
 v233 := Tryz.zeroValue179
 g15 := by kernel_rfl
 g16 := by kernel_rfl
 g17 := by kernel_rfl
 g18 := by kernel_rfl
 g19 := by kernel_rfl
 t80 := Tryz.underlying180
 a80 := Tryz.isAgg180
 z80 := Tryz.sizeOf180
 v80 := Tryz.zeroValue180
 i0 := by kernel_rfl
 i2 := by kernel_rfl
 i3 := by kernel_rfl
 i4 := by kernel_rfl
 i5 := by kernel_rfl
 i9 := by kernel_rfl
 i20 := by kernel_rfl
 i21 := by kernel_rfl
 i37 := by kernel_rfl
 i46 := by kernel_rfl
 i51 := by kernel_rfl
 i53 := by kernel_rfl
 i75 := by kernel_rfl
 i80 := by kernel_rfl
 i85 := by kernel_rfl
 i127 := by kernel_rfl
 i143 := by kernel_rfl
 i145 := by kernel_rfl
 i167 := by kernel_rfl
 i168 := by kernel_rfl
 i171 := by kernel_rfl
 i173 := by kernel_rfl
 i175 := by kernel_rfl
 i210 := by kernel_rfl
 i212 := by kernel_rfl
 i232 := by kernel_rfl
 i233 := by kernel_rfl
 m15 := by kernel_rfl
 m16 := by kernel_rfl
 m17 := by kernel_rfl
 m18 := by kernel_rfl
 m19 := by kernel_rfl
 c0 := by kernel_rfl
 c2 := by kernel_rfl
 c3 := by kernel_rfl
 c4 := by kernel_rfl
 c5 := by kernel_rfl
 c9 := by kernel_rfl
 c20 := by kernel_rfl
 c21 := by kernel_rfl
 c37 := by kernel_rfl
 c46 := by kernel_rfl
 c51 := by kernel_rfl
 c53 := by kernel_rfl
 c75 := by kernel_rfl
 c80 := by kernel_rfl
 c85 := by kernel_rfl
 c127 := by kernel_rfl
 c143 := by kernel_rfl
 c145 := by kernel_rfl
 c167 := by kernel_rfl
 c168 := by kernel_rfl
 c171 := by kernel_rfl
 c173 := by kernel_rfl
 c175 := by kernel_rfl
 c210 := by kernel_rfl
 c212 := by kernel_rfl
 c213 := by kernel_rfl
 c232 := by kernel_rfl
 c233 := by kernel_rfl }
def Tryz.laysFI_ren : Go.Shelf.Ren := ⟨fun | 173 => 65 | 246 => 79 | 283 => 87 | 284 => 88 | 285 => 89 | 286 => 90 | 129 => 93 | 317 => 92 | 318 => 94 | 319 => 95 | 320 => 96 | 337 => 97 | 338 => 98 | n => n, fun | 2 => 2 | 3 => 3 | 9 => 9 | 4 => 4 | 171 => 163 | 0 => 0 | 53 => 84 | 37 => 81 | 5 => 5 | 173 => 166 | 212 => 173 | 51 => 174 | 20 => 20 | 213 => 175 | 46 => 155 | 232 => 178 | 233 => 179 | n => n, fun | 17 => 2 | 18 => 3 | 19 => 4 | n => n⟩
theorem Tryz.laysFI : Go.Proofs.LaysM.n173 Tryz.prog Tryz.laysFI_ren := {
 mixed := by kernel_rfl
 f129 := Tryz.func93.trans (congrArg some (by kernel_rfl))
 f173 := Tryz.func65.trans (congrArg some (by kernel_rfl))
 f246 := Tryz.func79.trans (congrArg some (by kernel_rfl))
 f283 := Tryz.func87.trans (congrArg some (by kernel_rfl))
 f284 := Tryz.func88.trans (congrArg some (by kernel_rfl))
 f285 := Tryz.func89.trans (congrArg some (by kernel_rfl))
 f286 := Tryz.func90.trans (congrArg some (by kernel_rfl))
 f317 := Tryz.func92.trans (congrArg some (by kernel_rfl))
 f318 := Tryz.func94.trans (congrArg some (by kernel_rfl))
 f319 := Tryz.func95.trans (congrArg some (by kernel_rfl))
 f320 := Tryz.func96.trans (congrArg some (by kernel_rfl))
 f337 := Tryz.func97.trans (congrArg some (by kernel_rfl))
 f338 := Tryz.func98.trans (congrArg some (by kernel_rfl))
 t0 := Tryz.underlying0
 a0 := Tryz.isAgg0
 z0 := Tryz.sizeOf0
 v0 := Tryz.zeroValue0
 t2 := Tryz.underlying2
 a2 := Tryz.isAgg2
 z2 := Tryz.sizeOf2
 v2 := Tryz.zeroValue2
 t3 := Tryz.underlying3
 a3 := Tryz.isAgg3
 z3 := Tryz.sizeOf3
 v3 := Tryz.zeroValue3
 t4 := Tryz.underlying4
 a4 := Tryz.isAgg4
 z4 := Tryz.sizeOf4
 v4 := Tryz.zeroValue4
 t5 := Tryz.underlying5
 a5 := Tryz.isAgg5
 z5 := Tryz.sizeOf5
 v5 := Tryz.zeroValue5
 t9 := Tryz.underlying9
 a9 := Tryz.isAgg9
 z9 := Tryz.sizeOf9
 v9 := Tryz.zeroValue9
 t20 := Tryz.underlying20
 a20 := Tryz.isAgg20
 z20 := Tryz.sizeOf20
 v20 := Tryz.zeroValue20
 t37 := Tryz.underlying81
 a37 := Tryz.isAgg81
 z37 := Tryz.sizeOf81
 v37 := Tryz.zeroValue81
 t46 := Tryz.underlying155
 a46 := Tryz.isAgg155
 z46 := Tryz.sizeOf155
 v46 := Tryz.zeroValue155
 t51 := Tryz.underlying174
 a51 := Tryz.isAgg174
 z51 := Tryz.sizeOf174
 v51 := Tryz.zeroValue174
 t53 := Tryz.underlying84
 a53 := Tryz.isAgg84
 z53 := Tryz.sizeOf84
 v53 := Tryz.zeroValue84
 t171 := Tryz.underlying163
 a171 := Tryz.isAgg163
 z171 := Tryz.sizeOf163
 v171 := Tryz.zeroValue163
 t173 := Tryz.underlying166
 a173 := Tryz.isAgg166
 z173 := Tryz.sizeOf166
 v173 := Tryz.zeroValue166
 t212 := Tryz.underlying173
 a212 := Tryz.isAgg173
 z212 := Tryz.sizeOf173
 v212 := Tryz.zeroValue173
 t213 := Tryz.underlying175
 a213 := Tryz.isAgg175
 z213 := Tryz.sizeOf175
 t232 := Tryz.underlying178
 a232 := Tryz.isAgg178
 z232 := Tryz.sizeOf178
 v232 := Tryz.zeroValue178
 t233 := Tryz.underlying179
 a233 := Tryz.isAgg179
 z233 := Tryz.sizeOf179
 v233 := Tryz.zeroValue179
 g17 := by kernel_rfl
 g18 := by kernel_rfl
 g19 := by kernel_rfl
 i0 := by kernel_rfl
 i2 := by kernel_rfl
 i3 := by kernel_rfl
 i4 := by kernel_rfl
 i5 := by kernel_rfl
 i9 := by kernel_rfl
 i20 := by kernel_rfl
 i37 := by kernel_rfl
 i46 := by kernel_rfl
 i51 := by kernel_rfl
 i53 := by kernel_rfl
 i171 := by kernel_rfl
 i173 := by kernel_rfl
 i212 := by kernel_rfl
 i232 := by kernel_rfl
 i233 := by kernel_rfl
 m17 := by kernel_rfl
 m18 := by kernel_rfl
 m19 := by kernel_rfl }
end Go.Proofs
namespace Go.Proofs.YtanfkicimnfgjaaGreatDoor
open Go.RowKit Go.Pm
def FormatsInt (B : Base) (H : List Res) : Prop := ∀ (w : World) (n : Int), -9223372036854775808 ≤ n → n ≤ 9223372036854775807 → Inv B H w →
 Calls Tryz.prog 65 #[vI n, vI 10] w fun e w' => e = .returned (vS (Lib.itoa n)) ∧ Inv B H w'
theorem ex_ifaceNil {P : Program} {o : Oper} {a : Act} {w : World} {t u : TypeId} {x : Operand} {c : Value} (hu : P.underlying t = some (.interface (P.methodsAt t))) (ho : o.op = .binOp .neq t x (.const c) u) (hx : a.eval x = .nilIface) (hy : a.eval (.const c) = .nilIface) : Ex P a o w (.bool false) w := by
 have hg : (eqGuard .neq t x (.const c) .nilIface .nilIface).run P w = .ok () w := by simp [eqGuard]
 have hr : (binOp .neq t .nilIface .nilIface).run P w = .ok (.bool false) w := by simp [binOp, run_equal_nil_nil w t hu]
 unfold Ex; simp [execOp, ho, hx, hy, hg, hr]
theorem prcallable65 : Callable Tryz.prog 65 := cb Tryz.func65 (by kernel_rfl)
theorem numPrint (B : Base) (H : List Res) (hF : FormatsInt B H) (w : World) (n : Int) (h0 : -9223372036854775808 ≤ n) (h1 : n ≤ 9223372036854775807) (hv : Inv B H w) :
  Calls Tryz.prog 50 #[vI n] w fun e w' => e = .returned (vS (Lib.itoa n)) ∧ Inv B H w' := by
 refine cW Tryz.func50 rfl Tryz.ntmps50 ?_
 simp only [al]
 refine sK fun _ k1 => rL (uA rfl ?_)
 refine uW k1 (sK fun _ k2 => ?_)
 refine rL (uM rfl ?_)
 refine xC prcallable65 rfl ((hF _ n h0 h1 hv).mono ?_) rfl
 rintro e w3 ⟨rfl, hv⟩
 refine ⟨_, rfl, uA rfl ?_⟩
 refine uW k2 (rR ?_)
 refine bR rfl rfl (⟨rfl, hv⟩)
theorem bytesWorld_ext (w : World) (e : TypeId) (t : ByteArray) : Ext w (Lib.bytesWorld w e t) := by
 have h : ∀ k, k < w.heap.size → (Lib.bytesWorld w e t).heap[k]? = w.heap[k]? := by
  intro k hk
  unfold Lib.bytesWorld World.freeze
  split
  ·show (w.heap.push _)[k]? = _
   rw [Array.getElem?_push_lt hk, Array.getElem?_eq_getElem hk]
  show ((w.heap.push _).modify w.heap.size _)[k]? = _
  rw [Array.getElem?_modify, if_neg (by omega), Array.getElem?_push_lt hk, Array.getElem?_eq_getElem hk]
 have hs : w.heap.size ≤ (Lib.bytesWorld w e t).heap.size := by
  unfold Lib.bytesWorld World.freeze
  split
  ·show _ ≤ (w.heap.push _).size
   simp
  show _ ≤ ((w.heap.push _).modify _ _).size
  simp
 refine ⟨?_, ?_, ?_, hs, h⟩ <;> (unfold Lib.bytesWorld World.freeze; split <;> rfl)
theorem growN_ext (w : World) (k : Nat) (os : Array Obj) : Ext w (Go.Sort.grow (w.drewN k) os) := by
 refine ⟨rfl, rfl, rfl, ?_, fun b hb => ?_⟩
 ·show _ ≤ (w.heap ++ os).size
  simp
 show (w.heap ++ os)[b]? = _
 rw [Array.getElem?_append_left hb]
theorem tab_below {P : Program} {W w : World} {n : String} {k : IntKind} {l : List Int} (h : Lib.TabIs P W n k l) (hb : Below W.heap.size W w) : Lib.TabIs P w n k l := by
 unfold Lib.TabIs World.var? at h ⊢
 cases hg : P.globalNamed n with
 | none => rw [hg] at h; cases h
 | some g =>
  rw [hg] at h
  simp only [Option.bind_some] at h ⊢
  have hlt : g < W.heap.size := by
   rcases Nat.lt_or_ge g W.heap.size with hlt | hge
   ·exact hlt
   rw [Array.getElem?_eq_none hge] at h; cases h
  rw [hb.block g hlt]; exact h
theorem formatsInt (B : Base) (H : List Res) (W : World) (hB : (Base.of W).Le B) (ht : Lib.TabIs Tryz.prog W "internal/strconv.uint64pow10" .u64 Lib.pow10Tab) : FormatsInt B H := fun w n h0 h1 hv => by
 have h : Calls Tryz.prog 65 #[vI n, vI 10] w _ := Any.strconv_FormatInt_10 Tryz.laysFI n h0 h1 w (tab_below ht (hv.below hB))
 refine h.mono ?_
 rintro e w' ⟨rfl, k, os, rfl⟩
 exact ⟨rfl, hv.ext (growN_ext w k os)⟩
end Go.Proofs.YtanfkicimnfgjaaGreatDoor
