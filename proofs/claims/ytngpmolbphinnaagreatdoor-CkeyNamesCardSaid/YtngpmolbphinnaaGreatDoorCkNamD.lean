/- A store in which nothing is. -/
import Derived.Test.YtngpmolbphinnaaGreatDoorCkNamB
import Derived.Test.YtngpmolbphinnaaGreatDoorCkNamC
import Derived.Test.YtngpmolbphinnaaGreatDoorRows
import Derived.RecoverIn
import Derived.RegionIn
import Derived.Laws.Pointers
import Derived.TacticsInMore
import Derived.Test.YtngpmolbphinnaaGreatDoorCkNamA
import Derived.Shelf.Strconv.ParseIntPublic10
import Derived.Shelf.Strconv.Itoa4
import Derived.Ground.NamesProg
import Derived.Lib.ItoaNum
import Derived.Lib.AtoiAll
import Derived.Lib.ParseIntBTie
set_option maxRecDepth 100000
set_option maxHeartbeats 16000000
set_option synthInstance.maxSize 4096
set_option synthInstance.maxHeartbeats 400000
namespace Go.Proofs.YtngpmolbphinnaaGreatDoor
open Go.RowKit Go.Pm
theorem row_nil0 (B : Base) : RowB B (vN) 0 [] := ⟨none, 0, rfl, ⟨Nat.le_refl _, Nat.zero_le _, fun _ => rfl⟩, rdV_nil⟩
def zver0 : Ver := ⟨0, false, 0, ⟨0, [], [], [], []⟩⟩
theorem zver0_at (B : Base) : ValAt B zver0.val (vN) (vN) (vN) := ⟨row_nil0 B, row_nil0 B, row_nil0 B, by decide, by decide, by decide⟩
theorem gver_at (B : Base) : ValAt B gver.val (vN) (vN) (vN) := ⟨row_nil0 B, row_nil0 B, row_nil0 B, by decide, by decide, by decide⟩
theorem search0 (B : Base) (H : List Res) (w : World) (fv : Value) (hv : Inv B H w) :
  Calls Tryz.prog 203 #[vI 0, fv] w fun e w' => e = .returned (vI 0) ∧ Inv B H w' := by
 refine cW Tryz.func203 rfl Tryz.ntmps203 ?_
 simp only [al]
 refine sK fun _ k1 => rL (uA rfl ?_)
 refine uW k1 (sK fun _ k2 => ?_)
 refine rL (uM rfl ?_)
 refine uA rfl (uA rfl ?_)
 refine uW k2 (sK fun _ k3 => ?_)
 refine bB ?_
 gi_loopw [5, 6] (fun x5 x6 wr => x5 = vI 0 ∧ x6 = vI 0 ∧ Inv B H wr) (fun x5 x6 _ => 0)
 case atStart => exact ⟨rfl, rfl, hv⟩
 case round =>
  obtain ⟨rfl, rfl, hv⟩ := hrel
  refine sK fun _ k5 => sK fun _ k6 => rL (uM rfl ?_)
  refine uM rfl ?_
  refine uG (.bool false) rfl (ex_lss rfl rfl rfl (by decide)) (uW k6 ?_)
  refine cF rfl (xE ?_)
  refine tX (tX ?_)
  refine bH (tK k3 ?_)
  refine sK fun _ k7 => rL (uM rfl ?_)
  refine uA rfl (uW k7 ?_)
  refine rR (bR rfl rfl ?_)
  exact ⟨rfl, hv⟩
theorem x0na131 (w : World) : (isAgg 131).run Tryz.prog w = .ok false w := by kernel_rfl
theorem x0fa167_0 : FA Tryz.prog 167 0 0 := fun w b o => by kernel_rfl
theorem x0na165 (w : World) : (isAgg 165).run Tryz.prog w = .ok false w := by kernel_rfl
theorem x0callable203 : Callable Tryz.prog 203 := cb Tryz.func203 (by kernel_rfl)
theorem ixFind0 (B : Base) (H : List Res) (w : World) (p : Nat) (key : List UInt8) (hv : Inv B (Res.cell p [vN, vI 0] 167 :: H) w) :
  Calls Tryz.prog 197 #[vP p, vS key] w fun e w' => e = .returned (.tuple #[vI 0, vI 0, .bool false]) ∧ Inv B (Res.cell p [vN, vI 0] 167 :: H) w' := by
 refine cW Tryz.func197 rfl Tryz.ntmps197 ?_
 simp only [al]
 refine sK fun _ k1 => rL (sl_box (L := [vP p]) tV (wn rfl) rfl rfl hv (fun w => by kernel_rfl) (fun b2 w3 hv => ?_))
 refine sl_box (L := [vS key]) tV (wn rfl) rfl rfl hv (fun w => by kernel_rfl) (fun b4 w5 hv => ?_)
 refine uA rfl (uA rfl ?_)
 refine uA rfl (uW k1 ?_)
 refine sK fun _ k6 => rL (uL _ rfl (run_load1 x0na131 (hv.load 1 0 rfl rfl)) ?_)
 refine uG (vP p) rfl (ex_nil rfl rfl) ?_
 refine uF (vP p) rfl (x0fa167_0 _ _ _) ?_
 refine uL _ rfl (run_load1 x0na165 (hv.load 2 0 rfl rfl)) ?_
 refine uG (vI 0) rfl (ex_len0 Tryz.underlying165 rfl rfl) ?_
 refine uG (.func (.func 204) #[] #[vP b2, vP b4]) rfl (ex_makeFunc (c' := #[vP b2, vP b4]) rfl (by simp only [List.map_toArray, List.map_nil]) (by simp only [List.map_toArray, List.map_cons, List.map_nil]; rfl)) ?_
 refine xC x0callable203 rfl ((search0 B _ _ _ hv).mono ?_) rfl
 rintro e w7 ⟨rfl, hv⟩
 refine ⟨_, rfl, uA rfl ?_⟩
 refine uW k6 (sK fun _ k8 => ?_)
 refine sK fun _ k9 => rL (uM rfl ?_)
 refine uL _ rfl (run_load1 x0na131 (hv.load 1 0 rfl rfl)) ?_
 refine uG (vP p) rfl (ex_nil rfl rfl) ?_
 refine uF (vP p) rfl (x0fa167_0 _ _ _) ?_
 refine uL _ rfl (run_load1 x0na165 (hv.load 2 0 rfl rfl)) ?_
 refine uG (vI 0) rfl (ex_len0 Tryz.underlying165 rfl rfl) ?_
 refine uG (.bool true) rfl (ex_eql rfl rfl rfl (by decide)) (uW k9 ?_)
 refine cT rfl (sK fun _ k10 => ?_)
 refine rL (uM rfl ?_)
 refine uA rfl (uA rfl ?_)
 refine uA rfl (uW k10 ?_)
 refine rR (tR ?_)
 refine bodyPost_ret (results_tmp3 rfl _ _ _) rfl (⟨rfl, (hv.kp [2] 1 2)⟩)
theorem x0callable197 : Callable Tryz.prog 197 := cb Tryz.func197 (by kernel_rfl)
theorem ixGet0 (B : Base) (H : List Res) (w : World) (p : Nat) (key : List UInt8) (hv : Inv B (Res.cell p [vN, vI 0] 167 :: H) w) :
  Calls Tryz.prog 195 #[vP p, vS key] w fun e w' => e = .returned (vN) ∧ Inv B (Res.cell p [vN, vI 0] 167 :: H) w' := by
 refine cW Tryz.func195 rfl Tryz.ntmps195 ?_
 simp only [al]
 refine sK fun _ k1 => rL (uA rfl ?_)
 refine uW k1 (sK fun _ k2 => ?_)
 refine rL (uM rfl ?_)
 refine uM rfl ?_
 refine xC x0callable197 rfl ((ixFind0 B _ _ p key hv).mono ?_) rfl
 rintro e w3 ⟨rfl, hv⟩
 refine ⟨_, rfl, uM rfl ?_⟩
 refine uE rfl (uE rfl ?_)
 refine uE rfl (uA rfl ?_)
 refine uA rfl (uA rfl ?_)
 refine uW k2 (sK fun _ k4 => ?_)
 refine sK fun _ k5 => rL (uM rfl ?_)
 refine uG (.bool true) rfl (ex_not rfl rfl rfl) (uW k5 ?_)
 refine cT rfl (sK fun _ k6 => ?_)
 refine rL (uA rfl ?_)
 refine uW k6 (rR ?_)
 refine tR (bR rfl rfl ?_)
 exact ⟨rfl, hv⟩
theorem x0na283 (w : World) : (isAgg 283).run Tryz.prog w = .ok false w := by kernel_rfl
theorem chainUpto0 (B : Base) (H : List Res) (w : World) (s : Int) (hv : Inv B H w) :
  Calls Tryz.prog 209 #[vN, vI s] w fun e w' => e = .returned (vI 0) ∧ Inv B H w' := by
 refine cW Tryz.func209 rfl Tryz.ntmps209 ?_
 simp only [al]
 refine sK fun _ k1 => rL (sl_box (L := [vN]) tV (wn rfl) rfl rfl hv (fun w => by kernel_rfl) (fun b2 w3 hv => ?_))
 refine sl_box (L := [vI s]) tV (wn rfl) rfl rfl hv (fun w => by kernel_rfl) (fun b4 w5 hv => ?_)
 refine uA rfl (uW k1 ?_)
 refine sK fun _ k6 => rL (uL _ rfl (run_load1 x0na283 (hv.load 1 0 rfl rfl)) ?_)
 refine uG (vI 0) rfl (ex_len0 Tryz.underlying283 rfl rfl) ?_
 refine uG (.func (.func 211) #[] #[vP b2, vP b4]) rfl (ex_makeFunc (c' := #[vP b2, vP b4]) rfl (by simp only [List.map_toArray, List.map_nil]) (by simp only [List.map_toArray, List.map_cons, List.map_nil]; rfl)) ?_
 refine xC x0callable203 rfl ((search0 B _ _ _ hv).mono ?_) rfl
 rintro e w7 ⟨rfl, hv⟩
 refine ⟨_, rfl, uA rfl ?_⟩
 refine uW k6 (rR ?_)
 refine bR rfl rfl (⟨rfl, (hv.kp [] 0 2)⟩)
theorem x0al50 : AL Tryz.prog 50 [vI 0, .bool false, vI 0, vI 0, vS [], vN, vN, vN] := fun w => by kernel_rfl
theorem x0callable209 : Callable Tryz.prog 209 := cb Tryz.func209 (by kernel_rfl)
theorem x0sz50 : (Tryz.prog.info? 50).map (·.size) = some 8 := by kernel_rfl
theorem x0wd50 : Wide Tryz.prog 50 8 := wide_of (fun w => by kernel_rfl) (by kernel_rfl)
theorem chainAt0 (B : Base) (H : List Res) (w : World) (s : Int) (hv : Inv B H w) :
  Calls Tryz.prog 207 #[vN, vI s] w fun e w' => e = .returned (.tuple #[.agg #[vI 0, .bool false, vI 0, vI 0, vS [], vN, vN, vN], .bool false]) ∧ Inv B H w' := by
 refine cW Tryz.func207 rfl Tryz.ntmps207 ?_
 simp only [al]
 refine sK fun _ k1 => rL (sl_alloc tV (wn rfl) rfl hv x0al50 (fun b2 w3 hv => ?_))
 refine uA rfl (uW k1 ?_)
 refine sK fun _ k4 => rL (uM rfl ?_)
 refine uM rfl ?_
 refine xC x0callable209 rfl ((chainUpto0 B _ _ s hv).mono ?_) rfl
 rintro e w5 ⟨rfl, hv⟩
 refine ⟨_, rfl, uA rfl ?_⟩
 refine uW k4 (sK fun _ k6 => ?_)
 refine sK fun _ k7 => rL (uM rfl ?_)
 refine uG (.bool true) rfl (ex_eql rfl rfl rfl (by decide)) (uW k7 ?_)
 refine cT rfl (sK fun _ k8 => ?_)
 refine rL (uG (.agg #[vI 0, .bool false, vI 0, vI 0, vS [], vN, vN, vN]) rfl (ex_buildN (vs := #[]) rfl (by simp only [List.map_toArray, List.map_nil]) (by kernel_rfl)) ?_)
 refine xS 0 rfl hv x0sz50 rfl (by exact ⟨rfl, rfl, rfl, rfl, rfl, rfl, rfl, rfl, trivial⟩) (fun w9 hv => ?_)
 simp only [zO, sp] at hv
 refine uA rfl (uW k8 ?_)
 refine rR (tR ?_)
 refine bodyPost_ret (res_cell2 rfl rfl (lM 0 x0wd50 hv rfl rfl rfl rfl)) rfl (⟨rfl, (hv.kp [] 0 1)⟩)
theorem x0fa134_0 : FA Tryz.prog 134 0 0 := fun w b o => by kernel_rfl
theorem x0callable195 : Callable Tryz.prog 195 := cb Tryz.func195 (by kernel_rfl)
theorem x0callable207 : Callable Tryz.prog 207 := cb Tryz.func207 (by kernel_rfl)
theorem storeRead0 (B : Base) (H : List Res) (w : World) (s p : Nat) (stamp clock : Int) (key : List UInt8) (hv : Inv B (Res.cell s [vP p, vI 0, vI 0] 134 :: Res.cell p [vN, vI 0] 167 :: H) w) :
  Calls Tryz.prog 202 #[vP s, vS key, vI stamp, vI clock] w fun e w' => e = .returned (.tuple #[.agg #[vI 0, .bool false, vI 0, vI 0, vS [], vN, vN, vN], .bool false]) ∧ Inv B (Res.cell s [vP p, vI 0, vI 0] 134 :: Res.cell p [vN, vI 0] 167 :: H) w' := by
 refine cW Tryz.func202 rfl Tryz.ntmps202 ?_
 simp only [al]
 refine sK fun _ k1 => rL (sl_alloc tV (wn rfl) rfl hv x0al50 (fun b2 w3 hv => ?_))
 refine uA rfl (uW k1 ?_)
 refine sK fun _ k4 => rL (uM rfl ?_)
 refine uG (vP s) rfl (ex_nil rfl rfl) ?_
 refine uF (vP s) rfl (x0fa134_0 _ _ _) ?_
 refine uL _ rfl (run_load1 x0na131 (hv.load 1 0 rfl rfl)) (uM rfl ?_)
 replace hv := hv.front 2 rfl
 simp only [eS, eZ] at hv
 refine xC x0callable195 rfl ((ixGet0 B _ _ p key hv).mono ?_) rfl
 rintro e w5 ⟨rfl, hv⟩
 refine ⟨_, rfl, uM rfl ?_⟩
 refine xC x0callable207 rfl ((chainAt0 B _ _ stamp hv).mono ?_) rfl
 rintro e w6 ⟨rfl, hv⟩
 refine ⟨_, rfl, uM rfl ?_⟩
 refine uE rfl (uE rfl ?_)
 refine sl_alloc tV (wn rfl) rfl hv x0al50 (fun b7 w8 hv => ?_)
 simp only [zP, po]
 refine xS 0 rfl hv x0sz50 rfl (by exact ⟨rfl, rfl, rfl, rfl, rfl, rfl, rfl, rfl, trivial⟩) (fun w9 hv => ?_)
 simp only [zO, sp] at hv
 refine uA rfl (uW k4 ?_)
 refine sK fun _ k10 => sK fun _ k11 => rL (uM rfl ?_)
 refine uG (.bool true) rfl (ex_not rfl rfl rfl) (uM rfl ?_)
 iterate 4 refine uP rfl ?_
 refine uK rfl (uW k11 ?_)
 refine cT rfl (sK fun _ k12 => ?_)
 refine rL (uG (.agg #[vI 0, .bool false, vI 0, vI 0, vS [], vN, vN, vN]) rfl (ex_buildN (vs := #[]) rfl (by simp only [List.map_toArray, List.map_nil]) (by kernel_rfl)) ?_)
 refine xS 2 rfl hv x0sz50 rfl (by exact ⟨rfl, rfl, rfl, rfl, rfl, rfl, rfl, rfl, trivial⟩) (fun w13 hv => ?_)
 simp only [zS, zO, sp] at hv
 refine uA rfl (uW k12 ?_)
 refine rR (tR ?_)
 refine bodyPost_ret (res_cell2 rfl rfl (lM 2 x0wd50 hv rfl rfl rfl rfl)) rfl (⟨rfl, (hv.kp [1, 3] 2 2)⟩)
theorem ixKeys0 (B : Base) (H : List Res) (w : World) (p : Nat) (hv : Inv B (Res.cell p [vN, vI 0] 167 :: H) w) :
  Calls Tryz.prog 200 #[vP p, vS [], vI 0] w fun e w' => e = .returned (vN) ∧ Inv B (Res.cell p [vN, vI 0] 167 :: H) w' := by
 refine cW Tryz.func200 rfl Tryz.ntmps200 ?_
 simp only [al]
 refine sK fun _ k1 => rL (uA rfl ?_)
 refine uW k1 (wpIn_scopeW ?_)
 refine sK fun _ k2 => rL (uM rfl ?_)
 refine uM rfl ?_
 refine xC x0callable197 rfl ((ixFind0 B _ _ p ([] : List UInt8) hv).mono ?_) rfl
 rintro e w3 ⟨rfl, hv⟩
 refine ⟨_, rfl, uM rfl ?_⟩
 refine uE rfl (uE rfl ?_)
 refine uE rfl (uA rfl ?_)
 refine uA rfl (uA rfl ?_)
 refine uW k2 (sK fun _ k4 => ?_)
 refine rL (uA rfl ?_)
 refine uW k4 (sK fun _ k5 => ?_)
 refine wpIn_label (tK k5 ?_)
 refine sK fun _ k6 => bB ?_
 gi_loopw [7, 8, 10] (fun x7 x8 x10 wr => x7 = vI 0 ∧ x8 = vI 0 ∧ x10 = vN ∧ Inv B (Res.cell p [vN, vI 0] 167 :: H) wr) (fun x7 x8 x10 _ => 0)
 case atStart => exact ⟨rfl, rfl, rfl, hv⟩
 case round =>
  obtain ⟨rfl, rfl, rfl, hv⟩ := hrel
  refine sK fun _ k8 => sK fun _ k9 => rL (uM rfl ?_)
  refine uM rfl ?_
  refine uG (vP p) rfl (ex_nil rfl rfl) ?_
  refine uF (vP p) rfl (x0fa167_0 _ _ _) ?_
  refine uL _ rfl (run_load1 x0na165 (hv.load 0 0 rfl rfl)) ?_
  refine uG (vI 0) rfl (ex_len0 Tryz.underlying165 rfl rfl) ?_
  refine uG (.bool false) rfl (ex_lss rfl rfl rfl (by decide)) (uW k9 ?_)
  refine cF rfl (xE ?_)
  refine tX (tX ?_)
  refine bH (tK k6 ?_)
  refine sK fun _ k10 => rL (uM rfl ?_)
  refine uA rfl (uW k10 ?_)
  refine rR (scope_ret ?_)
  refine bR rfl rfl (⟨rfl, hv⟩)
theorem indexFunc0 (B : Base) (H : List Res) (w : World) (fv : Value) (hv : Inv B H w) :
  Calls Tryz.prog 206 #[vN, fv] w fun e w' => e = .returned (vI (-1)) ∧ Inv B H w' := by
 refine cW Tryz.func206 rfl Tryz.ntmps206 ?_
 simp only [al]
 refine sK fun _ k1 => rL (uA rfl ?_)
 refine uW k1 (sK fun _ k2 => ?_)
 refine sK fun _ k3 => rL (uM rfl ?_)
 refine uG (vI 0) rfl (ex_len0 Tryz.underlying26 rfl rfl) (uM rfl ?_)
 refine uW k3 (bB ?_)
 gi_loopw [8] (fun x8 wr => x8 = vI 0 ∧ Inv B H wr) (fun x8 _ => 0)
 case atStart => exact ⟨rfl, hv⟩
 case round =>
  obtain ⟨rfl, hv⟩ := hrel
  refine sK fun _ k5 => rL (uG (.bool false) rfl (ex_lss rfl rfl rfl (by decide)) ?_)
  refine uW k5 (sK fun _ k6 => ?_)
  refine cF rfl (xE ?_)
  refine tX (tX ?_)
  refine bH (tK k2 ?_)
  refine sK fun _ k7 => rL (uA rfl ?_)
  refine uW k7 (rR ?_)
  refine bR rfl rfl (⟨rfl, hv⟩)
theorem x0callable206 : Callable Tryz.prog 206 := cb Tryz.func206 (by kernel_rfl)
theorem deleteFunc0 (B : Base) (H : List Res) (w : World) (fv : Value) (hv : Inv B H w) :
  Calls Tryz.prog 199 #[vN, fv] w fun e w' => e = .returned (vN) ∧ Inv B H w' := by
 refine cW Tryz.func199 rfl Tryz.ntmps199 ?_
 simp only [al]
 refine sK fun _ k1 => rL (uA rfl ?_)
 refine uW k1 (sK fun _ k2 => ?_)
 refine rL (uM rfl ?_)
 refine uM rfl ?_
 refine xC x0callable206 rfl ((indexFunc0 B _ _ fv hv).mono ?_) rfl
 rintro e w3 ⟨rfl, hv⟩
 refine ⟨_, rfl, uA rfl ?_⟩
 refine uW k2 (sK fun _ k4 => ?_)
 refine sK fun _ k5 => rL (uM rfl ?_)
 refine uG (.bool true) rfl (ex_eql rfl rfl rfl (by decide)) (uW k5 ?_)
 refine cT rfl (sK fun _ k6 => ?_)
 refine rL (uM rfl ?_)
 refine uA rfl (uW k6 ?_)
 refine rR (tR ?_)
 refine bR rfl rfl (⟨rfl, hv⟩)
theorem x0na95 (w : World) : (isAgg 95).run Tryz.prog w = .ok false w := by kernel_rfl
theorem x0callable200 : Callable Tryz.prog 200 := cb Tryz.func200 (by kernel_rfl)
theorem x0callable199 : Callable Tryz.prog 199 := cb Tryz.func199 (by kernel_rfl)
theorem storeNames0 (B : Base) (H : List Res) (w : World) (s p : Nat) (stamp clock : Int) (hv : Inv B (Res.cell s [vP p, vI 0, vI 0] 134 :: Res.cell p [vN, vI 0] 167 :: H) w) :
  Calls Tryz.prog 196 #[vP s, vI stamp, vI clock] w fun e w' => e = .returned (vN) ∧ Inv B (Res.cell s [vP p, vI 0, vI 0] 134 :: Res.cell p [vN, vI 0] 167 :: H) w' := by
 refine cW Tryz.func196 rfl Tryz.ntmps196 ?_
 simp only [al]
 refine sK fun _ k1 => rL (sl_box (L := [vP s]) tV (wn rfl) rfl rfl hv (fun w => by kernel_rfl) (fun b2 w3 hv => ?_))
 refine sl_box (L := [vI stamp]) tV (wn rfl) rfl rfl hv (fun w => by kernel_rfl) (fun b4 w5 hv => ?_)
 refine sl_box (L := [vI clock]) tV (wn rfl) rfl rfl hv (fun w => by kernel_rfl) (fun b6 w7 hv => ?_)
 refine uA rfl (uW k1 ?_)
 refine sK fun _ k8 => rL (uL _ rfl (run_load1 x0na95 (hv.load 2 0 rfl rfl)) ?_)
 refine uG (vP s) rfl (ex_nil rfl rfl) ?_
 refine uF (vP s) rfl (x0fa134_0 _ _ _) ?_
 refine uL _ rfl (run_load1 x0na131 (hv.load 3 0 rfl rfl)) ?_
 replace hv := hv.front 4 rfl
 simp only [eS, eZ] at hv
 refine xC x0callable200 rfl ((ixKeys0 B _ _ p hv).mono ?_) rfl
 rintro e w9 ⟨rfl, hv⟩
 refine ⟨_, rfl, uG (.func (.func 201) #[] #[vP b2, vP b4, vP b6]) rfl (ex_makeFunc (c' := #[vP b2, vP b4, vP b6]) rfl (by simp only [List.map_toArray, List.map_nil]) (by simp only [List.map_toArray, List.map_cons, List.map_nil]; rfl)) ?_⟩
 refine xC x0callable199 rfl ((deleteFunc0 B _ _ _ hv).mono ?_) rfl
 rintro e w10 ⟨rfl, hv⟩
 refine ⟨_, rfl, uA rfl ?_⟩
 refine uW k8 (rR ?_)
 refine bR rfl rfl (⟨rfl, (hv.kp [4] 2 3)⟩)
def PutOk (k : List UInt8) (v : Val) (e : Int) : Prop := k.length ≤ 256 ∧ ValOk v ∧ 0 ≤ e ∧ e ≤ 1099511627776
theorem x2mk9 : (Tryz.prog.info? 9).map (fun i => (i.zero, i.size, i.bytes)) = some (some (vS []), 1, 16) := by kernel_rfl
theorem x2el26 : Elem Tryz.prog 26 9 (vS []) 1 16 := elem_of Tryz.underlying26 x2mk9 (by rfl) (by decide)
theorem x2callable218 : Callable Tryz.prog 218 := cb Tryz.func218 (by kernel_rfl)
theorem x2callable223 : Callable Tryz.prog 223 := cb Tryz.func223 (by kernel_rfl)
theorem x2fa170_4 : FA Tryz.prog 170 4 4 := fun w b o => by kernel_rfl
theorem x2na168 (w : World) : (isAgg 168).run Tryz.prog w = .ok false w := by kernel_rfl
theorem x2callable43 : Callable Tryz.prog 43 := cb Tryz.func43 (by kernel_rfl)
theorem txnPut (B : Base) (H : List Res) (w : World) (t m s p wb : Nat) (va : Option Addr) (vc : Nat) (sv : Value) (clk : Int) (es : List (List UInt8 × Value)) (M : List (List UInt8 × Ver)) (key : List UInt8) (v : Val) (pp pt pz : Value) (exp : Int) (hM : VM B es M) (hval : ValAt B v pp pt pz) (hv : Inv B (txR t m s p wb va vc sv clk es :: H) w) :
  Calls Tryz.prog 217 #[vP t, vS key, .agg #[vI v.kind, vS v.text, pp, pt, pz], vI exp] w fun e w' => ∃ C es' ec, B.Le C ∧ e = .returned (vI ec) ∧ ((ec = 0 ∧ PutOk key v exp ∧ VM C es' (updA M key ⟨0, false, exp, v⟩)) ∨ (ec = 2 ∧ ¬ PutOk key v exp ∧ es' = es)) ∧ Inv C (txR t m s p wb va vc sv clk es' :: H) w' := by
 refine cW Tryz.func217 rfl Tryz.ntmps217 ?_
 simp only [al]
 refine sK fun _ k1 => ?_
 replace hv := Inv.unstar hv
 simp only [txL, List.cons_append, List.nil_append] at hv
 refine rL (sl_box (L := [vI v.kind, vS v.text, pp, pt, pz]) tV (wn rfl) rfl rfl hv (fun w => by kernel_rfl) (fun b2 w3 hv => ?_))
 refine uA rfl (uW k1 ?_)
 refine sK fun _ k4 => sK fun _ k5 => rL (uM rfl ?_)
 refine uM rfl ?_
 refine sl_rowOne (v := vS key) tV (wn rfl) rfl rfl hv x2el26 rfl (fun b6 w7 hv => ?_)
 simp only [zP, po]
 obtain ⟨C, hBC, hv, hrk, -, -⟩ := (hv.cellRow (n := 1) (c := 1) (size := 1) rfl (by decide) (by decide)).rowBy
 replace hv := hv.front 3 rfl
 simp only [eS, eZ] at hv
 replace hv := hv.front 3 rfl
 simp only [eS, eZ] at hv
 replace hv := hv.front 3 rfl
 simp only [eS, eZ] at hv
 refine xC x2callable218 rfl ((txnMay C _ _ t m s wb va vc sv clk _ 1 [key] hrk (by simp) hv).mono ?_) rfl
 rintro e w8 ⟨ec, rfl, hmay, hv⟩
 refine ⟨_, rfl, ?_⟩
 rcases hmay with ⟨rfl, hk⟩ | ⟨rfl, hk⟩
 ·replace hk : key.length ≤ 256 := by simpa using hk
  refine uA rfl (uW k5 ?_)
  refine sK fun _ k9 => rL (uM rfl ?_)
  refine uG (.bool false) rfl (ex_neq rfl rfl rfl (by decide)) (uW k9 ?_)
  refine cF rfl (kS ?_)
  refine tK k4 (sK fun _ k10 => ?_)
  refine sK fun _ k11 => rL (uL (.agg #[vI v.kind, vS v.text, pp, pt, pz]) rfl (lM 3 s1wd43 hv rfl rfl rfl rfl) ?_)
  refine xC x2callable223 rfl ((valueRight C _ _ v pp pt pz (hval.more hBC) hv).mono ?_) rfl
  rintro e w13 ⟨bl12, rfl, hbl12, hv⟩
  refine ⟨_, rfl, ?_⟩
  cases bl12
  ·refine uG (.bool true) rfl (ex_not rfl rfl rfl) (uM rfl ?_)
   refine uP rfl ?_
   refine uP rfl (uK rfl ?_)
   refine uM rfl ?_
   refine uP rfl ?_
   refine uP rfl (uK rfl ?_)
   refine uW k11 (cT rfl ?_)
   refine sK fun _ k14 => rL (uA rfl ?_)
   refine uW k14 (rR ?_)
   refine tR (bR rfl rfl ?_)
   exact ⟨_, _, 2, hBC, rfl, .inr ⟨rfl, fun h => (by have h9 := hbl12.2 h.2.1; cases h9), rfl⟩, Inv.star (K := txL _ _ _ _ _ _ _ _ _ _) ((hv.kp [6, 6, 6, 5, 5, 5] 6 1))⟩
  refine uG (.bool false) rfl (ex_not rfl rfl rfl) (uM rfl ?_)
  refine uM rfl ?_
  by_cases hb15 : exp < 0
  ·refine uG (.bool true) rfl (ex_lss rfl rfl rfl (qT hb15)) (uK rfl ?_)
   refine uM rfl ?_
   refine uP rfl ?_
   refine uP rfl (uK rfl ?_)
   refine uW k11 (cT rfl ?_)
   refine sK fun _ k16 => rL (uA rfl ?_)
   refine uW k16 (rR ?_)
   refine tR (bR rfl rfl ?_)
   exact ⟨_, _, 2, hBC, rfl, .inr ⟨rfl, fun h => (by have h9 := h.2.2; omega), rfl⟩, Inv.star (K := txL _ _ _ _ _ _ _ _ _ _) ((hv.kp [6, 6, 6, 5, 5, 5] 6 1))⟩
  refine uG (.bool false) rfl (ex_lss rfl rfl rfl (qF hb15)) (uK rfl ?_)
  refine uM rfl ?_
  refine uM rfl ?_
  by_cases hb17 : exp > 1099511627776
  ·refine uG (.bool true) rfl (ex_gtr rfl rfl rfl (qT hb17)) (uK rfl ?_)
   refine uW k11 (cT rfl ?_)
   refine sK fun _ k18 => rL (uA rfl ?_)
   refine uW k18 (rR ?_)
   refine tR (bR rfl rfl ?_)
   exact ⟨_, _, 2, hBC, rfl, .inr ⟨rfl, fun h => (by have h9 := h.2.2; omega), rfl⟩, Inv.star (K := txL _ _ _ _ _ _ _ _ _ _) ((hv.kp [6, 6, 6, 5, 5, 5] 6 1))⟩
  refine uG (.bool false) rfl (ex_gtr rfl rfl rfl (qF hb17)) (uK rfl ?_)
  refine uW k11 (cF rfl ?_)
  refine kS (tK k10 ?_)
  refine sK fun _ k19 => rW mixed [7, 9] [0,1,2,3,4,5,6,7,8,9] 37 rfl (by kernel_rfl) hv ?_
  simp only [qm, opAt]
  refine dM (vP t) rfl (dG (vP t) rfl (ex_nil rfl rfl) ?_)
  refine dG (.pointer (some ⟨t, 4, none⟩)) rfl (ex_field rfl rfl (x2fa170_4 _ _ _)) ?_
  simp only [zP, po]
  refine dF _ rfl (fun hv => ex_load rfl rfl (run_load1 x2na168 (hv.load 0 4 rfl rfl))) fun f20 hf20 => dM (vS key) rfl (dM (vI exp) rfl ?_)
  simp only [zP, po]
  refine dL (.agg #[vI v.kind, vS v.text, pp, pt, pz]) rfl (fun hv => ex_load rfl rfl (lM 3 s1wd43 hv rfl rfl rfl rfl)) (dS rfl fun w21 hv => ?_)
  refine mC x2callable43 rfl ((valueClone _ _ _ v pp pt pz (hval.more hBC) hv).mono ?_) rfl
  rintro e w26 ⟨C22, p23, t24, z25, hC22, rfl, hp23, hv⟩
  refine ⟨_, rfl, dV hv (fC (fun ww hv => hf20 ww (ex_load rfl rfl (run_load1 x2na168 (hv.load 0 4 rfl rfl)))) fN) ?_⟩
  refine dG (.agg #[vI 0, .bool false, vI exp, vI v.kind, vS v.text, p23, t24, z25]) rfl (ex_buildN (vs := #[(2, vI exp), (3, .agg #[vI v.kind, vS v.text, p23, t24, z25])]) rfl (by simp only [List.map_toArray, List.map_cons, List.map_nil]; rfl) (by kernel_rfl)) ?_
  simp only [zP, po]
  refine dS rfl fun w27 hv => mem_updV 4 (k := key) (v := .agg #[vI 0, .bool false, vI exp, vI v.kind, vS v.text, p23, t24, z25]) rfl rfl rfl rfl rfl Tryz.underlying168 Tryz.underlying9 hv rfl (fun w28 hv => ?_)
  simp only [zS, zO] at hv
  refine dV hv (fK rfl fN) (dE fun w29 hv => ?_)
  simp only [zP, po]
  refine tK k19 (sK fun _ k30 => ?_)
  refine rL (uA rfl ?_)
  refine uW k30 (rR ?_)
  refine bR rfl rfl (⟨_, _, 0, (hBC.trans hC22), rfl, .inl ⟨rfl, ⟨hk, hbl12.1 rfl, by omega, by omega⟩, VM.upd (x := ⟨0, false, exp, v⟩) hp23 (VM.more (hBC.trans hC22) hM)⟩, Inv.star (K := txL _ _ _ _ _ _ _ _ _ _) ((hv.kp [6, 6, 6, 5, 5, 5] 6 1))⟩)
 replace hk : ¬ key.length ≤ 256 := by simpa using hk
 refine uA rfl (uW k5 ?_)
 refine sK fun _ k31 => rL (uM rfl ?_)
 refine uG (.bool true) rfl (ex_neq rfl rfl rfl (by decide)) (uW k31 ?_)
 refine cT rfl (sK fun _ k32 => ?_)
 refine rL (uM rfl ?_)
 refine uA rfl (uW k32 ?_)
 refine rR (tR ?_)
 refine bR rfl rfl (⟨_, _, 2, hBC, rfl, .inr ⟨rfl, fun h => hk h.1, rfl⟩, Inv.star (K := txL _ _ _ _ _ _ _ _ _ _) ((hv.kp [6, 6, 6, 5, 5, 5] 6 1))⟩)
theorem x2al50 : AL Tryz.prog 50 [vI 0, .bool false, vI 0, vI 0, vS [], vN, vN, vN] := fun w => by kernel_rfl
theorem x2fa130_0 : FA Tryz.prog 130 0 0 := fun w b o => by kernel_rfl
theorem x2fa170_1 : FA Tryz.prog 170 1 1 := fun w b o => by kernel_rfl
theorem x2fa170_2 : FA Tryz.prog 170 2 2 := fun w b o => by kernel_rfl
theorem x2callable202 : Callable Tryz.prog 202 := cb Tryz.func202 (by kernel_rfl)
theorem x2callable208 : Callable Tryz.prog 208 := cb Tryz.func208 (by kernel_rfl)
theorem x2fa50_3 : FA Tryz.prog 50 3 3 := fun w b o => by kernel_rfl
theorem txnGet (B : Base) (H : List Res) (w : World) (t m s p wb : Nat) (va : Option Addr) (vc : Nat) (sv : Value) (clk : Int) (es : List (List UInt8 × Value)) (M : List (List UInt8 × Ver)) (key : List UInt8) (hM : VM B es M) (hv : Inv B (txR t m s p wb va vc sv clk es :: H) w) :
  Calls Tryz.prog 215 #[vP t, vS key] w fun e w' => ∃ C x p' t' z' ok, B.Le C ∧ e = .returned (.tuple #[.agg (verCells x p' t' z').toArray, .bool ok]) ∧ ((ok = true ∧ lookA M key = some x ∧ aliveB x clk = true) ∨ (ok = false ∧ x = zver0 ∧ ∀ y, lookA M key = some y → aliveB y clk = false)) ∧ ValAt C x.val p' t' z' ∧ Inv C (txR t m s p wb va vc sv clk es :: H) w' := by
 refine cW Tryz.func215 rfl Tryz.ntmps215 ?_
 simp only [al]
 refine sK fun _ k1 => ?_
 replace hv := Inv.unstar hv
 simp only [txL, List.cons_append, List.nil_append] at hv
 refine rL (sl_alloc tV (wn rfl) rfl hv x2al50 (fun b2 w3 hv => ?_))
 refine uA rfl (uW k1 ?_)
 refine sK fun _ k4 => rL (uM rfl ?_)
 refine uG (vP t) rfl (ex_nil rfl rfl) ?_
 refine uF (.pointer (some ⟨t, 4, none⟩)) rfl (x2fa170_4 _ _ _) ?_
 refine uL _ rfl (run_load1 x2na168 (hv.load 1 4 rfl rfl)) (uM rfl ?_)
 rcases VM.look key hM with ⟨hl, hlM⟩ | ⟨x, xp, xt, xz, hl, hlM, hxv⟩
 ·refine uG (.tuple #[.agg #[vI 0, .bool false, vI 0, vI 0, vS [], vN, vN, vN], .bool false]) rfl (ex_lookN (z := .agg #[vI 0, .bool false, vI 0, vI 0, vS [], vN, vN, vN]) 4 rfl rfl rfl Tryz.underlying168 Tryz.underlying9 (fun w => by kernel_rfl) hv rfl hl) (uM rfl ?_)
  refine uE rfl (uE rfl ?_)
  refine sl_alloc tV (wn rfl) rfl hv x2al50 (fun b5 w6 hv => ?_)
  refine xS 0 rfl hv x0sz50 rfl (by exact ⟨rfl, rfl, rfl, rfl, rfl, rfl, rfl, rfl, trivial⟩) (fun w7 hv => ?_)
  simp only [zO, sp] at hv
  refine uA rfl (uW k4 ?_)
  refine sK fun _ k8 => sK fun _ k9 => rL (uM rfl ?_)
  refine uG (.bool true) rfl (ex_not rfl rfl rfl) (uW k9 ?_)
  refine cT rfl (sK fun _ k10 => ?_)
  refine rW mixed [16, 19] [0,1,2,3,4,5,6,7,8,9,10,11,12,13,14,15,16,17,18,19,20] 51 rfl (by kernel_rfl) hv ?_
  simp only [qm, opAt]
  refine dM (vP t) rfl (dG (vP t) rfl (ex_nil rfl rfl) ?_)
  refine dG (vP t) rfl (ex_field rfl rfl (x1fa170_0 _ _ _)) ?_
  simp only [zP, po]
  refine dL _ rfl (fun hv => ex_load rfl rfl (run_load1 x1na92 (hv.load 2 0 rfl rfl))) (dG (vP m) rfl (ex_nil rfl rfl) ?_)
  refine dG (vP m) rfl (ex_field rfl rfl (x2fa130_0 _ _ _)) ?_
  simp only [zP, po]
  refine dL _ rfl (fun hv => ex_load rfl rfl (run_load1 x0na95 (hv.load 3 0 rfl rfl))) (dM (vS key) rfl ?_)
  refine dM (vP t) rfl ?_
  simp only [zP, po]
  refine dG (vP t) rfl (ex_nil rfl rfl) (dG (.pointer (some ⟨t, 1, none⟩)) rfl (ex_field rfl rfl (x2fa170_1 _ _ _)) ?_)
  refine dL _ rfl (fun hv => ex_load rfl rfl (run_load1 s2na3 (hv.load 2 1 rfl rfl))) ?_
  simp only [zP, po]
  refine dM (vP t) rfl (dG (vP t) rfl (ex_nil rfl rfl) ?_)
  refine dG (.pointer (some ⟨t, 2, none⟩)) rfl (ex_field rfl rfl (x2fa170_2 _ _ _)) ?_
  simp only [zP, po]
  refine dL _ rfl (fun hv => ex_load rfl rfl (run_load1 s2na3 (hv.load 2 2 rfl rfl))) (dS rfl fun w11 hv => ?_)
  replace hv := hv.front 7 rfl
  simp only [eS, eZ] at hv
  replace hv := hv.front 7 rfl
  simp only [eS, eZ] at hv
  refine mC x2callable202 rfl ((storeRead0 B _ _ s p 0 clk key hv).mono ?_) rfl
  rintro e w12 ⟨rfl, hv⟩
  refine ⟨_, rfl, dW hv ?_⟩
  refine dG (.agg #[vI 0, .bool false, vI 0, vI 0, vS [], vN, vN, vN]) rfl (ex_extract rfl rfl rfl) ?_
  simp only [zP, po]
  refine dG (.bool false) rfl (ex_extract rfl rfl rfl) (dS rfl fun w13 hv => ?_)
  refine mS 3 rfl hv x0sz50 rfl (by exact ⟨rfl, rfl, rfl, rfl, rfl, rfl, rfl, rfl, trivial⟩) (fun w14 hv => ?_)
  simp only [zS, zO, sp] at hv
  refine dW hv (dA (.bool false) rfl ?_)
  refine dE fun w15 hv => ?_
  simp only [zP, po]
  refine tK k10 (rR ?_)
  refine tR (bodyPost_ret (res_cell2 rfl rfl (lM 3 x0wd50 hv rfl rfl rfl rfl)) rfl ?_)
  exact ⟨_, zver0, _, _, _, false, (Base.Le.refl _), rfl, .inr ⟨rfl, rfl, fun y hy => (by rw [hlM] at hy; cases hy)⟩, zver0_at _, Inv.star (K := txL _ _ _ _ _ _ _ _ _ _) ((hv.kp [1, 1, 7, 7, 7, 7] 6 2))⟩
 refine uG (.tuple #[.agg #[vI x.stamp, .bool x.gone, vI x.expire, vI x.val.kind, vS x.val.text, xp, xt, xz], .bool true]) rfl (ex_lookS (z := .agg #[vI 0, .bool false, vI 0, vI 0, vS [], vN, vN, vN]) 4 rfl rfl rfl Tryz.underlying168 Tryz.underlying9 (fun w => by kernel_rfl) hv rfl hl) (uM rfl ?_)
 refine uE rfl (uE rfl ?_)
 refine sl_alloc tV (wn rfl) rfl hv x2al50 (fun b16 w17 hv => ?_)
 refine xS 0 rfl hv x0sz50 rfl (by exact ⟨rfl, rfl, rfl, rfl, rfl, hxv.p.one, hxv.t.one, hxv.z.one, trivial⟩) (fun w18 hv => ?_)
 simp only [zO, sp] at hv
 refine uA rfl (uW k4 ?_)
 refine sK fun _ k19 => sK fun _ k20 => rL (uM rfl ?_)
 refine uG (.bool false) rfl (ex_not rfl rfl rfl) (uW k20 ?_)
 refine cF rfl (kS ?_)
 refine tK k19 (sK fun _ k21 => ?_)
 refine sK fun _ k22 => rW mixed [5] [0,1,2,3,4,5,6] 51 rfl (by kernel_rfl) hv ?_
 simp only [qm, opAt]
 refine dL (.agg #[vI x.stamp, .bool x.gone, vI x.expire, vI x.val.kind, vS x.val.text, xp, xt, xz]) rfl (fun hv => ex_load rfl rfl (lM 0 x0wd50 hv rfl rfl rfl rfl)) (dM (vP t) rfl ?_)
 refine dG (vP t) rfl (ex_nil rfl rfl) ?_
 simp only [zP, po]
 refine dG (.pointer (some ⟨t, 2, none⟩)) rfl (ex_field rfl rfl (x2fa170_2 _ _ _)) (dL _ rfl (fun hv => ex_load rfl rfl (run_load1 s2na3 (hv.load 2 2 rfl rfl))) ?_)
 refine dS rfl fun w23 hv => mC x2callable208 rfl ((chainAlive B _ _ x xp xt xz clk hv).mono ?_) rfl
 rintro e w24 ⟨rfl, hv⟩
 refine ⟨_, rfl, dW hv ?_⟩
 simp only [zP, po]
 refine dG (.bool (!(aliveB x clk))) rfl (ex_not rfl rfl rfl) (dE fun w25 hv => ?_)
 simp only [zP, po]
 refine tK k22 (wpIn_cond_split (t := !(aliveB x clk)) rfl (fun hc26 => ?_) (fun hc26 => ?_))
 ·refine sK fun _ k27 => rL (uG (.agg #[vI 0, .bool false, vI 0, vI 0, vS [], vN, vN, vN]) rfl (ex_buildN (vs := #[]) rfl (by simp only [List.map_toArray, List.map_nil]) (by kernel_rfl)) ?_)
  refine xS 1 rfl hv x0sz50 rfl (by exact ⟨rfl, rfl, rfl, rfl, rfl, rfl, rfl, rfl, trivial⟩) (fun w28 hv => ?_)
  simp only [zS, zO, sp] at hv
  refine uA rfl (uW k27 ?_)
  refine rR (tR ?_)
  refine bodyPost_ret (res_cell2 rfl rfl (lM 1 x0wd50 hv rfl rfl rfl rfl)) rfl (⟨_, zver0, _, _, _, false, (Base.Le.refl _), rfl, .inr ⟨rfl, rfl, fun y hy => (by rw [hlM] at hy; cases hy; simpa using hc26)⟩, zver0_at _, Inv.star (K := txL _ _ _ _ _ _ _ _ _ _) ((hv.kp [7, 7, 7, 7, 7, 7] 6 2))⟩)
 refine kS (tK k21 ?_)
 refine sK fun _ k29 => rL (uF (.pointer (some ⟨b16, 3, none⟩)) rfl (x2fa50_3 _ _ _) ?_)
 refine uL (.agg #[vI x.val.kind, vS x.val.text, xp, xt, xz]) rfl (lM 0 s1wd43 hv rfl rfl rfl rfl) ?_
 refine xC x2callable43 rfl ((valueClone _ _ _ x.val xp xt xz (hxv.more (Base.Le.refl _)) hv).mono ?_) rfl
 rintro e w34 ⟨C30, p31, t32, z33, hC30, rfl, hp31, hv⟩
 refine ⟨_, rfl, uF (.pointer (some ⟨b16, 3, none⟩)) rfl (x2fa50_3 _ _ _) ?_⟩
 refine xS 0 rfl hv s1sz43 rfl (by exact ⟨rfl, rfl, hp31.p.one, hp31.t.one, hp31.z.one, trivial⟩) (fun w35 hv => ?_)
 simp only [zO, sp] at hv
 refine uW k29 (sK fun _ k36 => ?_)
 refine rL (uL (.agg #[vI x.stamp, .bool x.gone, vI x.expire, vI x.val.kind, vS x.val.text, p31, t32, z33]) rfl (lM 0 x0wd50 hv rfl rfl rfl rfl) ?_)
 refine xS 1 rfl hv x0sz50 rfl (by exact ⟨rfl, rfl, rfl, rfl, rfl, hp31.p.one, hp31.t.one, hp31.z.one, trivial⟩) (fun w37 hv => ?_)
 simp only [zS, zO, sp] at hv
 refine uA rfl (uW k36 ?_)
 refine rR (bodyPost_ret (res_cell2 rfl rfl (lM 1 x0wd50 hv rfl rfl rfl rfl)) rfl ?_)
 exact ⟨_, x, _, _, _, true, hC30, rfl, .inl ⟨rfl, hlM, by simpa using hc26⟩, hp31, Inv.star (K := txL _ _ _ _ _ _ _ _ _ _) ((hv.kp [7, 7, 7, 7, 7, 7] 6 2))⟩
end Go.Proofs.YtngpmolbphinnaaGreatDoor
namespace Go.Pm
open Go.RowKit
section
variable {F : Fence} {n : Nat} {P : Program} {ops : Array Oper} {Q : Exit → Act → World → Prop} {a : Act} {w : World} {rest : List Oper} {o : Oper} {x : Operand}
theorem ex_iface {t : TypeId} {v : Value} {y : Operand} {d : TypeDesc} (ht : P.underlying t = some d) (hd : ∀ m, d ≠ .interface m) (ho : o.op = .makeInterface t y) (hy : a.eval y = v) : Ex P a o w (.iface t v) w := by
 unfold Ex
 cases d <;> first | exact absurd rfl (hd _) | simp [execOp, ho, hy, Instr.makeInterface, run_underlying ht]
theorem ex_ifnil {t u d : TypeId} {v : Value} {ms : Array (String × TypeId)} {y : Operand} (ht : P.underlying t = some (.interface ms)) (ho : o.op = .binOp .eql t x y u) (hx : a.eval x = .iface d v) (hy : a.eval y = .nilIface) : Ex P a o w (.bool false) w := by
 have hg : (eqGuard .eql t x y (.iface d v) .nilIface).run P w = .ok () w := by simp [eqGuard]
 have h : ∀ k : Nat, (Op.equalIn (k + 1) t (.iface d v) .nilIface).run P w = .ok false w := fun k => by simp [Op.equalIn, run_underlying ht]
 have hr : (binOp .eql t (.iface d v) .nilIface).run P w = .ok (.bool false) w := by
  simp only [binOp]; simp [Op.equal, Op.maxDepth, h 9999]
 unfold Ex; simp [execOp, ho, hx, hy, hg, hr]
theorem sl_rowN {B : Base} {H : List Res} {t e : TypeId} {k : Nat} {parts : Array (Nat × Operand)} {pv : Array (Nat × Value)} {L : List Value} (hF : ∀ f, F.fn f) (hg : Region.wanted o (yielded ops a.tmps) = true) (ho : o.op = .buildSlice t k parts) (hx : (parts.map fun (i, x) => (i, a.eval x)) = pv) (hv : Inv B H w)
  (hr : ∀ w, (Instr.buildSlice t k pv).run P w = .ok (.slice (some ⟨w.heap.size, 0, none⟩) k k) (w.alloc (.cells L.toArray e))) (h : ∀ b w', Inv B (Res.cell b L e :: H) w' → wpListIn F n P ops Q rest (a.put o.dst (.slice (some ⟨b, 0, none⟩) k k)) w') : wpListIn F n P ops Q (o :: rest) a w :=
 wpi_exG hF hg (by unfold isDefer; rw [ho]) (by unfold Ex; simp only [execOp, ho, hx]; simp [hr]) (h _ _ (hv.alloc L e))
theorem ex_nilI {t : TypeId} {v : Value} (ho : o.op = .nilCheck x) (hx : a.eval x = .iface t v) : Ex P a o w (.iface t v) w := by unfold Ex; simp [execOp, ho, hx]
theorem run_callI {f : FuncId} {name : String} {xs : Array Operand} {ts : Array TypeId} {args : Array Value} {t : TypeId} {r r' : Value} (hf : Callable P f) (ho : o.op = .call { callee := .invoke x name, args := xs, argTypes := ts }) (hfx : a.eval x = .iface t r)
  (hm : ∀ w, (method (P.types.size + Made.depth) t r name).run P w = .ok (f, r') w) (hx : xs.map a.eval = args) (w : World) : (execOp a.eval o).run P w = .ok (.enter f (#[r'] ++ args)) w := by
 obtain ⟨fn, h1, h2, h3⟩ := hf
 have hb : ¬ fn.body = none := by intro h; rw [h] at h3; cases h3
 have hn : ¬ fn.name = "runtime.NumGoroutine" := by simpa using h2
 have hget : (#[Value.iface t r] ++ xs.map a.eval)[0]? = some (.iface t r) := by
  rw [← Array.getElem?_toList, Array.toList_append]; rfl
 have hext : (#[Value.iface t r] ++ xs.map a.eval).extract 1 (#[Value.iface t r] ++ xs.map a.eval).size = xs.map a.eval := by
  apply Array.ext'; simp
  exact List.take_of_length_le (by simp)
 obtain ⟨d, op, ty, pos, af, gd⟩ := o
 simp only at ho
 subst ho
 simp only [execOp, resolve, Sem.run_bind, Sem.run_pure, Result.andThen_ok, invoke, hfx, hget, hext, callMethod]
 simp only [program, Sem.run, Result.andThen_ok, hm, hx]
 simp [callFunc, h1, hn, hb]
theorem wpi_callI {f : FuncId} {name : String} {xs : Array Operand} {ts : Array TypeId} {args : Array Value} {t : TypeId} {r r' : Value} (hf : Callable P f) (hF : ∀ f, F.fn f) (hC : ∀ (f : FuncId) (args : Array Value) (w : World) (R : Ending → World → Prop), Calls P f args w R → CallsIn F (n - 1) P f args w R) (hdp : F.depth = none) (hg : Region.wanted o (yielded ops a.tmps) = true)
  (ho : o.op = .call { callee := .invoke x name, args := xs, argTypes := ts }) (hfx : a.eval x = .iface t r) (hm : ∀ w, (method (P.types.size + Made.depth) t r name).run P w = .ok (f, r') w) (hx : xs.map a.eval = args) (hc : Calls P f (#[r'] ++ args) w fun e w' => ∃ v, e = .returned v ∧ wpListIn F n P ops Q rest (a.put o.dst v) w') : wpListIn F n P ops Q (o :: rest) a w := by
 refine wpListIn_step fun K hK => ?_
 rw [if_pos hg]
 refine ⟨fun f _ => hF f, ?_⟩
 have hd : isDefer o = false := by unfold isDefer; rw [ho]
 rw [Oper.semAt_eq _ _ _ (not_defer hd), run_callI hf ho hfx hm hx w, Oper.uponIn_enter]
 refine ⟨fun e => by simp [hdp] at e, hC _ _ _ _ (hc.mono ?_)⟩
 rintro e w' ⟨v, rfl, hh⟩
 exact hK _ _ hh
theorem stepMem_callI {J : List Value → World → Prop} {vals : List Value} {f : FuncId} {name : String} {xs : Array Operand} {ts : Array TypeId} {args : Array Value} {t : TypeId} {r r' : Value} (hf : Callable P f) (hg : Region.wanted o (yielded ops a.tmps) = true)
  (ho : o.op = .call { callee := .invoke x name, args := xs, argTypes := ts }) (hfx : a.eval x = .iface t r) (hm : ∀ w, (method (P.types.size + Made.depth) t r name).run P w = .ok (f, r') w) (hx : xs.map a.eval = args) (hc : Calls P f (#[r'] ++ args) w fun e w' => ∃ v, e = .returned v ∧ J (vals ++ [v]) w') : StepMem P ops J Q o a w vals := by
 unfold StepMem
 rw [if_pos hg]
 unfold Oper.wp
 rw [run_callI hf ho hfx hm hx w]
 exact hc.mono fun e w' ⟨v, he, h1⟩ => by subst he; exact ⟨v, rfl, h1⟩
end
section
variable {F : Fence} {n : Nat} {P : Program} {ops : Array Oper} {Q : Exit → Act → World → Prop} {a : Act} {w : World} {rest : List Oper} {o : Oper} {x : Operand}
theorem wpi_defer {f : FuncId} {cb : Array Value} (hF : ∀ f, F.fn f) (hro : F.round = none) (hg : Region.wanted o (yielded ops a.tmps) = true) (ho : o.op = .defer { callee := .value x, args := #[], argTypes := #[] }) (hx : a.eval x = .func (.func f) #[] cb)
  (h : wpListIn F n P ops Q rest (({ a with defers := { target := .fn (.func f) cb, args := #[] } :: a.defers } : Act).put o.dst undef) w) : wpListIn F n P ops Q (o :: rest) a w := by
 refine wpListIn_step fun K hK => ?_
 rw [if_pos hg]
 refine ⟨fun f _ => hF f, ?_⟩
 have hr : (execOp a.eval o).run P w = .ok (.defer { target := .fn (.func f) cb, args := #[] }) w := by
  obtain ⟨d, op, ty, pos, af, gd⟩ := o
  simp only at ho
  subst ho
  simp [execOp, resolve, hx, Deferred.ofValue]
 rw [hro, Oper.semAt_none, hr, Oper.uponIn_defer]
 exact hK _ _ h
end
theorem res_cells2 {P : Program} {fn : Func} {w : World} {t u : TypeId} {v v' : Value} {r i : Nat} (h : fn.results = #[.cell r t, .cell i u]) {tmps : Array Value} {ad ad' : Addr} (hr : tmps.getD r undef = .pointer (some ad)) (hl : (Instr.loadAt t (.pointer (some ad))).run P w = .ok v w)
  (hr2 : tmps.getD i undef = .pointer (some ad')) (hl2 : (Instr.loadAt u (.pointer (some ad'))).run P w = .ok v' w) : (results fn tmps).run P w = .ok (.tuple #[v, v']) w := by
 have hl' : (loadVar t ad).run P w = .ok v w := by simpa [Instr.loadAt, Instr.sureAddr] using hl
 have hr' : tmps[r]?.getD undef = .pointer (some ad) := by rw [← hr, Array.getD_eq_getD_getElem?]
 have hl2' : (loadVar u ad').run P w = .ok v' w := by simpa [Instr.loadAt, Instr.sureAddr] using hl2
 have hr2' : tmps[i]?.getD undef = .pointer (some ad') := by rw [← hr2, Array.getD_eq_getD_getElem?]
 simp [results, h, hr', hr2', asAddr, hl', hl2']
theorem leave_rec {P : Program} {fn : Func} {n : Nat} {tmps cb : Array Value} {R : Ending → World → Prop} {w : World} {v : Value} {f : FuncId} (hf : Callable P f) (hrec : CallsDIn Fence.wide (n - 1) P f cb .returning w fun e u' w' => e = .returned (.tuple #[]) ∧ u' = .returning ∧ w' = w)
  (hres : (results fn tmps).run P w = .ok v w) (hR : R (.returned v) w) : bodyPostDIn Fence.wide n P fn R .ret ⟨tmps, [{ target := .fn (.func f) cb, args := #[] }]⟩ w := by
 obtain ⟨fn', h1, h2, h3⟩ := hf
 have hb : ¬ fn'.body = none := by intro h; rw [h] at h3; cases h3
 have hn : ¬ fn'.name = "runtime.NumGoroutine" := by simpa using h2
 refine leavesIn_cons (f := f) (args := cb) (by simp) (by simp [Fence.wide]) (by simp [invoke, callFunc, h1, hn, hb]) (fun _ _ => trivial) ?_
 refine hrec.mono ?_
 rintro e u' w'' ⟨rfl, rfl, rfl⟩
 exact ⟨v, by simpa [settle] using hres, hR⟩
end Go.Pm
namespace Go.Proofs.YtngpmolbphinnaaGreatDoor
open Go.RowKit Go.Pm
theorem ixNew0 (B : Base) (H : List Res) (w : World) (hv : Inv B H w) :
  Calls Tryz.prog 69 #[] w fun e w' => ∃ p, e = .returned (vP p) ∧ Inv B (Res.cell p [vN, vI 0] 167 :: H) w' := by
 refine cW Tryz.func69 rfl Tryz.ntmps69 ?_
 simp only [al]
 refine sK fun _ k1 => rL (uA rfl ?_)
 refine uW k1 (sK fun _ k2 => ?_)
 refine rL (uG (.agg #[vN, vI 0]) rfl (ex_buildN (vs := #[]) rfl (by simp only [List.map_toArray, List.map_nil]) (by kernel_rfl)) ?_)
 refine sl_box (L := [vN, vI 0]) tV (wn rfl) rfl rfl hv (fun w => by kernel_rfl) (fun b3 w4 hv => ?_)
 refine uA rfl (uW k2 ?_)
 refine rR (bR rfl rfl ?_)
 exact ⟨_, rfl, hv⟩
theorem x3callable69 : Callable Tryz.prog 69 := cb Tryz.func69 (by kernel_rfl)
theorem storeNew0 (B : Base) (H : List Res) (w : World) (hv : Inv B H w) :
  Calls Tryz.prog 37 #[] w fun e w' => ∃ s p, e = .returned (vP s) ∧ Inv B (Res.cell s [vP p, vI 0, vI 0] 134 :: Res.cell p [vN, vI 0] 167 :: H) w' := by
 refine cW Tryz.func37 rfl Tryz.ntmps37 ?_
 simp only [al]
 refine sK fun _ k1 => rL (uA rfl ?_)
 refine uW k1 (sK fun _ k2 => ?_)
 refine rL (xC x3callable69 rfl ((ixNew0 B _ _ hv).mono ?_) rfl)
 rintro e w3 ⟨p, rfl, hv⟩
 refine ⟨_, rfl, uG (.agg #[vP p, vI 0, vI 0]) rfl (ex_buildN (vs := #[(0, vP p)]) rfl (by simp only [List.map_toArray, List.map_cons, List.map_nil]; rfl) (by kernel_rfl)) ?_⟩
 refine sl_box (L := [vP p, vI 0, vI 0]) tV (wn rfl) rfl rfl hv (fun w => by kernel_rfl) (fun b4 w5 hv => ?_)
 refine uA rfl (uW k2 ?_)
 refine rR (bR rfl rfl ?_)
 exact ⟨_, p, rfl, hv⟩
theorem txnNew0 (B : Base) (H : List Res) (w : World) (s : Nat) (tt : TypeId) (sq : Value) (hv : Inv B H w) :
  Calls Tryz.prog 36 #[vP s, (.iface tt sq)] w fun e w' => ∃ m, e = .returned (.tuple #[vP m, vI 0]) ∧ Inv B (Res.cell m [vP s, .iface tt sq, vI 0, vN] 130 :: H) w' := by
 refine cW Tryz.func36 rfl Tryz.ntmps36 ?_
 simp only [al]
 refine sK fun _ k1 => rL (uA rfl ?_)
 refine uA rfl (uW k1 ?_)
 refine sK fun _ k2 => sK fun _ k3 => rL (uM rfl ?_)
 refine uG (.bool false) rfl (ex_pisnil Tryz.underlying95 rfl rfl rfl rfl) (uM rfl ?_)
 refine uM rfl ?_
 refine uG (.bool false) rfl (ex_ifnil Tryz.underlying127 rfl rfl rfl) (uK rfl ?_)
 refine uW k3 (cF rfl ?_)
 refine kS (tK k2 ?_)
 refine sK fun _ k4 => rL (uM rfl ?_)
 refine uM rfl ?_
 refine uG (.agg #[vP s, (.iface tt sq), vI 0, vN]) rfl (ex_buildN (vs := #[(0, vP s), (1, (.iface tt sq))]) rfl (by simp only [List.map_toArray, List.map_cons, List.map_nil]; rfl) (by kernel_rfl)) ?_
 refine sl_box (L := [vP s, (.iface tt sq), vI 0, vN]) tV (wn rfl) rfl rfl hv (fun w => by kernel_rfl) (fun b5 w6 hv => ?_)
 refine uA rfl (uA rfl ?_)
 refine uW k4 (rR ?_)
 refine bodyPost_ret (results_tmp2 rfl _ _ _) rfl (⟨_, rfl, hv⟩)
theorem x3fa134_1 : FA Tryz.prog 134 1 1 := fun w b o => by kernel_rfl
theorem x3na3 (w : World) : (isAgg 3).run Tryz.prog w = .ok false w := by kernel_rfl
theorem storeLast0 (B : Base) (H : List Res) (w : World) (s p : Nat) (hv : Inv B (Res.cell s [vP p, vI 0, vI 0] 134 :: H) w) :
  Calls Tryz.prog 71 #[vP s] w fun e w' => e = .returned (vI 0) ∧ Inv B (Res.cell s [vP p, vI 0, vI 0] 134 :: H) w' := by
 refine cW Tryz.func71 rfl Tryz.ntmps71 ?_
 simp only [al]
 refine sK fun _ k1 => rL (uA rfl ?_)
 refine uW k1 (sK fun _ k2 => ?_)
 refine rL (uM rfl ?_)
 refine uG (vP s) rfl (ex_nil rfl rfl) ?_
 refine uF (.pointer (some ⟨s, 1, none⟩)) rfl (x3fa134_1 _ _ _) ?_
 refine uL _ rfl (run_load1 x3na3 (hv.load 0 1 rfl rfl)) (uA rfl ?_)
 refine uW k2 (rR ?_)
 refine bR rfl rfl (⟨rfl, hv⟩)
theorem x3fa130_3 : FA Tryz.prog 130 3 3 := fun w b o => by kernel_rfl
theorem x3na128 (w : World) : (isAgg 128).run Tryz.prog w = .ok false w := by kernel_rfl
theorem x3fa130_2 : FA Tryz.prog 130 2 2 := fun w b o => by kernel_rfl
theorem x3mk100 : (Tryz.prog.info? 100).map (fun i => (i.zero, i.size, i.bytes)) = some (some (.pointer none), 1, 8) := by kernel_rfl
theorem x3el128 : Elem Tryz.prog 128 100 (.pointer none) 1 8 := elem_of Tryz.underlying128 x3mk100 (by rfl) (by decide)
theorem x3sz128 : (Tryz.prog.info? 128).map (·.size) = some 1 := by kernel_rfl
theorem txnBegin0 (B : Base) (H : List Res) (w : World) (m s : Nat) (sv : Value) (clk : Int) (hv : Inv B (Res.cell m [vP s, sv, vI clk, vN] 130 :: H) w) :
  Calls Tryz.prog 70 #[vP m, vI 0, .bool false] w fun e w' => ∃ t wb va vc, e = .returned (.tuple #[vP t, vI 0]) ∧ Inv B (Res.cell t [vP m, vI 0, vI clk, .bool false, .map (some wb)] 170 :: Res.cell m [vP s, sv, vI clk, .slice va 1 vc] 130 :: Res.row 100 1 (.slice va 1 vc) 1 [vP t] :: Res.vmap wb [] :: H) w' := by
 refine cW Tryz.func70 rfl Tryz.ntmps70 ?_
 simp only [al]
 refine sK fun _ k1 => rL (uA rfl ?_)
 refine uA rfl (uW k1 ?_)
 refine sK fun _ k2 => sK fun _ k3 => rL (uM rfl ?_)
 refine uG (vP m) rfl (ex_nil rfl rfl) ?_
 refine uF (.pointer (some ⟨m, 3, none⟩)) rfl (x3fa130_3 _ _ _) ?_
 refine uL _ rfl (run_load1 x3na128 (hv.load 0 3 rfl rfl)) ?_
 refine uG (vI 0) rfl (ex_len0 Tryz.underlying128 rfl rfl) ?_
 refine uG (.bool false) rfl (ex_geq rfl rfl rfl (by decide)) (uW k3 ?_)
 refine cF rfl (kS ?_)
 refine tK k2 (sK fun _ k4 => ?_)
 refine rL (uM rfl ?_)
 refine uM rfl (uM rfl ?_)
 refine uG (vP m) rfl (ex_nil rfl rfl) ?_
 refine uF (.pointer (some ⟨m, 2, none⟩)) rfl (x3fa130_2 _ _ _) ?_
 refine uL _ rfl (run_load1 x3na3 (hv.load 0 2 rfl rfl)) (uM rfl ?_)
 refine sl_newMapV tV (wn rfl) rfl hv (fun mp5 w6 hv => ?_)
 refine uG (.agg #[vP m, vI 0, vI clk, .bool false, .map (some mp5)]) rfl (ex_buildN (vs := #[(0, vP m), (1, vI 0), (2, vI clk), (3, .bool false), (4, .map (some mp5))]) rfl (by simp only [List.map_toArray, List.map_cons, List.map_nil]; rfl) (by kernel_rfl)) ?_
 refine sl_box (L := [vP m, vI 0, vI clk, .bool false, .map (some mp5)]) tV (wn rfl) rfl rfl hv (fun w => by kernel_rfl) (fun b7 w8 hv => ?_)
 refine uA rfl (uW k4 ?_)
 refine sK fun _ k9 => ?_
 replace hv := hv.rowNil 100 1
 refine rL (uM rfl ?_)
 refine uM rfl ?_
 refine uG (vP m) rfl (ex_nil rfl rfl) ?_
 refine uF (.pointer (some ⟨m, 3, none⟩)) rfl (x3fa130_3 _ _ _) ?_
 refine uL _ rfl (run_load1 x3na128 (hv.load 3 3 rfl rfl)) (uM rfl ?_)
 refine sl_rowOne (v := vP b7) tV (wn rfl) rfl rfl hv x3el128 rfl (fun b10 w11 hv => ?_)
 replace hv := hv.front 1 rfl
 simp only [eS, eZ] at hv
 refine sl_append (news := [vP b7]) tV (wn rfl) rfl rfl rfl x3el128 hv (ok_full (by omega)) rfl (rd_all (hv.get 1 rfl)) (by intro u hu; simp only [List.mem_cons, List.not_mem_nil, or_false] at hu; rcases hu with rfl <;> rfl) (by unfold maxLen; omega) (by omega) (fun rv12 w15 hv => ?_)
 obtain ⟨ra13, rc14, rfl⟩ := row_slice hv.head
 refine uG (vP m) rfl (ex_nil rfl rfl) ?_
 refine uF (.pointer (some ⟨m, 3, none⟩)) rfl (x3fa130_3 _ _ _) ?_
 refine xV 4 (.slice ra13 (0 + 1) rc14) rfl hv x3sz128 rfl rfl (fun w16 hv => ?_)
 simp only [zS, zO, sp] at hv
 refine uW k9 (sK fun _ k17 => ?_)
 refine rL (uM rfl ?_)
 refine uA rfl (uA rfl ?_)
 refine uW k17 (rR ?_)
 refine bodyPost_ret (results_tmp2 rfl _ _ _) rfl (⟨_, _, _, _, rfl, (hv.kp [3, 1, 4, 4] 4 1)⟩)
theorem x3fa130_0 : FA Tryz.prog 130 0 0 := fun w b o => by kernel_rfl
theorem x3callable71 : Callable Tryz.prog 71 := cb Tryz.func71 (by kernel_rfl)
theorem x3callable70 : Callable Tryz.prog 70 := cb Tryz.func70 (by kernel_rfl)
theorem txnBegin (B : Base) (H : List Res) (w : World) (m s p : Nat) (sv : Value) (clk : Int) (hv : Inv B (Res.cell m [vP s, sv, vI clk, vN] 130 :: Res.cell s [vP p, vI 0, vI 0] 134 :: Res.cell p [vN, vI 0] 167 :: H) w) :
  Calls Tryz.prog 39 #[vP m] w fun e w' => ∃ t wb va vc, e = .returned (.tuple #[vP t, vI 0]) ∧ Inv B (txR t m s p wb va vc sv clk [] :: H) w' := by
 refine cW Tryz.func39 rfl Tryz.ntmps39 ?_
 simp only [al]
 refine sK fun _ k1 => rL (uA rfl ?_)
 refine uA rfl (uW k1 ?_)
 refine sK fun _ k2 => rL (uM rfl ?_)
 refine uM rfl ?_
 refine uG (vP m) rfl (ex_nil rfl rfl) ?_
 refine uF (vP m) rfl (x3fa130_0 _ _ _) ?_
 refine uL _ rfl (run_load1 x0na95 (hv.load 0 0 rfl rfl)) ?_
 replace hv := hv.front 1 rfl
 simp only [eS, eZ] at hv
 refine xC x3callable71 rfl ((storeLast0 B _ _ s p hv).mono ?_) rfl
 rintro e w3 ⟨rfl, hv⟩
 refine ⟨_, rfl, ?_⟩
 simp only [zP, po]
 replace hv := hv.front 1 rfl
 simp only [eS, eZ] at hv
 refine xC x3callable70 rfl ((txnBegin0 B _ _ m s sv clk hv).mono ?_) rfl
 rintro e w4 ⟨t, wb, va, vc, rfl, hv⟩
 refine ⟨_, rfl, uE rfl ?_⟩
 refine uE rfl (uA rfl ?_)
 refine uA rfl (uW k2 ?_)
 refine rR (bodyPost_ret (results_tmp2 rfl _ _ _) rfl ?_)
 exact ⟨t, wb, va, vc, rfl, Inv.star (K := txL _ _ _ _ _ _ _ _ _ _) (((((((hv.front 5 rfl).front 5 rfl).front 5 rfl).front 5 rfl).front 5 rfl).front 5 rfl))⟩
theorem x3sz3 : (Tryz.prog.info? 3).map (·.size) = some 1 := by kernel_rfl
theorem txnTick0 (B : Base) (H : List Res) (w : World) (m s : Nat) (sv : Value) (n : Int) (h0 : 0 ≤ n) (h1 : n ≤ 1099511627776) (hv : Inv B (Res.cell m [vP s, sv, vI 0, vN] 130 :: H) w) :
  Calls Tryz.prog 38 #[vP m, vI n] w fun e w' => ∃ r : Int, e = .returned (vI r) ∧ Inv B (Res.cell m [vP s, sv, vI n, vN] 130 :: H) w' := by
 refine cW Tryz.func38 rfl Tryz.ntmps38 ?_
 simp only [al]
 refine sK fun _ k1 => rL (uA rfl ?_)
 refine uW k1 (sK fun _ k2 => ?_)
 refine sK fun _ k3 => rL (uM rfl ?_)
 by_cases hb4 : n > 0
 ·refine uG (.bool true) rfl (ex_gtr rfl rfl rfl (qT hb4)) (uW k3 ?_)
  refine cT rfl (rW mixed [14] [0,1,2,3,4,5,6,7,8,9,10,11,12,13,14] 25 rfl (by kernel_rfl) hv ?_)
  simp only [qm, opAt]
  refine dM (vP m) rfl (dG (vP m) rfl (ex_nil rfl rfl) ?_)
  refine dG (.pointer (some ⟨m, 2, none⟩)) rfl (ex_field rfl rfl (x3fa130_2 _ _ _)) ?_
  simp only [zP, po]
  refine dL _ rfl (fun hv => ex_load rfl rfl (run_load1 x3na3 (hv.load 0 2 rfl rfl))) (dM (vI n) rfl ?_)
  refine dM (vP m) rfl ?_
  simp only [zP, po]
  refine dG (vP m) rfl (ex_nil rfl rfl) (dG (.pointer (some ⟨m, 2, none⟩)) rfl (ex_field rfl rfl (x3fa130_2 _ _ _)) ?_)
  refine dL _ rfl (fun hv => ex_load rfl rfl (run_load1 x3na3 (hv.load 0 2 rfl rfl))) ?_
  simp only [zP, po]
  refine dG (vI 1099511627776) rfl (ex_sub rfl rfl rfl (i64_in (by omega))) (dG (vI n) rfl (ex_min2 (m := n) (n := 1099511627776) rfl rfl rfl (if_neg (by omega))) ?_)
  refine dG (vI n) rfl (ex_add rfl rfl rfl (by rw [i64_in (by omega)]; omega)) ?_
  simp only [zP, po]
  refine dG (vP m) rfl (ex_nil rfl rfl) (dG (.pointer (some ⟨m, 2, none⟩)) rfl (ex_field rfl rfl (x3fa130_2 _ _ _)) ?_)
  refine dS rfl fun w5 hv => mV 0 (vI n) rfl hv x3sz3 rfl rfl (fun w6 hv => ?_)
  simp only [zO, sp] at hv
  refine dW hv (dE fun w7 hv => ?_)
  simp only [zP, po]
  refine tK k2 (sK fun _ k8 => ?_)
  refine rL (uM rfl ?_)
  refine uG (vP m) rfl (ex_nil rfl rfl) ?_
  refine uF (.pointer (some ⟨m, 2, none⟩)) rfl (x3fa130_2 _ _ _) ?_
  refine uL _ rfl (run_load1 x3na3 (hv.load 0 2 rfl rfl)) (uA rfl ?_)
  refine uW k8 (rR ?_)
  refine bR rfl rfl (⟨_, rfl, hv⟩)
 refine uG (.bool false) rfl (ex_gtr rfl rfl rfl (qF hb4)) (uW k3 ?_)
 refine cF rfl (kS ?_)
 refine tK k2 (sK fun _ k9 => ?_)
 refine rL (uM rfl ?_)
 refine uG (vP m) rfl (ex_nil rfl rfl) ?_
 refine uF (.pointer (some ⟨m, 2, none⟩)) rfl (x3fa130_2 _ _ _) ?_
 refine uL _ rfl (run_load1 x3na3 (hv.load 0 2 rfl rfl)) (uA rfl ?_)
 refine uW k9 (rR ?_)
 refine bR rfl rfl ?_
 obtain rfl : n = 0 := by omega
 exact ⟨_, rfl, hv⟩
def delM (M : List (List UInt8 × Ver)) (ks : List (List UInt8)) : List (List UInt8 × Ver) := ks.foldl (fun M k => updA M k gver) M
theorem delM_next {M : List (List UInt8 × Ver)} {ks : List (List UInt8)} {i : Nat} {x : List UInt8} (hx : ks[i]? = some x) : delM M (ks.take (i + 1)) = updA (delM M (ks.take i)) x gver := by
 unfold delM
 rw [take_next hx, List.foldl_append]; rfl
theorem txnDel (B : Base) (H : List Res) (w : World) (t m s p wb : Nat) (va : Option Addr) (vc : Nat) (sv : Value) (clk : Int) (es : List (List UInt8 × Value)) (M : List (List UInt8 × Ver)) (ka : Option Addr) (kc : Nat) (ks : List (List UInt8)) (hr : RdV B [] ka (textCells ks)) (hm : ks.length ≤ 1000000) (hM : VM B es M) (hv : Inv B (txR t m s p wb va vc sv clk es :: H) w) :
  Calls Tryz.prog 214 #[vP t, .slice ka ks.length kc] w fun e w' => ∃ es' ec, e = .returned (vI ec) ∧ ((ec = 0 ∧ ks.any (fun s : List UInt8 => decide (s.length > 256)) = false ∧ VM B es' (delM M ks)) ∨ (ec = 2 ∧ ks.any (fun s : List UInt8 => decide (s.length > 256)) = true ∧ es' = es)) ∧ Inv B (txR t m s p wb va vc sv clk es' :: H) w' := by
 refine cW Tryz.func214 rfl Tryz.ntmps214 ?_
 simp only [al]
 refine sK fun _ k1 => ?_
 replace hv := Inv.unstar hv
 simp only [txL, List.cons_append, List.nil_append] at hv
 refine rL (uA rfl ?_)
 refine uW k1 (sK fun _ k2 => ?_)
 refine sK fun _ k3 => rL (uM rfl ?_)
 refine uM rfl ?_
 replace hv := hv.front 2 rfl
 simp only [eS, eZ] at hv
 replace hv := hv.front 2 rfl
 simp only [eS, eZ] at hv
 replace hv := hv.front 2 rfl
 simp only [eS, eZ] at hv
 refine xC x2callable218 rfl ((txnMay B _ _ t m s wb va vc sv clk ka kc ks hr hm hv).mono ?_) rfl
 rintro e w4 ⟨ec, rfl, hmay, hv⟩
 refine ⟨_, rfl, ?_⟩
 rcases hmay with ⟨rfl, hk⟩ | ⟨rfl, hk⟩
 ·refine uA rfl (uW k3 ?_)
  refine sK fun _ k5 => rL (uM rfl ?_)
  refine uG (.bool false) rfl (ex_neq rfl rfl rfl (by decide)) (uW k5 ?_)
  refine cF rfl (kS ?_)
  refine tK k2 (sK fun _ k6 => ?_)
  refine sK fun _ k7 => rL (uM rfl ?_)
  refine uG (vI (ks.length : Int)) rfl (ex_len0 Tryz.underlying26 rfl rfl) (uM rfl ?_)
  refine uW k7 (bB ?_)
  gi_loopw [16] (fun x16 wr => ∃ (i : Nat) (es1 : List (List UInt8 × Value)), x16 = vI i ∧ i ≤ ks.length ∧ VM B es1 (delM M (ks.take i)) ∧ Inv B (Res.cell t [vP m, vI 0, vI clk, .bool false, .map (some wb)] 170 :: Res.cell m [vP s, sv, vI clk, .slice va 1 vc] 130 :: Res.row 100 1 (.slice va 1 vc) 1 [vP t] :: Res.vmap wb es1 :: Res.cell s [vP p, vI 0, vI 0] 134 :: Res.cell p [vN, vI 0] 167 :: H) wr) (fun x16 _ => ks.length - (intOf x16).toNat)
  case atStart => exact ⟨0, es, rfl, Nat.zero_le _, hM, ((((((hv.front 5 rfl).front 5 rfl).front 5 rfl).front 5 rfl).front 5 rfl).front 5 rfl)⟩
  case round =>
   obtain ⟨i, es1, rfl, hi, hM1, hv⟩ := hrel
   refine sK fun _ k9 => rL ?_
   by_cases hb10 : (i : Int) < (ks.length : Int)
   ·refine uG (.bool true) rfl (ex_lss rfl rfl rfl (qT hb10)) (uW k9 ?_)
    refine sK fun _ k11 => cT rfl (kS ?_)
    refine tK k11 (sK fun _ k12 => ?_)
    refine bB (sK fun _ k13 => ?_)
    obtain ⟨x, hx⟩ : ∃ x, ks[i]? = some x := ⟨_, List.getElem?_eq_getElem (show i < ks.length by omega)⟩
    obtain ⟨bb, bo, had, hrdx⟩ := text_reads hr hx
    subst had
    refine rL (uG (.pointer (some ⟨bb, bo + i, none⟩)) rfl (ex_index rfl rfl rfl (run_idx1 (k := i) Tryz.underlying26 s9es26 (by omega))) ?_)
    refine uL _ rfl (run_load1 s9na9 (hrdx _ _ _ (Base.Le.refl _) no_res hv 0 _ rfl)) (uA rfl ?_)
    refine uW k13 (rL ?_)
    refine uM rfl ?_
    refine uG (vP t) rfl (ex_nil rfl rfl) ?_
    refine uF (.pointer (some ⟨t, 4, none⟩)) rfl (x2fa170_4 _ _ _) ?_
    refine uL _ rfl (run_load1 x2na168 (hv.load 0 4 rfl rfl)) (uM rfl ?_)
    refine uG (.agg #[vI 0, .bool true, vI 0, vI 0, vS [], vN, vN, vN]) rfl (ex_buildN (vs := #[(1, .bool true)]) rfl (by simp only [List.map_toArray, List.map_cons, List.map_nil]; rfl) (by kernel_rfl)) ?_
    replace hv := hv.front 3 rfl
    simp only [eS, eZ] at hv
    refine sl_updV (k := x) (v := .agg #[vI 0, .bool true, vI 0, vI 0, vS [], vN, vN, vN]) tV (wn rfl) rfl rfl rfl rfl Tryz.underlying168 Tryz.underlying9 hv (fun w14 hv => ?_)
    refine uZ (bN ?_)
    refine tK k12 (rL ?_)
    refine uG (vI ((i + 1 : Nat) : Int)) rfl (ex_add rfl rfl rfl (by rw [i64_in (by omega)]; omega)) (uM rfl ?_)
    refine uZ (then_normal ?_)
    go_roundw
    case rel => exact ⟨i + 1, _, rfl, by omega, by rw [delM_next hx]; exact VM.upd (x := gver) (gver_at _) hM1, ((((((hv.front 5 rfl).front 5 rfl).front 2 rfl).front 5 rfl).front 5 rfl).front 5 rfl)⟩
    case measure => show ks.length - (((i + 1 : Nat) : Int)).toNat < ks.length - ((i : Int)).toNat; omega
   refine uG (.bool false) rfl (ex_lss rfl rfl rfl (qF hb10)) (uW k9 ?_)
   refine sK fun _ k15 => cF rfl (xE ?_)
   refine tX (tX ?_)
   refine bH (tK k6 ?_)
   refine sK fun _ k16 => rL (uA rfl ?_)
   refine uW k16 (rR ?_)
   refine bR rfl rfl ?_
   obtain rfl : i = ks.length := by omega
   rw [List.take_length] at hM1
   exact ⟨_, 0, rfl, .inl ⟨rfl, hk, hM1⟩, Inv.star (K := txL _ _ _ _ _ _ _ _ _ _) (((((((hv.front 5 rfl).front 5 rfl).front 5 rfl).front 5 rfl).front 5 rfl).front 5 rfl))⟩
 refine uA rfl (uW k3 ?_)
 refine sK fun _ k17 => rL (uM rfl ?_)
 refine uG (.bool true) rfl (ex_neq rfl rfl rfl (by decide)) (uW k17 ?_)
 refine cT rfl (sK fun _ k18 => ?_)
 refine rL (uM rfl ?_)
 refine uA rfl (uW k18 ?_)
 refine rR (tR ?_)
 refine bR rfl rfl (⟨_, 2, rfl, .inr ⟨rfl, hk, rfl⟩, Inv.star (K := txL _ _ _ _ _ _ _ _ _ _) (((((((hv.front 5 rfl).front 5 rfl).front 5 rfl).front 5 rfl).front 5 rfl).front 5 rfl))⟩)
def FullV (x : Val) : Prop := x.kind = 1 ∨ 0 < x.pairs.length + x.texts.length + x.zset.length
def DeadM (M : List (List UInt8 × Ver)) (clk : Int) (k : List UInt8) : Prop := ∀ y, lookA M k = some y → aliveB y clk = false
def KeepI (M : List (List UInt8 × Ver)) (clk : Int) (key : List UInt8) (x : Val) (exp : Int) (ec : Int) (M' : List (List UInt8 × Ver)) : Prop :=
 (FullV x ∧ PutOk key x exp ∧ ec = 0 ∧ M' = updA M key ⟨0, false, exp, x⟩) ∨ (FullV x ∧ ¬ PutOk key x exp ∧ ec = 2 ∧ M' = M) ∨ (¬ FullV x ∧ DeadM M clk key ∧ ec = 0 ∧ M' = M) ∨
 (¬ FullV x ∧ (∃ y, lookA M key = some y ∧ aliveB y clk = true) ∧ ((key.length ≤ 256 ∧ ec = 0 ∧ M' = updA M key gver) ∨ (256 < key.length ∧ ec = 2 ∧ M' = M)))
def sizeV (x : Val) : Nat := if x.kind = 1 then x.text.length else x.pairs.length + x.texts.length + x.zset.length
theorem valAt_sl {B : Base} {v : Val} {p t z : Value} (h : ValAt B v p t z) : ∃ a b c i j k, p = .slice a v.pairs.length i ∧ t = .slice b v.texts.length j ∧ z = .slice c v.zset.length k := by
 obtain ⟨⟨a, i, h1, -⟩, ⟨b, j, h2, -⟩, ⟨c, k, h3, -⟩, -⟩ := h
 exact ⟨a, b, c, i, j, k, h1, h2, h3⟩
theorem valueSize0 (B : Base) (H : List Res) (w : World) (x : Val) (a b c : Option Addr) (i j k : Nat) (hp : x.pairs.length ≤ 1000000) (ht : x.texts.length ≤ 1000000) (hz : x.zset.length ≤ 1000000) (hv : Inv B H w) :
  Calls Tryz.prog 42 #[.agg #[vI x.kind, vS x.text, .slice a x.pairs.length i, .slice b x.texts.length j, .slice c x.zset.length k]] w fun e w' => e = .returned (vI (sizeV x : Int)) ∧ Inv B H w' := by
 refine cW Tryz.func42 rfl Tryz.ntmps42 ?_
 simp only [al]
 refine sK fun _ k1 => rL (sl_box (L := [vI x.kind, vS x.text, .slice a x.pairs.length i, .slice b x.texts.length j, .slice c x.zset.length k]) tV (wn rfl) rfl rfl hv (fun w => by kernel_rfl) (fun b2 w3 hv => ?_))
 refine uA rfl (uW k1 ?_)
 refine sK fun _ k4 => sK fun _ k5 => rL (uF (vP b2) rfl (s12fa43_0 _ _ _) ?_)
 refine uL _ rfl (run_load1 s2na3 (hv.load 0 0 rfl rfl)) ?_
 by_cases hb6 : x.kind = 1
 ·refine uG (.bool true) rfl (ex_eql rfl rfl rfl (qT hb6)) (uW k5 ?_)
  refine cT rfl (sK fun _ k7 => ?_)
  refine rL (uF (.pointer (some ⟨b2, 1, none⟩)) rfl (s12fa43_1 _ _ _) ?_)
  refine uL _ rfl (run_load1 s9na9 (hv.load 0 1 rfl rfl)) ?_
  refine uG (vI (x.text.length : Int)) rfl (ex_lenStr Tryz.underlying9 rfl rfl) (uA rfl ?_)
  refine uW k7 (rR ?_)
  refine tR (bR rfl rfl ?_)
  exact ⟨congrArg (fun n : Int => Ending.returned (vI n)) (by unfold sizeV; split <;> omega), (hv.kp [] 0 1)⟩
 refine uG (.bool false) rfl (ex_eql rfl rfl rfl (qF hb6)) (uW k5 ?_)
 refine cF rfl (kS ?_)
 refine tK k4 (sK fun _ k8 => ?_)
 refine rL (uF (.pointer (some ⟨b2, 2, none⟩)) rfl (s1fa43_2 _ _ _) ?_)
 refine uL _ rfl (run_load1 s1na40 (hv.load 0 2 rfl rfl)) ?_
 refine uG (vI (x.pairs.length : Int)) rfl (ex_len0 Tryz.underlying40 rfl rfl) ?_
 refine uF (.pointer (some ⟨b2, 3, none⟩)) rfl (s1fa43_3 _ _ _) ?_
 refine uL _ rfl (run_load1 s1na26 (hv.load 0 3 rfl rfl)) ?_
 refine uG (vI (x.texts.length : Int)) rfl (ex_len0 Tryz.underlying26 rfl rfl) ?_
 refine uG (vI ((x.pairs.length : Int) + (x.texts.length : Int))) rfl (ex_add rfl rfl rfl (i64_in (by omega))) ?_
 refine uF (.pointer (some ⟨b2, 4, none⟩)) rfl (s1fa43_4 _ _ _) ?_
 refine uL _ rfl (run_load1 s1na41 (hv.load 0 4 rfl rfl)) ?_
 refine uG (vI (x.zset.length : Int)) rfl (ex_len0 Tryz.underlying41 rfl rfl) ?_
 refine uG (vI (((x.pairs.length : Int) + (x.texts.length : Int)) + (x.zset.length : Int))) rfl (ex_add rfl rfl rfl (i64_in (by omega))) (uA rfl ?_)
 refine uW k8 (rR ?_)
 refine bR rfl rfl (⟨congrArg (fun n : Int => Ending.returned (vI n)) (by unfold sizeV; split <;> omega), (hv.kp [] 0 1)⟩)
theorem valueSize (B : Base) (H : List Res) (w : World) (x : Val) (p t z : Value) (h : ValAt B x p t z) (hv : Inv B H w) : Calls Tryz.prog 42 #[.agg (valCells x p t z).toArray] w fun e w' => e = .returned (vI (sizeV x : Int)) ∧ Inv B H w' := by
 obtain ⟨a, b, c, i, j, k, rfl, rfl, rfl⟩ := valAt_sl h
 exact valueSize0 B H w x a b c i j k h.pm h.tm h.zm hv
theorem v1al46 : AL Tryz.prog 46 [vI 0] := fun w => by kernel_rfl
theorem v1fa56_0 : FA Tryz.prog 56 0 0 := fun w b o => by kernel_rfl
theorem v1na54 (w : World) : (isAgg 54).run Tryz.prog w = .ok false w := by kernel_rfl
theorem v1callable217 : Callable Tryz.prog 217 := cb Tryz.func217 (by kernel_rfl)
theorem v1sz46 : (Tryz.prog.info? 46).map (·.size) = some 1 := by kernel_rfl
theorem v1na46 (w : World) : (isAgg 46).run Tryz.prog w = .ok false w := by kernel_rfl
theorem v1callable41 : Callable Tryz.prog 41 := cb Tryz.func41 (by kernel_rfl)
theorem v1rec41 (n : Nat) (x0 : Value) (w : World) : CallsDIn Fence.wide n Tryz.prog 41 #[x0] .returning w fun e u' w' => e = .returned (.tuple #[]) ∧ u' = .returning ∧ w' = w := by
 refine callsDIn_of_wpSIn Tryz.func41 rfl trivial fun c₀ cs hu => ?_
 apply wpSIn_seq
 apply wpSIn_region
 simp [wpOpsSIn, go_sem, recoverD, hu, Tryz.ntmps41, Exit.thenS]
 refine wpSIn_cond (t := false) (by simp [Act.eval, Array.replicate]) ?_
 simp only [Bool.false_eq_true, if_false]
 refine wpSIn_of_wpIn rfl (wpIn_skip ?_)
 cases c₀
 simp_all [bodyPostS, results, Tryz.results41]
theorem v1callable42 : Callable Tryz.prog 42 := cb Tryz.func42 (by kernel_rfl)
theorem v1callable215 : Callable Tryz.prog 215 := cb Tryz.func215 (by kernel_rfl)
theorem v1al50 : AL Tryz.prog 50 [vI 0, .bool false, vI 0, vI 0, vS [], vN, vN, vN] := fun w => by kernel_rfl
theorem v1mk9 : (Tryz.prog.info? 9).map (fun i => (i.zero, i.size, i.bytes)) = some (some (vS []), 1, 16) := by kernel_rfl
theorem v1el26 : Elem Tryz.prog 26 9 (vS []) 1 16 := elem_of Tryz.underlying26 v1mk9 (by rfl) (by decide)
theorem v1callable214 : Callable Tryz.prog 214 := cb Tryz.func214 (by kernel_rfl)
theorem viewKeep (B : Base) (H : List Res) (w : World) (v t m s p wb : Nat) (va : Option Addr) (vc : Nat) (sv : Value) (clk : Int) (es : List (List UInt8 × Value)) (M : List (List UInt8 × Ver)) (key : List UInt8) (x : Val) (xp xt xz : Value) (exp : Int) (hM : VM B es M) (hval : ValAt B x xp xt xz) (hv : Inv B (Res.cell v [.iface 100 (vP t)] 56 :: txR t m s p wb va vc sv clk es :: H) w) :
  Calls Tryz.prog 16 #[vP v, vS key, .agg #[vI x.kind, vS x.text, xp, xt, xz], vI exp] w fun e w' => ∃ C es' M' ec, B.Le C ∧ e = .returned (vI ec) ∧ VM C es' M' ∧ KeepI M clk key x exp ec M' ∧ Inv C (Res.cell v [.iface 100 (vP t)] 56 :: txR t m s p wb va vc sv clk es' :: H) w' := by
 refine (callsIn_wide (n := 5)).1 (callsIn_of_wp_defers Tryz.func16 rfl trivial ?_)
 simp only [Tryz.ntmps16, List.size_toArray, List.length_cons, List.length_nil, Nat.reduceAdd, Nat.reduceSub, Array.replicate_succ, Array.replicate_zero, List.push_toArray, List.append_toArray, List.nil_append, List.cons_append]
 refine sK fun _ k1 => rL (sl_box (L := [vI x.kind, vS x.text, xp, xt, xz]) tV (wn rfl) rfl rfl hv (fun w => by kernel_rfl) (fun b2 w3 hv => ?_))
 refine sl_alloc tV (wn rfl) rfl hv v1al46 (fun b4 w5 hv => ?_)
 refine uW k1 (sK fun _ k6 => ?_)
 refine rL (uG (.func (.func 41) #[] #[vP b4]) rfl (ex_makeFunc (c' := #[vP b4]) rfl (by simp only [List.map_toArray, List.map_nil]) (by simp only [List.map_toArray, List.map_cons, List.map_nil]; rfl)) ?_)
 refine wpi_defer tV rfl (wn rfl) rfl rfl (uW k6 ?_)
 refine sK fun _ k7 => sK fun _ k8 => rL (uF (vP b2) rfl (s12fa43_0 _ _ _) ?_)
 refine uL _ rfl (run_load1 s2na3 (hv.load 1 0 rfl rfl)) ?_
 by_cases hb9 : x.kind = 1
 ·refine uG (.bool true) rfl (ex_eql rfl rfl rfl (qT hb9)) (uM rfl ?_)
  iterate 3 refine uP rfl ?_
  refine uK rfl (uW k8 ?_)
  refine cT rfl (sK fun _ k10 => ?_)
  refine rW mixed [6, 10, 11] [0,1,2,3,4,5,7,8,9,6,10,11] 48 rfl (by kernel_rfl) hv ?_
  simp only [qm, opAt]
  refine dM (vP v) rfl (dG (vP v) rfl (ex_nil rfl rfl) ?_)
  refine dG (vP v) rfl (ex_field rfl rfl (v1fa56_0 _ _ _)) ?_
  simp only [zP, po]
  refine dF _ rfl (fun hv => ex_load rfl rfl (run_load1 v1na54 (hv.load 2 0 rfl rfl))) fun f11 hf11 => dM (vS key) rfl (dL (.agg #[vI x.kind, vS x.text, xp, xt, xz]) rfl (fun hv => ex_load rfl rfl (lM 1 s1wd43 hv rfl rfl rfl rfl)) ?_)
  simp only [zP, po]
  refine dM (vI exp) rfl (dG (.iface 100 (vP t)) rfl (ex_nilI rfl rfl) ?_)
  refine dM (.iface 100 (vP t)) rfl ?_
  simp only [zP, po]
  refine dS rfl fun w12 hv => mC x2callable43 rfl ((valueClone _ _ _ x xp xt xz (hval.more (Base.Le.refl _)) hv).mono ?_) rfl
  rintro e w17 ⟨C13, p14, t15, z16, hC13, rfl, hp14, hv⟩
  refine ⟨_, rfl, dV hv (fC (fun ww hv => hf11 ww (ex_load rfl rfl (run_load1 v1na54 (hv.load 2 0 rfl rfl)))) fN) ?_⟩
  refine dS rfl fun w18 hv => ?_
  replace hv := hv.front 3 rfl
  simp only [eS, eZ] at hv
  refine stepMem_callI v1callable217 rfl rfl rfl (r := vP t) (fun w => by kernel_rfl) (args := #[vS key, .agg #[vI x.kind, vS x.text, p14, t15, z16], vI exp]) (by simp only [List.map_toArray, List.map_cons, List.map_nil]; rfl) ((txnPut C13 _ _ t m s p wb va vc sv clk es M key x p14 t15 z16 exp (hM.more hC13) hp14 hv).mono ?_)
  rintro e w19 ⟨D, es2, ec, hD, rfl, hput, hv⟩
  refine ⟨_, rfl, dV hv (fK rfl fN) ?_⟩
  refine dS rfl fun w20 hv => mV 1 (vI ec) rfl hv v1sz46 rfl rfl (fun w21 hv => ?_)
  simp only [zS, zO, sp] at hv
  refine dV hv (fK rfl fN) (dE fun w22 hv => ?_)
  simp only [zP, po]
  refine tK k10 (rR ?_)
  refine tR (leave_rec v1callable41 (v1rec41 _ _ _) (res_cell1 rfl rfl (run_load1 v1na46 (hv.load 1 0 rfl rfl))) ?_)
  have hfull : FullV x := .inl hb9
  rcases hput with ⟨rfl, hok, hM2⟩ | ⟨rfl, hok, he9⟩
  ·exact ⟨_, _, _, 0, (hC13.trans hD), rfl, hM2, .inl ⟨hfull, hok, rfl, rfl⟩, (hv.kp [3] 2 2)⟩
  rw [he9] at hv
  exact ⟨_, _, M, 2, (hC13.trans hD), rfl, hM.more (hC13.trans hD), .inr (.inl ⟨hfull, hok, rfl, rfl⟩), (hv.kp [3] 2 2)⟩
 refine uG (.bool false) rfl (ex_eql rfl rfl rfl (qF hb9)) (uM rfl ?_)
 refine uL (.agg #[vI x.kind, vS x.text, xp, xt, xz]) rfl (lM 1 s1wd43 hv rfl rfl rfl rfl) ?_
 refine xC v1callable42 rfl ((valueSize B _ _ x xp xt xz hval hv).mono ?_) rfl
 rintro e w23 ⟨rfl, hv⟩
 refine ⟨_, rfl, ?_⟩
 simp only [zP, po]
 by_cases hb24 : (sizeV x : Int) > 0
 ·refine uG (.bool true) rfl (ex_gtr rfl rfl rfl (qT hb24)) (uK rfl ?_)
  refine uW k8 (cT rfl ?_)
  refine sK fun _ k25 => rW mixed [6, 10, 11] [0,1,2,3,4,5,7,8,9,6,10,11] 48 rfl (by kernel_rfl) hv ?_
  simp only [qm, opAt]
  refine dM (vP v) rfl (dG (vP v) rfl (ex_nil rfl rfl) ?_)
  refine dG (vP v) rfl (ex_field rfl rfl (v1fa56_0 _ _ _)) ?_
  simp only [zP, po]
  refine dF _ rfl (fun hv => ex_load rfl rfl (run_load1 v1na54 (hv.load 2 0 rfl rfl))) fun f26 hf26 => dM (vS key) rfl (dL (.agg #[vI x.kind, vS x.text, xp, xt, xz]) rfl (fun hv => ex_load rfl rfl (lM 1 s1wd43 hv rfl rfl rfl rfl)) ?_)
  simp only [zP, po]
  refine dM (vI exp) rfl (dG (.iface 100 (vP t)) rfl (ex_nilI rfl rfl) ?_)
  refine dM (.iface 100 (vP t)) rfl ?_
  simp only [zP, po]
  refine dS rfl fun w27 hv => mC x2callable43 rfl ((valueClone _ _ _ x xp xt xz (hval.more (Base.Le.refl _)) hv).mono ?_) rfl
  rintro e w32 ⟨C28, p29, t30, z31, hC28, rfl, hp29, hv⟩
  refine ⟨_, rfl, dV hv (fC (fun ww hv => hf26 ww (ex_load rfl rfl (run_load1 v1na54 (hv.load 2 0 rfl rfl)))) fN) ?_⟩
  refine dS rfl fun w33 hv => ?_
  replace hv := hv.front 3 rfl
  simp only [eS, eZ] at hv
  refine stepMem_callI v1callable217 rfl rfl rfl (r := vP t) (fun w => by kernel_rfl) (args := #[vS key, .agg #[vI x.kind, vS x.text, p29, t30, z31], vI exp]) (by simp only [List.map_toArray, List.map_cons, List.map_nil]; rfl) ((txnPut C28 _ _ t m s p wb va vc sv clk es M key x p29 t30 z31 exp (hM.more hC28) hp29 hv).mono ?_)
  rintro e w34 ⟨D, es2, ec, hD, rfl, hput, hv⟩
  refine ⟨_, rfl, dV hv (fK rfl fN) ?_⟩
  refine dS rfl fun w35 hv => mV 1 (vI ec) rfl hv v1sz46 rfl rfl (fun w36 hv => ?_)
  simp only [zS, zO, sp] at hv
  refine dV hv (fK rfl fN) (dE fun w37 hv => ?_)
  simp only [zP, po]
  refine tK k25 (rR ?_)
  refine tR (leave_rec v1callable41 (v1rec41 _ _ _) (res_cell1 rfl rfl (run_load1 v1na46 (hv.load 1 0 rfl rfl))) ?_)
  have hfull : FullV x := .inr (by have h9 := hb24; unfold sizeV at h9; rw [if_neg hb9] at h9; omega)
  rcases hput with ⟨rfl, hok, hM2⟩ | ⟨rfl, hok, he9⟩
  ·exact ⟨_, _, _, 0, (hC28.trans hD), rfl, hM2, .inl ⟨hfull, hok, rfl, rfl⟩, (hv.kp [3] 2 2)⟩
  rw [he9] at hv
  exact ⟨_, _, M, 2, (hC28.trans hD), rfl, hM.more (hC28.trans hD), .inr (.inl ⟨hfull, hok, rfl, rfl⟩), (hv.kp [3] 2 2)⟩
 refine uG (.bool false) rfl (ex_gtr rfl rfl rfl (qF hb24)) (uK rfl ?_)
 refine uW k8 (cF rfl ?_)
 refine kS (tK k7 ?_)
 refine sK fun _ k38 => sK fun _ k39 => rL (uM rfl ?_)
 refine uG (vP v) rfl (ex_nil rfl rfl) ?_
 refine uF (vP v) rfl (v1fa56_0 _ _ _) ?_
 refine uL _ rfl (run_load1 v1na54 (hv.load 2 0 rfl rfl)) (uM rfl ?_)
 replace hv := hv.front 3 rfl
 simp only [eS, eZ] at hv
 refine wpi_callI v1callable215 tV wideC rfl (wn rfl) rfl rfl (r := vP t) (fun w => by kernel_rfl) (args := #[vS key]) (by simp only [List.map_toArray, List.map_cons, List.map_nil]; rfl) ((txnGet B _ _ t m s p wb va vc sv clk es M key hM hv).mono ?_)
 rintro e w40 ⟨C, x2, yp, yt, yz, ok, hBC, rfl, hget, hyv, hv⟩
 refine ⟨_, rfl, ?_⟩
 rcases hget with ⟨rfl, hlk, hal⟩ | ⟨rfl, hx0, hdead⟩
 ·refine uM rfl (uE rfl ?_)
  refine uE rfl ?_
  refine sl_alloc tV (wn rfl) rfl hv v1al50 (fun b41 w42 hv => ?_)
  refine xS 0 rfl hv x0sz50 rfl (by exact ⟨rfl, rfl, rfl, rfl, rfl, hyv.p.one, hyv.t.one, hyv.z.one, trivial⟩) (fun w43 hv => ?_)
  simp only [zO, sp] at hv
  refine uA rfl (uW k39 ?_)
  refine sK fun _ k44 => rL (uM rfl ?_)
  refine uW k44 (cT rfl ?_)
  refine sK fun _ k45 => rL (uM rfl ?_)
  refine uG (vP v) rfl (ex_nil rfl rfl) ?_
  refine uF (vP v) rfl (v1fa56_0 _ _ _) ?_
  refine uL _ rfl (run_load1 v1na54 (hv.load 4 0 rfl rfl)) (uM rfl ?_)
  refine sl_rowOne (v := vS key) tV (wn rfl) rfl rfl hv v1el26 rfl (fun b46 w47 hv => ?_)
  simp only [zP, po]
  obtain ⟨D, hD, hv, hrk, -, -⟩ := (hv.cellRow (n := 1) (c := 1) (size := 1) rfl (by decide) (by decide)).rowBy
  replace hv := hv.front 1 rfl
  simp only [eS, eZ] at hv
  refine wpi_callI v1callable214 tV wideC rfl (wn rfl) rfl rfl (r := vP t) (fun w => by kernel_rfl) (args := #[.slice (some ⟨b46, 0, none⟩) 1 1]) (by simp only [List.map_toArray, List.map_cons, List.map_nil]; rfl) ((txnDel D _ _ t m s p wb va vc sv clk es M _ 1 [key] hrk (by simp) (hM.more (hBC.trans hD)) hv).mono ?_)
  rintro e w48 ⟨es2, ec, rfl, hdel, hv⟩
  refine ⟨_, rfl, ?_⟩
  refine xV 2 (vI ec) rfl hv v1sz46 rfl rfl (fun w49 hv => ?_)
  simp only [zS, zO, sp] at hv
  refine uW k45 (rR ?_)
  refine tR (leave_rec v1callable41 (v1rec41 _ _ _) (res_cell1 rfl rfl (run_load1 v1na46 (hv.load 2 0 rfl rfl))) ?_)
  have hnf : ¬ FullV x := fun h => h.elim hb9 (fun h => by have h9 := hb24; unfold sizeV at h9; rw [if_neg hb9] at h9; omega)
  rcases hdel with ⟨rfl, hk, hM2⟩ | ⟨rfl, hk, he9⟩
  ·exact ⟨_, _, updA M key gver, 0, (hBC.trans hD), rfl, hM2, .inr (.inr (.inr ⟨hnf, ⟨x2, hlk, hal⟩, .inl ⟨by simpa using hk, rfl, rfl⟩⟩)), (hv.kp [4] 2 3)⟩
  rw [he9] at hv
  exact ⟨_, _, M, 2, (hBC.trans hD), rfl, hM.more (hBC.trans hD), .inr (.inr (.inr ⟨hnf, ⟨x2, hlk, hal⟩, .inr ⟨by simpa using hk, rfl, rfl⟩⟩)), (hv.kp [4] 2 3)⟩
 refine uM rfl (uE rfl ?_)
 refine uE rfl ?_
 refine sl_alloc tV (wn rfl) rfl hv v1al50 (fun b50 w51 hv => ?_)
 refine xS 0 rfl hv x0sz50 rfl (by exact ⟨rfl, rfl, rfl, rfl, rfl, hyv.p.one, hyv.t.one, hyv.z.one, trivial⟩) (fun w52 hv => ?_)
 simp only [zO, sp] at hv
 refine uA rfl (uW k39 ?_)
 refine sK fun _ k53 => rL (uM rfl ?_)
 refine uW k53 (cF rfl ?_)
 refine kS (tK k38 ?_)
 refine sK fun _ k54 => rL (xV 2 (vI 0) rfl hv v1sz46 rfl rfl (fun w55 hv => ?_))
 simp only [zS, zO, sp] at hv
 refine uW k54 (rR ?_)
 refine leave_rec v1callable41 (v1rec41 _ _ _) (res_cell1 rfl rfl (run_load1 v1na46 (hv.load 2 0 rfl rfl))) ?_
 have hnf : ¬ FullV x := fun h => h.elim hb9 (fun h => by have h9 := hb24; unfold sizeV at h9; rw [if_neg hb9] at h9; omega)
 exact ⟨_, _, M, 0, hBC, rfl, hM.more hBC, .inr (.inr (.inl ⟨hnf, hdead, rfl, rfl⟩)), (hv.kp [1, 4] 2 3)⟩
end Go.Proofs.YtngpmolbphinnaaGreatDoor
namespace Go.Pm
open Go.RowKit
structure KeyR where
 name : List UInt8
 val : Val
 exp : Int
inductive Rp where
 | mk (kind : Int) (s : List UInt8) (n : Int) (l : List Rp)
def Rp.kind : Rp → Int
 | .mk k _ _ _ => k
abbrev rpCells (k : Int) (s : List UInt8) (n : Int) (v : Value) : List Value := [.int .i64 k, strV s, .int .i64 n, v]
mutual
def RpAt (B : Base) : Rp → List Value → Prop
 | .mk k s n l, cs => ∃ v xs, cs = rpCells k s n v ∧ RowB B v l.length xs ∧ RpsAt B l xs
def RpsAt (B : Base) : List Rp → List Value → Prop
 | [], xs => xs = []
 | r :: l, xs => ∃ cs ys, xs = cs ++ ys ∧ RpAt B r cs ∧ RpsAt B l ys
end
mutual
theorem RpAt.more {B C : Base} (hB : B.Le C) : ∀ {r : Rp} {cs : List Value}, RpAt B r cs → RpAt C r cs
 | .mk _ _ _ _, _, h => by
  simp only [RpAt] at h ⊢
  obtain ⟨v, xs, h1, h2, h3⟩ := h
  exact ⟨v, xs, h1, h2.more hB, RpsAt.more hB h3⟩
theorem RpsAt.more {B C : Base} (hB : B.Le C) : ∀ {l : List Rp} {xs : List Value}, RpsAt B l xs → RpsAt C l xs
 | [], _, h => by simp only [RpsAt] at h ⊢; exact h
 | _ :: _, _, h => by
  simp only [RpsAt] at h ⊢
  obtain ⟨cs, ys, h1, h2, h3⟩ := h
  exact ⟨cs, ys, h1, RpAt.more hB h2, RpsAt.more hB h3⟩
end
theorem RpAt.len {B : Base} {r : Rp} {cs : List Value} (h : RpAt B r cs) : cs.length = 4 := by
 cases r; simp only [RpAt] at h
 obtain ⟨v, xs, rfl, -⟩ := h; rfl
theorem RpsAt.nil {B : Base} : RpsAt B [] [] := by simp only [RpsAt]
theorem RpsAt.cons {B : Base} {r : Rp} {l : List Rp} {cs ys : List Value} (h1 : RpAt B r cs) (h2 : RpsAt B l ys) : RpsAt B (r :: l) (cs ++ ys) := by
 simp only [RpsAt]; exact ⟨cs, ys, rfl, h1, h2⟩
theorem RpsAt.uncons {B : Base} {r : Rp} {l : List Rp} {xs : List Value} (h : RpsAt B (r :: l) xs) : ∃ cs ys, xs = cs ++ ys ∧ RpAt B r cs ∧ RpsAt B l ys := by
 simp only [RpsAt] at h; exact h
theorem RpsAt.append {B : Base} {k : List Rp} {ys : List Value} (hk : RpsAt B k ys) : ∀ {l : List Rp} {xs : List Value}, RpsAt B l xs → RpsAt B (l ++ k) (xs ++ ys)
 | [], xs, h => by
  simp only [RpsAt] at h; subst h; exact hk
 | r :: l, xs, h => by
  obtain ⟨cs, zs, rfl, h1, h2⟩ := h.uncons
  rw [List.append_assoc]
  exact RpsAt.cons h1 (RpsAt.append hk h2)
theorem RpsAt.single {B : Base} {r : Rp} {cs : List Value} (h : RpAt B r cs) : RpsAt B [r] cs := by
 have := RpsAt.cons h (RpsAt.nil (B := B))
 rwa [List.append_nil] at this
theorem RpsAt.len {B : Base} : ∀ {l : List Rp} {xs : List Value}, RpsAt B l xs → xs.length = l.length * 4
 | [], xs, h => by simp only [RpsAt] at h; subst h; rfl
 | r :: l, xs, h => by
  obtain ⟨cs, zs, rfl, h1, h2⟩ := h.uncons
  rw [List.length_append, RpsAt.len h2, h1.len, List.length_cons]; omega
theorem RpsAt.get {B : Base} : ∀ {l : List Rp} {xs : List Value}, RpsAt B l xs → ∀ i (hi : i < l.length), ∃ cs, RpAt B l[i] cs ∧ ∀ j, j < 4 → cs[j]? = (xs.drop (i * 4))[j]?
 | [], _, _, i, hi => by simp at hi
 | r :: l, xs, h, i, hi => by
  obtain ⟨cs, zs, rfl, h1, h2⟩ := h.uncons
  cases i with
  | zero => exact ⟨cs, h1, fun j hj => by rw [Nat.zero_mul, List.drop_zero, List.getElem?_append_left (by rw [h1.len]; exact hj)]⟩
  | succ i =>
   obtain ⟨cs', e1, e2⟩ := RpsAt.get h2 i (by simpa using hi)
   refine ⟨cs', e1, fun j hj => (e2 j hj).trans ?_⟩
   rw [show (i + 1) * 4 = cs.length + i * 4 by rw [h1.len, Nat.succ_mul]; omega, ← List.drop_drop, List.drop_left]
theorem RpsAt.reads {B : Base} {l : List Rp} {xs : List Value} {ad : Option Addr} {i : Nat} {k : Int} {s : List UInt8} {n : Int} {q : List Rp} (h : RpsAt B l xs) (hr : RdV B [] ad xs) (hx : l[i]? = some (.mk k s n q)) :
  ∃ b off v ys, ad = some ⟨b, off, none⟩ ∧ RowB B v q.length ys ∧ RpsAt B q ys ∧ Reads B [] b (off + i * 4) (rpCells k s n v) := by
 obtain ⟨hi, hx⟩ := List.getElem?_eq_some_iff.1 hx
 obtain ⟨cs, h1, h2⟩ := h.get i hi
 rw [hx] at h1
 simp only [RpAt] at h1
 obtain ⟨v, ys, rfl, h3, h4⟩ := h1
 have hl := h.len
 have hle : i * 4 + 4 ≤ xs.length := by rw [hl]; have := Nat.mul_le_mul_right 4 (show i + 1 ≤ l.length by omega); rw [Nat.succ_mul] at this; exact this
 obtain ⟨b, off, h5, h6⟩ := rdW_reads (cs := rpCells k s n v) (k := i * 4) (m := 4) (hr.rdW []) hle (by decide) rfl (fun j hj => by
  rw [h2 j hj, List.getElem?_drop])
 exact ⟨b, off, v, ys, h5, h3, h4, h6⟩
def rInt (n : Int) : Rp := .mk 2 [] n []
def rStr (s : List UInt8) : Rp := .mk 3 s 0 []
def rText (s : List UInt8) : Rp := .mk 0 s 0 []
def rFault (s : List UInt8) : Rp := .mk 1 s 0 []
def rList (l : List Rp) : Rp := .mk 5 [] 0 l
def rStrs (l : List (List UInt8)) : Rp := rList (l.map rStr)
theorem RpAt.lv {B : Base} {r : Rp} {k : Int} {s : List UInt8} {n : Int} {v : Value} (h : RpAt B r (rpCells k s n v)) : v.cells = #[v] ∧ v.oneCell' = true := by
 cases r; simp only [RpAt] at h
 obtain ⟨v2, xs, h1, h2, -⟩ := h
 simp only [List.cons.injEq, and_true] at h1
 obtain ⟨-, -, -, rfl⟩ := h1
 exact ⟨h2.cells, h2.one⟩
theorem rpAt_leaf {B : Base} {k : Int} {s : List UInt8} {n : Int} : RpAt B (.mk k s n []) (rpCells k s n (.slice none 0 0)) := by
 simp only [RpAt]
 exact ⟨_, [], rfl, ⟨none, 0, rfl, ⟨Nat.le_refl _, Nat.zero_le _, fun _ => rfl⟩, rdV_nil⟩, RpsAt.nil⟩
theorem rpAt_of {B : Base} {k : Int} {s : List UInt8} {n : Int} {l : List Rp} {v : Value} {xs : List Value} (h1 : RowB B v l.length xs) (h2 : RpsAt B l xs) : RpAt B (.mk k s n l) (rpCells k s n v) := by
 simp only [RpAt]; exact ⟨v, xs, rfl, h1, h2⟩
def strsCells (l : List (List UInt8)) : List Value := l.flatMap fun s => rpCells 3 s 0 (.slice none 0 0)
theorem strsCells_at {B : Base} : ∀ (l : List (List UInt8)), RpsAt B (l.map rStr) (strsCells l)
 | [] => RpsAt.nil
 | s :: l => RpsAt.cons (rpAt_leaf (k := 3) (s := s) (n := 0)) (strsCells_at l)
theorem strsCells_next {l : List (List UInt8)} {i : Nat} {x : List UInt8} (h : l[i]? = some x) : strsCells (l.take (i + 1)) = strsCells (l.take i) ++ rpCells 3 x 0 (.slice none 0 0) := by
 rw [take_next h]; unfold strsCells; rw [List.flatMap_append]; rfl
end Go.Pm
namespace Go.Proofs.YtngpmolbphinnaaGreatDoor
open Go.RowKit Go.Pm
def OkM (M : List (List UInt8 × Ver)) : Prop := ∀ k y, lookA M k = some y → y.gone = true ∨ PutOk k y.val y.expire
section
variable {M M' : List (List UInt8 × Ver)} {clk exp ec : Int} {key : List UInt8} {x : Val} {y : Ver}
theorem OkM.nil : OkM [] := fun k y h => by cases h
theorem OkM.upd (h : OkM M) {k : List UInt8} {y : Ver} (hy : y.gone = true ∨ PutOk k y.val y.expire) : OkM (updA M k y) := fun k2 y2 h2 => by
 rw [look_upd] at h2
 split at h2
 ·rename_i e; cases h2; subst e; exact hy
 exact h k2 y2 h2
theorem OkM.keep (h : OkM M) (hk : KeepI M clk key x exp ec M') : OkM M' := by
 rcases hk with ⟨-, h1, -, rfl⟩ | ⟨-, -, -, rfl⟩ | ⟨-, -, -, rfl⟩ | ⟨-, -, ⟨-, -, rfl⟩ | ⟨-, -, rfl⟩⟩
 ·exact h.upd (.inr h1)
 ·exact h
 ·exact h
 ·exact h.upd (.inl rfl)
 exact h
theorem keep_not (hk : KeepI M clk key x exp ec M') (he : ec ≠ 0) : M' = M := by
 rcases hk with ⟨-, -, h, -⟩ | ⟨-, -, -, rfl⟩ | ⟨-, -, -, rfl⟩ | ⟨-, -, ⟨-, h, -⟩ | ⟨-, -, rfl⟩⟩
 ·exact absurd h he
 ·rfl
 ·rfl
 ·exact absurd h he
 rfl
theorem alive_gone {y : Ver} (h : aliveB y clk = true) : y.gone = false := by
 unfold aliveB at h
 cases hy : y.gone <;> simp [hy] at h ⊢
theorem OkM.alive (h : OkM M) (hl : lookA M key = some y) (ha : aliveB y clk = true) : PutOk key y.val y.expire := by
 rcases h key y hl with h1 | h1
 ·rw [alive_gone ha] at h1; cases h1
 exact h1
end
def IsF (r : Rp) : Prop := r.kind = 1
def DoneR (ec : Int) (r0 r : Rp) : Prop := (ec = 0 ∧ r = r0) ∨ (ec ≠ 0 ∧ IsF r)
def CmdR (M M' : List (List UInt8 × Ver)) (r : Rp) : Prop := OkM M' ∧ (IsF r → M' = M)
theorem isF_int {n : Int} : ¬ IsF (rInt n) := fun h => absurd (show (2 : Int) = 1 from h) (by decide)
theorem DoneR.keep {M M' : List (List UInt8 × Ver)} {clk exp ec : Int} {key : List UInt8} {x : Val} {r0 r : Rp} (hM : OkM M) (hk : KeepI M clk key x exp ec M') (hd : DoneR ec r0 r) (h0 : ¬ IsF r0) : CmdR M M' r := by
 refine ⟨hM.keep hk, fun hf => ?_⟩
 rcases hd with ⟨-, rfl⟩ | ⟨he, -⟩
 ·exact absurd hf h0
 exact keep_not hk he
theorem rsal34 : AL Tryz.prog 34 [vI 0, vS [], vI 0, vN] := fun w => by kernel_rfl
theorem rssz34 : (Tryz.prog.info? 34).map (·.size) = some 4 := by kernel_rfl
theorem rswd34 : Wide Tryz.prog 34 4 := wide_of (fun w => by kernel_rfl) (by kernel_rfl)
theorem respInt (B : Base) (H : List Res) (w : World) (n : Int) (hv : Inv B H w) :
  Calls Tryz.prog 54 #[vI n] w fun e w' => e = .returned (.agg #[vI 2, vS [], vI n, vN]) ∧ Inv B H w' := by
 refine cW Tryz.func54 rfl Tryz.ntmps54 ?_
 simp only [al]
 refine sK fun _ k1 => rL (sl_alloc tV (wn rfl) rfl hv rsal34 (fun b2 w3 hv => ?_))
 refine uW k1 (sK fun _ k4 => ?_)
 refine rL (uM rfl ?_)
 refine uG (.agg #[vI 2, vS [], vI n, vN]) rfl (ex_buildN (vs := #[(0, vI 2), (2, vI n)]) rfl (by simp only [List.map_toArray, List.map_cons, List.map_nil]; rfl) (by kernel_rfl)) ?_
 refine xS 0 rfl hv rssz34 rfl (by exact ⟨rfl, rfl, rfl, rfl, trivial⟩) (fun w5 hv => ?_)
 simp only [zO, sp] at hv
 refine uW k4 (rR ?_)
 refine bC 0 rswd34 hv rfl rfl rfl rfl (⟨rfl, (hv.kp [] 0 1)⟩)
theorem respStr (B : Base) (H : List Res) (w : World) (s : List UInt8) (hv : Inv B H w) :
  Calls Tryz.prog 84 #[vS s] w fun e w' => e = .returned (.agg #[vI 3, vS s, vI 0, vN]) ∧ Inv B H w' := by
 refine cW Tryz.func84 rfl Tryz.ntmps84 ?_
 simp only [al]
 refine sK fun _ k1 => rL (sl_alloc tV (wn rfl) rfl hv rsal34 (fun b2 w3 hv => ?_))
 refine uW k1 (sK fun _ k4 => ?_)
 refine rL (uM rfl ?_)
 refine uG (.agg #[vI 3, vS s, vI 0, vN]) rfl (ex_buildN (vs := #[(0, vI 3), (1, vS s)]) rfl (by simp only [List.map_toArray, List.map_cons, List.map_nil]; rfl) (by kernel_rfl)) ?_
 refine xS 0 rfl hv rssz34 rfl (by exact ⟨rfl, rfl, rfl, rfl, trivial⟩) (fun w5 hv => ?_)
 simp only [zO, sp] at hv
 refine uW k4 (rR ?_)
 refine bC 0 rswd34 hv rfl rfl rfl rfl (⟨rfl, (hv.kp [] 0 1)⟩)
theorem respText (B : Base) (H : List Res) (w : World) (s : List UInt8) (hv : Inv B H w) :
  Calls Tryz.prog 58 #[vS s] w fun e w' => e = .returned (.agg #[vI 0, vS s, vI 0, vN]) ∧ Inv B H w' := by
 refine cW Tryz.func58 rfl Tryz.ntmps58 ?_
 simp only [al]
 refine sK fun _ k1 => rL (sl_alloc tV (wn rfl) rfl hv rsal34 (fun b2 w3 hv => ?_))
 refine uW k1 (sK fun _ k4 => ?_)
 refine rL (uM rfl ?_)
 refine uG (.agg #[vI 0, vS s, vI 0, vN]) rfl (ex_buildN (vs := #[(0, vI 0), (1, vS s)]) rfl (by simp only [List.map_toArray, List.map_cons, List.map_nil]; rfl) (by kernel_rfl)) ?_
 refine xS 0 rfl hv rssz34 rfl (by exact ⟨rfl, rfl, rfl, rfl, trivial⟩) (fun w5 hv => ?_)
 simp only [zO, sp] at hv
 refine uW k4 (rR ?_)
 refine bC 0 rswd34 hv rfl rfl rfl rfl (⟨rfl, (hv.kp [] 0 1)⟩)
theorem respWrong (B : Base) (H : List Res) (w : World) (s : List UInt8) (hv : Inv B H w) :
  Calls Tryz.prog 52 #[vS s] w fun e w' => e = .returned (.agg #[vI 1, vS s, vI 0, vN]) ∧ Inv B H w' := by
 refine cW Tryz.func52 rfl Tryz.ntmps52 ?_
 simp only [al]
 refine sK fun _ k1 => rL (sl_alloc tV (wn rfl) rfl hv rsal34 (fun b2 w3 hv => ?_))
 refine uW k1 (sK fun _ k4 => ?_)
 refine rL (uM rfl ?_)
 refine uG (.agg #[vI 1, vS s, vI 0, vN]) rfl (ex_buildN (vs := #[(0, vI 1), (1, vS s)]) rfl (by simp only [List.map_toArray, List.map_cons, List.map_nil]; rfl) (by kernel_rfl)) ?_
 refine xS 0 rfl hv rssz34 rfl (by exact ⟨rfl, rfl, rfl, rfl, trivial⟩) (fun w5 hv => ?_)
 simp only [zO, sp] at hv
 refine uW k4 (rR ?_)
 refine bC 0 rswd34 hv rfl rfl rfl rfl (⟨rfl, (hv.kp [] 0 1)⟩)
theorem rscallable52 : Callable Tryz.prog 52 := cb Tryz.func52 (by kernel_rfl)
theorem viewWrong (B : Base) (H : List Res) (w : World) (n : Int) (hv : Inv B H w) :
  Calls Tryz.prog 29 #[vI n] w fun e w' => ∃ s : List UInt8, e = .returned (.agg #[vI 1, vS s, vI 0, vN]) ∧ Inv B H w' := by
 refine cW Tryz.func29 rfl Tryz.ntmps29 ?_
 simp only [al]
 refine sK fun _ k1 => rL (sl_alloc tV (wn rfl) rfl hv rsal34 (fun b2 w3 hv => ?_))
 refine uW k1 (sK fun _ k4 => ?_)
 refine sK fun _ k5 => rL (uM rfl ?_)
 refine uW k5 (bB ?_)
 refine sK fun _ k6 => rL ?_
 by_cases hb7 : n = 40
 ·refine uG (.bool true) rfl (ex_eql rfl rfl rfl (qT hb7)) (uA rfl ?_)
  refine uW k6 (cT rfl ?_)
  refine sK fun _ k8 => rL (xC rscallable52 rfl ((respWrong B _ _ ([87, 82, 79, 78, 71, 84, 89, 80, 69, 32, 116, 104, 101, 32, 107, 101, 121, 32, 104, 97, 115, 32, 97, 32, 118, 97, 108, 117, 101, 32, 111, 102, 32, 97, 110, 111, 116, 104, 101, 114, 32, 107, 105, 110, 100] : List UInt8) hv).mono ?_) rfl)
  rintro e w9 ⟨rfl, hv⟩
  refine ⟨_, rfl, ?_⟩
  refine xS 0 rfl hv rssz34 rfl (by exact ⟨rfl, rfl, rfl, rfl, trivial⟩) (fun w10 hv => ?_)
  simp only [zO, sp] at hv
  refine uW k8 (rR ?_)
  refine bZ (tR ?_)
  refine bC 0 rswd34 hv rfl rfl rfl rfl (⟨_, rfl, (hv.kp [] 0 1)⟩)
 refine uG (.bool false) rfl (ex_eql rfl rfl rfl (qF hb7)) (uA rfl ?_)
 refine uW k6 (cF rfl ?_)
 refine sK fun _ k11 => rL ?_
 by_cases hb12 : n = 41
 ·refine uG (.bool true) rfl (ex_eql rfl rfl rfl (qT hb12)) (uA rfl ?_)
  refine uW k11 (cT rfl ?_)
  refine sK fun _ k13 => rL (xC rscallable52 rfl ((respWrong B _ _ ([69, 82, 82, 32, 105, 116, 32, 105, 115, 32, 110, 111, 32, 110, 117, 109, 98, 101, 114] : List UInt8) hv).mono ?_) rfl)
  rintro e w14 ⟨rfl, hv⟩
  refine ⟨_, rfl, ?_⟩
  refine xS 0 rfl hv rssz34 rfl (by exact ⟨rfl, rfl, rfl, rfl, trivial⟩) (fun w15 hv => ?_)
  simp only [zO, sp] at hv
  refine uW k13 (rR ?_)
  refine bZ (tR ?_)
  refine bC 0 rswd34 hv rfl rfl rfl rfl (⟨_, rfl, (hv.kp [] 0 1)⟩)
 refine uG (.bool false) rfl (ex_eql rfl rfl rfl (qF hb12)) (uA rfl ?_)
 refine uW k11 (cF rfl ?_)
 refine sK fun _ k16 => rL ?_
 by_cases hb17 : n = 13
 ·refine uG (.bool true) rfl (ex_eql rfl rfl rfl (qT hb17)) (uA rfl ?_)
  refine uW k16 (cT rfl ?_)
  refine sK fun _ k18 => rL (xC rscallable52 rfl ((respWrong B _ _ ([69, 82, 82, 32, 116, 104, 101, 32, 110, 117, 109, 98, 101, 114, 32, 105, 115, 32, 116, 111, 111, 32, 103, 114, 101, 97, 116, 32, 111, 114, 32, 116, 111, 111, 32, 115, 109, 97, 108, 108] : List UInt8) hv).mono ?_) rfl)
  rintro e w19 ⟨rfl, hv⟩
  refine ⟨_, rfl, ?_⟩
  refine xS 0 rfl hv rssz34 rfl (by exact ⟨rfl, rfl, rfl, rfl, trivial⟩) (fun w20 hv => ?_)
  simp only [zO, sp] at hv
  refine uW k18 (rR ?_)
  refine bZ (tR ?_)
  refine bC 0 rswd34 hv rfl rfl rfl rfl (⟨_, rfl, (hv.kp [] 0 1)⟩)
 refine uG (.bool false) rfl (ex_eql rfl rfl rfl (qF hb17)) (uA rfl ?_)
 refine uW k16 (cF rfl ?_)
 refine sK fun _ k21 => rL ?_
 by_cases hb22 : n = 42
 ·refine uG (.bool true) rfl (ex_eql rfl rfl rfl (qT hb22)) (uA rfl ?_)
  refine uW k21 (cT rfl ?_)
  refine sK fun _ k23 => rL (xC rscallable52 rfl ((respWrong B _ _ ([69, 82, 82, 32, 115, 121, 110, 116, 97, 120] : List UInt8) hv).mono ?_) rfl)
  rintro e w24 ⟨rfl, hv⟩
  refine ⟨_, rfl, ?_⟩
  refine xS 0 rfl hv rssz34 rfl (by exact ⟨rfl, rfl, rfl, rfl, trivial⟩) (fun w25 hv => ?_)
  simp only [zO, sp] at hv
  refine uW k23 (rR ?_)
  refine bZ (tR ?_)
  refine bC 0 rswd34 hv rfl rfl rfl rfl (⟨_, rfl, (hv.kp [] 0 1)⟩)
 refine uG (.bool false) rfl (ex_eql rfl rfl rfl (qF hb22)) (uA rfl ?_)
 refine uW k21 (cF rfl ?_)
 refine sK fun _ k26 => rL ?_
 by_cases hb27 : n = 43
 ·refine uG (.bool true) rfl (ex_eql rfl rfl rfl (qT hb27)) (uA rfl ?_)
  refine uW k26 (cT rfl ?_)
  refine sK fun _ k28 => rL (xC rscallable52 rfl ((respWrong B _ _ ([69, 82, 82, 32, 119, 114, 111, 110, 103, 32, 110, 117, 109, 98, 101, 114, 32, 111, 102, 32, 97, 114, 103, 117, 109, 101, 110, 116, 115] : List UInt8) hv).mono ?_) rfl)
  rintro e w29 ⟨rfl, hv⟩
  refine ⟨_, rfl, ?_⟩
  refine xS 0 rfl hv rssz34 rfl (by exact ⟨rfl, rfl, rfl, rfl, trivial⟩) (fun w30 hv => ?_)
  simp only [zO, sp] at hv
  refine uW k28 (rR ?_)
  refine bZ (tR ?_)
  refine bC 0 rswd34 hv rfl rfl rfl rfl (⟨_, rfl, (hv.kp [] 0 1)⟩)
 refine uG (.bool false) rfl (ex_eql rfl rfl rfl (qF hb27)) (uA rfl ?_)
 refine uW k26 (cF rfl ?_)
 refine sK fun _ k31 => rL ?_
 by_cases hb32 : n = 44
 ·refine uG (.bool true) rfl (ex_eql rfl rfl rfl (qT hb32)) (uA rfl ?_)
  refine uW k31 (cT rfl ?_)
  refine sK fun _ k33 => rL (xC rscallable52 rfl ((respWrong B _ _ ([69, 82, 82, 32, 116, 104, 101, 114, 101, 32, 105, 115, 32, 110, 111, 32, 115, 117, 99, 104, 32, 112, 108, 97, 99, 101] : List UInt8) hv).mono ?_) rfl)
  rintro e w34 ⟨rfl, hv⟩
  refine ⟨_, rfl, ?_⟩
  refine xS 0 rfl hv rssz34 rfl (by exact ⟨rfl, rfl, rfl, rfl, trivial⟩) (fun w35 hv => ?_)
  simp only [zO, sp] at hv
  refine uW k33 (rR ?_)
  refine bZ (tR ?_)
  refine bC 0 rswd34 hv rfl rfl rfl rfl (⟨_, rfl, (hv.kp [] 0 1)⟩)
 refine uG (.bool false) rfl (ex_eql rfl rfl rfl (qF hb32)) (uA rfl ?_)
 refine uW k31 (cF rfl ?_)
 refine sK fun _ k36 => rL ?_
 by_cases hb37 : n = 23
 ·refine uG (.bool true) rfl (ex_eql rfl rfl rfl (qT hb37)) (uA rfl ?_)
  refine uW k36 (cT rfl ?_)
  refine sK fun _ k38 => rL (xC rscallable52 rfl ((respWrong B _ _ ([69, 82, 82, 32, 116, 104, 101, 114, 101, 32, 105, 115, 32, 110, 111, 32, 115, 117, 99, 104, 32, 107, 101, 121] : List UInt8) hv).mono ?_) rfl)
  rintro e w39 ⟨rfl, hv⟩
  refine ⟨_, rfl, ?_⟩
  refine xS 0 rfl hv rssz34 rfl (by exact ⟨rfl, rfl, rfl, rfl, trivial⟩) (fun w40 hv => ?_)
  simp only [zO, sp] at hv
  refine uW k38 (rR ?_)
  refine bZ (tR ?_)
  refine bC 0 rswd34 hv rfl rfl rfl rfl (⟨_, rfl, (hv.kp [] 0 1)⟩)
 refine uG (.bool false) rfl (ex_eql rfl rfl rfl (qF hb37)) (uA rfl ?_)
 refine uW k36 (cF rfl ?_)
 refine sK fun _ k41 => sK fun _ k42 => rL ?_
 by_cases hb43 : n = 12
 ·refine uG (.bool true) rfl (ex_eql rfl rfl rfl (qT hb43)) (uA rfl ?_)
  refine uW k42 (cT rfl ?_)
  refine kS (tK k41 ?_)
  refine cT rfl (sK fun _ k44 => ?_)
  refine rL (xC rscallable52 rfl ((respWrong B _ _ ([69, 82, 82, 32, 105, 116, 32, 105, 115, 32, 116, 111, 111, 32, 109, 117, 99, 104] : List UInt8) hv).mono ?_) rfl)
  rintro e w45 ⟨rfl, hv⟩
  refine ⟨_, rfl, ?_⟩
  refine xS 0 rfl hv rssz34 rfl (by exact ⟨rfl, rfl, rfl, rfl, trivial⟩) (fun w46 hv => ?_)
  simp only [zO, sp] at hv
  refine uW k44 (rR ?_)
  refine bZ (tR ?_)
  refine bC 0 rswd34 hv rfl rfl rfl rfl (⟨_, rfl, (hv.kp [] 0 1)⟩)
 refine uG (.bool false) rfl (ex_eql rfl rfl rfl (qF hb43)) (uA rfl ?_)
 refine uW k42 (cF rfl ?_)
 refine rL ?_
 by_cases hb47 : n = 22
 ·refine uG (.bool true) rfl (ex_eql rfl rfl rfl (qT hb47)) (uA rfl ?_)
  refine uW k41 (cT rfl ?_)
  refine sK fun _ k48 => rL (xC rscallable52 rfl ((respWrong B _ _ ([69, 82, 82, 32, 105, 116, 32, 105, 115, 32, 116, 111, 111, 32, 109, 117, 99, 104] : List UInt8) hv).mono ?_) rfl)
  rintro e w49 ⟨rfl, hv⟩
  refine ⟨_, rfl, ?_⟩
  refine xS 0 rfl hv rssz34 rfl (by exact ⟨rfl, rfl, rfl, rfl, trivial⟩) (fun w50 hv => ?_)
  simp only [zO, sp] at hv
  refine uW k48 (rR ?_)
  refine bZ (tR ?_)
  refine bC 0 rswd34 hv rfl rfl rfl rfl (⟨_, rfl, (hv.kp [] 0 1)⟩)
 refine uG (.bool false) rfl (ex_eql rfl rfl rfl (qF hb47)) (uA rfl ?_)
 refine uW k41 (cF rfl ?_)
 refine sK fun _ k51 => rL ?_
 by_cases hb52 : n = 32
 ·refine uG (.bool true) rfl (ex_eql rfl rfl rfl (qT hb52)) (uA rfl ?_)
  refine uW k51 (cT rfl ?_)
  refine sK fun _ k53 => rL (xC rscallable52 rfl ((respWrong B _ _ ([82, 69, 65, 68, 79, 78, 76, 89, 32, 105, 116, 32, 109, 97, 121, 32, 114, 101, 97, 100, 32, 97, 108, 111, 110, 101] : List UInt8) hv).mono ?_) rfl)
  rintro e w54 ⟨rfl, hv⟩
  refine ⟨_, rfl, ?_⟩
  refine xS 0 rfl hv rssz34 rfl (by exact ⟨rfl, rfl, rfl, rfl, trivial⟩) (fun w55 hv => ?_)
  simp only [zO, sp] at hv
  refine uW k53 (rR ?_)
  refine bZ (tR ?_)
  refine bC 0 rswd34 hv rfl rfl rfl rfl (⟨_, rfl, (hv.kp [] 0 1)⟩)
 refine uG (.bool false) rfl (ex_eql rfl rfl rfl (qF hb52)) (uA rfl ?_)
 refine uW k51 (cF rfl ?_)
 refine kS (bN ?_)
 refine tK k4 (sK fun _ k56 => ?_)
 refine rL (xC rscallable52 rfl ((respWrong B _ _ ([69, 82, 82, 32, 105, 116, 32, 109, 97, 121, 32, 110, 111, 116, 32, 98, 101] : List UInt8) hv).mono ?_) rfl)
 rintro e w57 ⟨rfl, hv⟩
 refine ⟨_, rfl, ?_⟩
 refine xS 0 rfl hv rssz34 rfl (by exact ⟨rfl, rfl, rfl, rfl, trivial⟩) (fun w58 hv => ?_)
 simp only [zO, sp] at hv
 refine uW k56 (rR ?_)
 refine bC 0 rswd34 hv rfl rfl rfl rfl (⟨_, rfl, (hv.kp [] 0 1)⟩)
theorem rscallable29 : Callable Tryz.prog 29 := cb Tryz.func29 (by kernel_rfl)
theorem viewDone (B : Base) (H : List Res) (w : World) (n k m : Int) (s0 : List UInt8) (v : Value) (_ : v.cells = #[v]) (h2 : v.oneCell' = true) (hv : Inv B H w) :
  Calls Tryz.prog 56 #[vI n, .agg #[vI k, vS s0, vI m, v]] w fun e w' => ∃ x, ((n = 0 ∧ x = .agg #[vI k, vS s0, vI m, v]) ∨ (n ≠ 0 ∧ ∃ s : List UInt8, x = .agg #[vI 1, vS s, vI 0, vN])) ∧ e = .returned x ∧ Inv B H w' := by
 refine cW Tryz.func56 rfl Tryz.ntmps56 ?_
 simp only [al]
 refine sK fun _ k1 => rL (sl_box (L := [vI k, vS s0, vI m, v]) tV (wn rfl) rfl rfl hv (fun w => by kernel_rfl) (fun b2 w3 hv => ?_))
 refine sl_alloc tV (wn rfl) rfl hv rsal34 (fun b4 w5 hv => ?_)
 refine uW k1 (sK fun _ k6 => ?_)
 refine sK fun _ k7 => rL (uM rfl ?_)
 by_cases hb8 : n ≠ 0
 ·refine uG (.bool true) rfl (ex_neq rfl rfl rfl (qT hb8)) (uW k7 ?_)
  refine cT rfl (sK fun _ k9 => ?_)
  refine rL (uM rfl ?_)
  refine xC rscallable29 rfl ((viewWrong B _ _ n hv).mono ?_) rfl
  rintro e w11 ⟨s10, rfl, hv⟩
  refine ⟨_, rfl, ?_⟩
  refine xS 0 rfl hv rssz34 rfl (by exact ⟨rfl, rfl, rfl, rfl, trivial⟩) (fun w12 hv => ?_)
  simp only [zO, sp] at hv
  refine uW k9 (rR ?_)
  refine tR (bC 0 rswd34 hv rfl rfl rfl rfl ?_)
  exact ⟨_, .inr ⟨by omega, _, rfl⟩, rfl, (hv.kp [] 0 2)⟩
 refine uG (.bool false) rfl (ex_neq rfl rfl rfl (qF hb8)) (uW k7 ?_)
 refine cF rfl (kS ?_)
 refine tK k6 (sK fun _ k13 => ?_)
 refine rL (uL (.agg #[vI k, vS s0, vI m, v]) rfl (lM 1 rswd34 hv rfl rfl rfl rfl) ?_)
 refine xS 0 rfl hv rssz34 rfl (by exact ⟨rfl, rfl, rfl, h2, trivial⟩) (fun w14 hv => ?_)
 simp only [zO, sp] at hv
 refine uW k13 (rR ?_)
 refine bC 0 rswd34 hv rfl rfl rfl rfl (⟨_, .inl ⟨by omega, rfl⟩, rfl, (hv.kp [] 0 2)⟩)
end Go.Proofs.YtngpmolbphinnaaGreatDoor
namespace Go.Proofs
open Go.Shelf
def Tryz.laysPI_ren : Go.Shelf.Ren := ⟨fun | 174 => 109 | 247 => 120 | 245 => 121 | 287 => 150 | 279 => 151 | 280 => 152 | 281 => 153 | 282 => 154 | 321 => 168 | 322 => 169 | 316 => 170 | 171 => 172 | 205 => 171 | 243 => 177 | 246 => 114 | 283 => 126 | 284 => 127 | 285 => 128 | 286 => 129 | 129 => 140 | 317 => 155 | 318 => 156 | 319 => 157 | 320 => 158 | 337 => 173 | 338 => 174 | n => n, fun | 9 => 9 | 3 => 3 | 2 => 2 | 75 => 198 | 85 => 199 | 4 => 4 | 167 => 237 | 5 => 5 | 53 => 110 | 175 => 238 | 46 => 209 | 168 => 240 | 37 => 31 | 0 => 0 | 210 => 256 | 21 => 21 | 127 => 262 | 145 => 265 | 143 => 263 | 171 => 218 | 173 => 221 | 212 => 244 | 51 => 231 | 20 => 20 | 213 => 245 | 232 => 266 | 233 => 267 | 80 => 268 | n => n, fun | 15 => 2 | 16 => 3 | 17 => 1 | 18 => 4 | 19 => 5 | n => n⟩
theorem Tryz.laysPI : Go.Proofs.LaysC.n174 Tryz.prog Tryz.laysPI_ren := {
 mixed := by kernel_rfl
 f129 := Tryz.func140.trans (congrArg some (by kernel_rfl))
 f171 := Tryz.func172.trans (congrArg some (by kernel_rfl))
 f174 := Tryz.func109.trans (congrArg some (by kernel_rfl))
 f205 := Tryz.func171.trans (congrArg some (by kernel_rfl))
 f243 := Tryz.func177.trans (congrArg some (by kernel_rfl))
 f245 := Tryz.func121.trans (congrArg some (by kernel_rfl))
 f246 := Tryz.func114.trans (congrArg some (by kernel_rfl))
 f247 := Tryz.func120.trans (congrArg some (by kernel_rfl))
 f279 := Tryz.func151.trans (congrArg some (by kernel_rfl))
 f280 := Tryz.func152.trans (congrArg some (by kernel_rfl))
 f281 := Tryz.func153.trans (congrArg some (by kernel_rfl))
 f282 := Tryz.func154.trans (congrArg some (by kernel_rfl))
 f283 := Tryz.func126.trans (congrArg some (by kernel_rfl))
 f284 := Tryz.func127.trans (congrArg some (by kernel_rfl))
 f285 := Tryz.func128.trans (congrArg some (by kernel_rfl))
 f286 := Tryz.func129.trans (congrArg some (by kernel_rfl))
 f287 := Tryz.func150.trans (congrArg some (by kernel_rfl))
 f316 := Tryz.func170.trans (congrArg some (by kernel_rfl))
 f317 := Tryz.func155.trans (congrArg some (by kernel_rfl))
 f318 := Tryz.func156.trans (congrArg some (by kernel_rfl))
 f319 := Tryz.func157.trans (congrArg some (by kernel_rfl))
 f320 := Tryz.func158.trans (congrArg some (by kernel_rfl))
 f321 := Tryz.func168.trans (congrArg some (by kernel_rfl))
 f322 := Tryz.func169.trans (congrArg some (by kernel_rfl))
 f337 := Tryz.func173.trans (congrArg some (by kernel_rfl))
 f338 := Tryz.func174.trans (congrArg some (by kernel_rfl))
 t0 := Tryz.underlying0
 a0 := Tryz.isAgg0
 z0 := Tryz.sizeOf0
 v0 := Tryz.zeroValue0
 t2 := Tryz.underlying2
 a2 := Tryz.isAgg2
 z2 := Tryz.sizeOf2
 v2 := Tryz.zeroValue2
 t3 := Tryz.underlying3
 a3 := Tryz.isAgg3
 z3 := Tryz.sizeOf3
 v3 := Tryz.zeroValue3
 t4 := Tryz.underlying4
 a4 := Tryz.isAgg4
 z4 := Tryz.sizeOf4
 v4 := Tryz.zeroValue4
 t5 := Tryz.underlying5
 a5 := Tryz.isAgg5
 z5 := Tryz.sizeOf5
 v5 := Tryz.zeroValue5
 t9 := Tryz.underlying9
 a9 := Tryz.isAgg9
 z9 := Tryz.sizeOf9
 v9 := Tryz.zeroValue9
 t20 := Tryz.underlying20
 a20 := Tryz.isAgg20
 z20 := Tryz.sizeOf20
 v20 := Tryz.zeroValue20
 t21 := Tryz.underlying21
 a21 := Tryz.isAgg21
 z21 := Tryz.sizeOf21
 v21 := Tryz.zeroValue21
 t37 := Tryz.underlying31
 a37 := Tryz.isAgg31
 z37 := Tryz.sizeOf31
 v37 := Tryz.zeroValue31
 t46 := Tryz.underlying209
 a46 := Tryz.isAgg209
 z46 := Tryz.sizeOf209
 v46 := Tryz.zeroValue209
 t51 := Tryz.underlying231
 a51 := Tryz.isAgg231
 z51 := Tryz.sizeOf231
 v51 := Tryz.zeroValue231
 t53 := Tryz.underlying110
 a53 := Tryz.isAgg110
 z53 := Tryz.sizeOf110
 v53 := Tryz.zeroValue110
 t75 := Tryz.underlying198
 a75 := Tryz.isAgg198
 z75 := Tryz.sizeOf198
 v75 := Tryz.zeroValue198
 t85 := Tryz.underlying199
 a85 := Tryz.isAgg199
 z85 := Tryz.sizeOf199
 v85 := Tryz.zeroValue199
 t127 := Tryz.underlying262
 a127 := Tryz.isAgg262
 z127 := Tryz.sizeOf262
 v127 := Tryz.zeroValue262
 t143 := Tryz.underlying263
 a143 := Tryz.isAgg263
 z143 := Tryz.sizeOf263
 v143 := Tryz.zeroValue263
 t145 := Tryz.underlying265
 a145 := Tryz.isAgg265
 z145 := Tryz.sizeOf265
 v145 := Tryz.zeroValue265
 t167 := Tryz.underlying237
 a167 := Tryz.isAgg237
 z167 := Tryz.sizeOf237
 v167 := Tryz.zeroValue237
 t168 := Tryz.underlying240
 a168 := Tryz.isAgg240
 z168 := Tryz.sizeOf240
 v168 := Tryz.zeroValue240
 t171 := Tryz.underlying218
 a171 := Tryz.isAgg218
 z171 := Tryz.sizeOf218
 v171 := Tryz.zeroValue218
 t173 := Tryz.underlying221
 a173 := Tryz.isAgg221
 z173 := Tryz.sizeOf221
 v173 := Tryz.zeroValue221
 t175 := Tryz.underlying238
 a175 := Tryz.isAgg238
 z175 := Tryz.sizeOf238
 v175 := Tryz.zeroValue238
 t210 := Tryz.underlying256
 a210 := Tryz.isAgg256
 z210 := Tryz.sizeOf256
 v210 := Tryz.zeroValue256
 t212 := Tryz.underlying244
 a212 := Tryz.isAgg244
 z212 := Tryz.sizeOf244
 v212 := Tryz.zeroValue244
 t213 := Tryz.underlying245
 a213 := Tryz.isAgg245
 z213 := Tryz.sizeOf245
 t232 := Tryz.underlying266
 a232 := Tryz.isAgg266
 z232 := Tryz.sizeOf266
 v232 := Tryz.zeroValue266
 t233 := Tryz.underlying267
 a233 := Tryz.isAgg267
 z233 := Tryz.sizeOf267
 v233 := Tryz.zeroValue267
 g15 := by kernel_rfl
 g16 := by kernel_rfl
 g17 := by kernel_rfl
 g18 := by kernel_rfl
 g19 := by kernel_rfl
 t80 := Tryz.underlying268
 a80 := Tryz.isAgg268
 z80 := Tryz.sizeOf268
 v80 := Tryz.zeroValue268
 i0 := by kernel_rfl
 i2 := by kernel_rfl
 i3 := by kernel_rfl
 i4 := by kernel_rfl
 i5 := by kernel_rfl
 i9 := by kernel_rfl
 i20 := by kernel_rfl
 i21 := by kernel_rfl
 i37 := by kernel_rfl
 i46 := by kernel_rfl
 i51 := by kernel_rfl
 i53 := by kernel_rfl
 i75 := by kernel_rfl
 i80 := by kernel_rfl
 i85 := by kernel_rfl
 i127 := by kernel_rfl
 i143 := by kernel_rfl
 i145 := by kernel_rfl
 i167 := by kernel_rfl
 i168 := by kernel_rfl
 i171 := by kernel_rfl
 i173 := by kernel_rfl
 i175 := by kernel_rfl
 i210 := by kernel_rfl
 i212 := by kernel_rfl
 i232 := by kernel_rfl
 i233 := by kernel_rfl
 m15 := by kernel_rfl
 m16 := by kernel_rfl
 m17 := by kernel_rfl
 m18 := by kernel_rfl
 m19 := by kernel_rfl
 c0 := by kernel_rfl
 c2 := by kernel_rfl
 c3 := by kernel_rfl
 c4 := by kernel_rfl
 c5 := by kernel_rfl
 c9 := by kernel_rfl
 c20 := by kernel_rfl
 c21 := by kernel_rfl
 c37 := by kernel_rfl
 c46 := by kernel_rfl
 c51 := by kernel_rfl
 c53 := by kernel_rfl
 c75 := by kernel_rfl
 c80 := by kernel_rfl
 c85 := by kernel_rfl
 c127 := by kernel_rfl
 c143 := by kernel_rfl
 c145 := by kernel_rfl
 c167 := by kernel_rfl
 c168 := by kernel_rfl
 c171 := by kernel_rfl
 c173 := by kernel_rfl
 c175 := by kernel_rfl
 c210 := by kernel_rfl
 c212 := by kernel_rfl
 c213 := by kernel_rfl
 c232 := by kernel_rfl
 c233 := by kernel_rfl }
def Tryz.laysFI_ren : Go.Shelf.Ren := ⟨fun | 173 => 102 | 246 => 114 | 283 => 126 | 284 => 127 | 285 => 128 | 286 => 129 | 129 => 140 | 317 => 155 | 318 => 156 | 319 => 157 | 320 => 158 | 337 => 173 | 338 => 174 | n => n, fun | 2 => 2 | 3 => 3 | 9 => 9 | 4 => 4 | 171 => 218 | 0 => 0 | 53 => 110 | 37 => 31 | 5 => 5 | 173 => 221 | 212 => 244 | 51 => 231 | 20 => 20 | 213 => 245 | 46 => 209 | 232 => 266 | 233 => 267 | n => n, fun | 17 => 1 | 18 => 4 | 19 => 5 | n => n⟩
theorem Tryz.laysFI : Go.Proofs.LaysM.n173 Tryz.prog Tryz.laysFI_ren := {
 mixed := by kernel_rfl
 f129 := Tryz.func140.trans (congrArg some (by kernel_rfl))
 f173 := Tryz.func102.trans (congrArg some (by kernel_rfl))
 f246 := Tryz.func114.trans (congrArg some (by kernel_rfl))
 f283 := Tryz.func126.trans (congrArg some (by kernel_rfl))
 f284 := Tryz.func127.trans (congrArg some (by kernel_rfl))
 f285 := Tryz.func128.trans (congrArg some (by kernel_rfl))
 f286 := Tryz.func129.trans (congrArg some (by kernel_rfl))
 f317 := Tryz.func155.trans (congrArg some (by kernel_rfl))
 f318 := Tryz.func156.trans (congrArg some (by kernel_rfl))
 f319 := Tryz.func157.trans (congrArg some (by kernel_rfl))
 f320 := Tryz.func158.trans (congrArg some (by kernel_rfl))
 f337 := Tryz.func173.trans (congrArg some (by kernel_rfl))
 f338 := Tryz.func174.trans (congrArg some (by kernel_rfl))
 t0 := Tryz.underlying0
 a0 := Tryz.isAgg0
 z0 := Tryz.sizeOf0
 v0 := Tryz.zeroValue0
 t2 := Tryz.underlying2
 a2 := Tryz.isAgg2
 z2 := Tryz.sizeOf2
 v2 := Tryz.zeroValue2
 t3 := Tryz.underlying3
 a3 := Tryz.isAgg3
 z3 := Tryz.sizeOf3
 v3 := Tryz.zeroValue3
 t4 := Tryz.underlying4
 a4 := Tryz.isAgg4
 z4 := Tryz.sizeOf4
 v4 := Tryz.zeroValue4
 t5 := Tryz.underlying5
 a5 := Tryz.isAgg5
 z5 := Tryz.sizeOf5
 v5 := Tryz.zeroValue5
 t9 := Tryz.underlying9
 a9 := Tryz.isAgg9
 z9 := Tryz.sizeOf9
 v9 := Tryz.zeroValue9
 t20 := Tryz.underlying20
 a20 := Tryz.isAgg20
 z20 := Tryz.sizeOf20
 v20 := Tryz.zeroValue20
 t37 := Tryz.underlying31
 a37 := Tryz.isAgg31
 z37 := Tryz.sizeOf31
 v37 := Tryz.zeroValue31
 t46 := Tryz.underlying209
 a46 := Tryz.isAgg209
 z46 := Tryz.sizeOf209
 v46 := Tryz.zeroValue209
 t51 := Tryz.underlying231
 a51 := Tryz.isAgg231
 z51 := Tryz.sizeOf231
 v51 := Tryz.zeroValue231
 t53 := Tryz.underlying110
 a53 := Tryz.isAgg110
 z53 := Tryz.sizeOf110
 v53 := Tryz.zeroValue110
 t171 := Tryz.underlying218
 a171 := Tryz.isAgg218
 z171 := Tryz.sizeOf218
 v171 := Tryz.zeroValue218
 t173 := Tryz.underlying221
 a173 := Tryz.isAgg221
 z173 := Tryz.sizeOf221
 v173 := Tryz.zeroValue221
 t212 := Tryz.underlying244
 a212 := Tryz.isAgg244
 z212 := Tryz.sizeOf244
 v212 := Tryz.zeroValue244
 t213 := Tryz.underlying245
 a213 := Tryz.isAgg245
 z213 := Tryz.sizeOf245
 t232 := Tryz.underlying266
 a232 := Tryz.isAgg266
 z232 := Tryz.sizeOf266
 v232 := Tryz.zeroValue266
 t233 := Tryz.underlying267
 a233 := Tryz.isAgg267
 z233 := Tryz.sizeOf267
 v233 := Tryz.zeroValue267
 g17 := by kernel_rfl
 g18 := by kernel_rfl
 g19 := by kernel_rfl
 i0 := by kernel_rfl
 i2 := by kernel_rfl
 i3 := by kernel_rfl
 i4 := by kernel_rfl
 i5 := by kernel_rfl
 i9 := by kernel_rfl
 i20 := by kernel_rfl
 i37 := by kernel_rfl
 i46 := by kernel_rfl
 i51 := by kernel_rfl
 i53 := by kernel_rfl
 i171 := by kernel_rfl
 i173 := by kernel_rfl
 i212 := by kernel_rfl
 i232 := by kernel_rfl
 i233 := by kernel_rfl
 m17 := by kernel_rfl
 m18 := by kernel_rfl
 m19 := by kernel_rfl }
end Go.Proofs
namespace Go.Pm
open Go.Lib
theorem parseUint10_append {r : List UInt8} : ∀ (l : List UInt8) (a b : Nat), parseUint10 a l = .ok b → parseUint10 a (l ++ r) = parseUint10 b r
 | [], a, b, h => by
  simp only [parseUint10, NumEnd.ok.injEq] at h
  subst h; rfl
 | c :: l, a, b, h => by
  simp only [parseUint10] at h
  simp only [List.cons_append, parseUint10]
  split at h
  ·rename_i h1
   rw [if_pos h1]
   split at h
   ·cases h
   rename_i h2
   rw [if_neg h2]
   split at h
   ·cases h
   rename_i h3
   rw [if_neg h3]
   exact parseUint10_append l _ b h
  cases h
theorem dig_toNat {d : Nat} (h : d < 10) : (UInt8.ofNat (48 + d)).toNat = 48 + d := by
 rw [UInt8.toNat_ofNat']
 exact Nat.mod_eq_of_lt (by omega)
theorem parse_dec (u : Nat) (h : u < 18446744073709551616) : parseUint10 0 (decDigits u) = .ok u := by
 induction u using Nat.strongRecOn with
 | _ u ih =>
  rw [decDigits]
  split
  ·rename_i h1
   simp only [parseUint10, dig_toNat h1]
   rw [if_pos (by omega), if_neg (by omega), if_neg (by omega)]
   congr 1
   omega
  rename_i h1
  rw [parseUint10_append _ 0 (u / 10) (ih (u / 10) (by omega) (by omega))]
  have hd : u % 10 < 10 := Nat.mod_lt _ (by omega)
  simp only [parseUint10, dig_toNat hd]
  rw [if_pos (by omega), if_neg (by omega), if_neg (by omega)]
  congr 1
  omega
theorem dec_bytes (u : Nat) : ∀ c ∈ decDigits u, 48 ≤ c.toNat ∧ c.toNat ≤ 57 := by
 induction u using Nat.strongRecOn with
 | _ u ih =>
  intro c hc
  rw [decDigits] at hc
  split at hc
  ·rename_i h1
   simp only [List.mem_singleton] at hc
   subst hc
   rw [dig_toNat h1]; omega
  rename_i h1
  rcases List.mem_append.1 hc with hc | hc
  ·exact ih (u / 10) (by omega) c hc
  simp only [List.mem_singleton] at hc
  subst hc
  rw [dig_toNat (Nat.mod_lt _ (by omega))]; omega
theorem dec_ne (u : Nat) : decDigits u ≠ [] := by
 rw [decDigits]
 split <;> simp
theorem parseMag_dec (u : Nat) (h : u < 18446744073709551616) : parseMag (decDigits u) = .ok u := by
 unfold parseMag
 rw [if_neg (dec_ne u), parse_dec u h]
theorem parse_itoa (n : Int) (h0 : -9223372036854775808 ≤ n) (h1 : n ≤ 9223372036854775807) : parseIntB 64 (itoa n) = .ok n := by
 rw [parseIntB_64]
 unfold itoa
 split
 ·rename_i hn
  have h45 : (45 : UInt8).toNat = 45 := rfl
  simp only [atoiAll, h45]
  rw [if_pos (by simp), parseMag_dec _ (by omega)]
  simp only [not_true_eq_false, false_and, if_false, true_and, if_true]
  rw [if_neg (by omega)]
  congr 1
  omega
 rename_i hn
 have hm := parseMag_dec n.toNat (by omega)
 have hb := dec_bytes n.toNat
 cases hl : decDigits n.toNat with
 | nil => exact absurd hl (dec_ne _)
 | cons c r =>
  rw [hl] at hm hb
  have hc := hb c (by simp)
  have h43 : ¬ c.toNat = 43 := by omega
  have h45 : ¬ c.toNat = 45 := by omega
  simp only [atoiAll, h43, h45, or_self, if_false, hm, not_false_eq_true, true_and, false_and]
  rw [if_neg (by omega)]
  congr 1
  omega
theorem nDigits_le : ∀ (k u : Nat), u < 10 ^ (k + 1) → nDigits u ≤ k + 1
 | 0, u, h => by rw [nDigits_small (by simpa using h)]; exact Nat.le_refl _
 | k + 1, u, h => by
  by_cases hu : u < 10
  ·rw [nDigits_small hu]; omega
  rw [nDigits_big hu]
  have := nDigits_le k (u / 10) (by rw [Nat.pow_succ] at h; omega)
  omega
theorem itoa_length (n : Int) (h0 : -9223372036854775808 ≤ n) (h1 : n ≤ 9223372036854775807) : 1 ≤ (itoa n).length ∧ (itoa n).length ≤ 20 := by
 have hp : (10 : Nat) ^ 19 = 10000000000000000000 := by decide
 unfold itoa
 split
 ·have := nDigits_le 18 n.natAbs (by rw [hp]; omega)
  simp only [List.length_cons, decDigits_length]; omega
 have := nDigits_le 18 n.toNat (by rw [hp]; omega)
 have := nDigits_pos n.toNat
 rw [decDigits_length]; omega
end Go.Pm
namespace Go.Proofs.YtngpmolbphinnaaGreatDoor
open Go.RowKit Go.Pm
def FormatsInt (B : Base) (H : List Res) : Prop := ∀ (w : World) (n : Int), -9223372036854775808 ≤ n → n ≤ 9223372036854775807 → Inv B H w →
 Calls Tryz.prog 102 #[vI n, vI 10] w fun e w' => e = .returned (vS (Lib.itoa n)) ∧ Inv B H w'
theorem ex_ifaceNil {P : Program} {o : Oper} {a : Act} {w : World} {t u : TypeId} {x : Operand} {c : Value} (hu : P.underlying t = some (.interface (P.methodsAt t))) (ho : o.op = .binOp .neq t x (.const c) u) (hx : a.eval x = .nilIface) (hy : a.eval (.const c) = .nilIface) : Ex P a o w (.bool false) w := by
 have hg : (eqGuard .neq t x (.const c) .nilIface .nilIface).run P w = .ok () w := by simp [eqGuard]
 have hr : (binOp .neq t .nilIface .nilIface).run P w = .ok (.bool false) w := by simp [binOp, run_equal_nil_nil w t hu]
 unfold Ex; simp [execOp, ho, hx, hy, hg, hr]
theorem prcallable102 : Callable Tryz.prog 102 := cb Tryz.func102 (by kernel_rfl)
theorem numPrint (B : Base) (H : List Res) (hF : FormatsInt B H) (w : World) (n : Int) (h0 : -9223372036854775808 ≤ n) (h1 : n ≤ 9223372036854775807) (hv : Inv B H w) :
  Calls Tryz.prog 89 #[vI n] w fun e w' => e = .returned (vS (Lib.itoa n)) ∧ Inv B H w' := by
 refine cW Tryz.func89 rfl Tryz.ntmps89 ?_
 simp only [al]
 refine sK fun _ k1 => rL (uA rfl ?_)
 refine uW k1 (sK fun _ k2 => ?_)
 refine rL (uM rfl ?_)
 refine xC prcallable102 rfl ((hF _ n h0 h1 hv).mono ?_) rfl
 rintro e w3 ⟨rfl, hv⟩
 refine ⟨_, rfl, uA rfl ?_⟩
 refine uW k2 (rR ?_)
 refine bR rfl rfl (⟨rfl, hv⟩)
end Go.Proofs.YtngpmolbphinnaaGreatDoor
