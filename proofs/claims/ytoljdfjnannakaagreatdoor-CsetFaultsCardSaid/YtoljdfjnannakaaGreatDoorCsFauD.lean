/- Scopes out of which no jump goes. -/
import Derived.Test.YtoljdfjnannakaaGreatDoorCsFauB
import Derived.Scope
import Derived.Test.YtoljdfjnannakaaGreatDoorRows
import Derived.Test.YtoljdfjnannakaaGreatDoorCsFauC
import Derived.RecoverIn
import Derived.RegionIn
import Derived.Laws.Pointers
import Derived.TacticsInMore
import Derived.Test.YtoljdfjnannakaaGreatDoorCsFauA
import Derived.Shelf.SlIter.Collect
import Derived.Shelf.Sort.Plain
import Derived.Shelf.Slices.In.CompactS
import Derived.Shelf.Slices.In.SortNone
import Derived.Ground.NamesProg
import Derived.Ground.GgzProg
import Derived.Sort.KeysCollected
import Derived.Sort.OwnSorted
import Derived.Sort.Walk0
import Derived.Lib.SlicesCompact
set_option maxRecDepth 100000
set_option maxHeartbeats 16000000
namespace Go.Pm
section
variable {P : Program} {Q : Exit → Act → World → Prop} {a : Act} {w : World} {n : Nat} {c : Code}
theorem wpIn_scopeW (h : c.wpIn Fence.wide n P (Exit.noGoto Q) a w) : (Code.scope c).wpIn Fence.wide n P Q a w := wpIn_wide.2 (wp_scope_straight (wpIn_wide.1 h))
theorem scope_ret (h : Q .ret a w) : Exit.noGoto Q .ret a w := h
end
section
variable {P : Program} {a : Act} {w : World} {o : Oper} {t u : TypeId} {x y : Operand}
end
end Go.Pm
namespace Go.Proofs.YtoljdfjnannakaaGreatDoor
open Go.RowKit Go.Pm
theorem row_nil0 (B : Base) : RowB B (vN) 0 [] := ⟨none, 0, rfl, ⟨Nat.le_refl _, Nat.zero_le _, fun _ => rfl⟩, rdV_nil⟩
def zver0 : Ver := ⟨0, false, 0, ⟨0, [], [], [], []⟩⟩
theorem zver0_at (B : Base) : ValAt B zver0.val (vN) (vN) (vN) := ⟨row_nil0 B, row_nil0 B, row_nil0 B, by decide, by decide, by decide⟩
theorem gver_at (B : Base) : ValAt B gver.val (vN) (vN) (vN) := ⟨row_nil0 B, row_nil0 B, row_nil0 B, by decide, by decide, by decide⟩
theorem search0 (B : Base) (H : List Res) (w : World) (fv : Value) (hv : Inv B H w) :
  Calls Tryz.prog 184 #[vI 0, fv] w fun e w' => e = .returned (vI 0) ∧ Inv B H w' := by
 refine cW Tryz.func184 rfl Tryz.ntmps184 ?_
 simp only [al]
 refine sK fun _ k1 => rL (uA rfl ?_)
 refine uW k1 (sK fun _ k2 => ?_)
 refine rL (uM rfl ?_)
 refine uA rfl (uA rfl ?_)
 refine uW k2 (sK fun _ k3 => ?_)
 refine bB ?_
 gi_loopw [5, 6] (fun x5 x6 wr => x5 = vI 0 ∧ x6 = vI 0 ∧ Inv B H wr) (fun x5 x6 _ => 0)
 case atStart => exact ⟨rfl, rfl, hv⟩
 case round =>
  obtain ⟨rfl, rfl, hv⟩ := hrel
  refine sK fun _ k5 => sK fun _ k6 => rL (uM rfl ?_)
  refine uM rfl ?_
  refine uG (.bool false) rfl (ex_lss rfl rfl rfl (by decide)) (uW k6 ?_)
  refine cF rfl (xE ?_)
  refine tX (tX ?_)
  refine bH (tK k3 ?_)
  refine sK fun _ k7 => rL (uM rfl ?_)
  refine uA rfl (uW k7 ?_)
  refine rR (bR rfl rfl ?_)
  exact ⟨rfl, hv⟩
theorem x0na97 (w : World) : (isAgg 97).run Tryz.prog w = .ok false w := by kernel_rfl
theorem x0fa130_0 : FA Tryz.prog 130 0 0 := fun w b o => by kernel_rfl
theorem x0na128 (w : World) : (isAgg 128).run Tryz.prog w = .ok false w := by kernel_rfl
theorem x0callable184 : Callable Tryz.prog 184 := cb Tryz.func184 (by kernel_rfl)
theorem ixFind0 (B : Base) (H : List Res) (w : World) (p : Nat) (key : List UInt8) (hv : Inv B (Res.cell p [vN, vI 0] 130 :: H) w) :
  Calls Tryz.prog 178 #[vP p, vS key] w fun e w' => e = .returned (.tuple #[vI 0, vI 0, .bool false]) ∧ Inv B (Res.cell p [vN, vI 0] 130 :: H) w' := by
 refine cW Tryz.func178 rfl Tryz.ntmps178 ?_
 simp only [al]
 refine sK fun _ k1 => rL (sl_box (L := [vP p]) tV (wn rfl) rfl rfl hv (fun w => by kernel_rfl) (fun b2 w3 hv => ?_))
 refine sl_box (L := [vS key]) tV (wn rfl) rfl rfl hv (fun w => by kernel_rfl) (fun b4 w5 hv => ?_)
 refine uA rfl (uA rfl ?_)
 refine uA rfl (uW k1 ?_)
 refine sK fun _ k6 => rL (uL _ rfl (run_load1 x0na97 (hv.load 1 0 rfl rfl)) ?_)
 refine uG (vP p) rfl (ex_nil rfl rfl) ?_
 refine uF (vP p) rfl (x0fa130_0 _ _ _) ?_
 refine uL _ rfl (run_load1 x0na128 (hv.load 2 0 rfl rfl)) ?_
 refine uG (vI 0) rfl (ex_len0 Tryz.underlying128 rfl rfl) ?_
 refine uG (.func (.func 185) #[] #[vP b2, vP b4]) rfl (ex_makeFunc (c' := #[vP b2, vP b4]) rfl (by simp only [List.map_toArray, List.map_nil]) (by simp only [List.map_toArray, List.map_cons, List.map_nil]; rfl)) ?_
 refine xC x0callable184 rfl ((search0 B _ _ _ hv).mono ?_) rfl
 rintro e w7 ⟨rfl, hv⟩
 refine ⟨_, rfl, uA rfl ?_⟩
 refine uW k6 (sK fun _ k8 => ?_)
 refine sK fun _ k9 => rL (uM rfl ?_)
 refine uL _ rfl (run_load1 x0na97 (hv.load 1 0 rfl rfl)) ?_
 refine uG (vP p) rfl (ex_nil rfl rfl) ?_
 refine uF (vP p) rfl (x0fa130_0 _ _ _) ?_
 refine uL _ rfl (run_load1 x0na128 (hv.load 2 0 rfl rfl)) ?_
 refine uG (vI 0) rfl (ex_len0 Tryz.underlying128 rfl rfl) ?_
 refine uG (.bool true) rfl (ex_eql rfl rfl rfl (by decide)) (uW k9 ?_)
 refine cT rfl (sK fun _ k10 => ?_)
 refine rL (uM rfl ?_)
 refine uA rfl (uA rfl ?_)
 refine uA rfl (uW k10 ?_)
 refine rR (tR ?_)
 refine bodyPost_ret (results_tmp3 rfl _ _ _) rfl (⟨rfl, (hv.kp [2] 1 2)⟩)
theorem x0callable178 : Callable Tryz.prog 178 := cb Tryz.func178 (by kernel_rfl)
theorem ixGet0 (B : Base) (H : List Res) (w : World) (p : Nat) (key : List UInt8) (hv : Inv B (Res.cell p [vN, vI 0] 130 :: H) w) :
  Calls Tryz.prog 176 #[vP p, vS key] w fun e w' => e = .returned (vN) ∧ Inv B (Res.cell p [vN, vI 0] 130 :: H) w' := by
 refine cW Tryz.func176 rfl Tryz.ntmps176 ?_
 simp only [al]
 refine sK fun _ k1 => rL (uA rfl ?_)
 refine uW k1 (sK fun _ k2 => ?_)
 refine rL (uM rfl ?_)
 refine uM rfl ?_
 refine xC x0callable178 rfl ((ixFind0 B _ _ p key hv).mono ?_) rfl
 rintro e w3 ⟨rfl, hv⟩
 refine ⟨_, rfl, uM rfl ?_⟩
 refine uE rfl (uE rfl ?_)
 refine uE rfl (uA rfl ?_)
 refine uA rfl (uA rfl ?_)
 refine uW k2 (sK fun _ k4 => ?_)
 refine sK fun _ k5 => rL (uM rfl ?_)
 refine uG (.bool true) rfl (ex_not rfl rfl rfl) (uW k5 ?_)
 refine cT rfl (sK fun _ k6 => ?_)
 refine rL (uA rfl ?_)
 refine uW k6 (rR ?_)
 refine tR (bR rfl rfl ?_)
 exact ⟨rfl, hv⟩
theorem x0na273 (w : World) : (isAgg 273).run Tryz.prog w = .ok false w := by kernel_rfl
theorem chainUpto0 (B : Base) (H : List Res) (w : World) (s : Int) (hv : Inv B H w) :
  Calls Tryz.prog 189 #[vN, vI s] w fun e w' => e = .returned (vI 0) ∧ Inv B H w' := by
 refine cW Tryz.func189 rfl Tryz.ntmps189 ?_
 simp only [al]
 refine sK fun _ k1 => rL (sl_box (L := [vN]) tV (wn rfl) rfl rfl hv (fun w => by kernel_rfl) (fun b2 w3 hv => ?_))
 refine sl_box (L := [vI s]) tV (wn rfl) rfl rfl hv (fun w => by kernel_rfl) (fun b4 w5 hv => ?_)
 refine uA rfl (uW k1 ?_)
 refine sK fun _ k6 => rL (uL _ rfl (run_load1 x0na273 (hv.load 1 0 rfl rfl)) ?_)
 refine uG (vI 0) rfl (ex_len0 Tryz.underlying273 rfl rfl) ?_
 refine uG (.func (.func 191) #[] #[vP b2, vP b4]) rfl (ex_makeFunc (c' := #[vP b2, vP b4]) rfl (by simp only [List.map_toArray, List.map_nil]) (by simp only [List.map_toArray, List.map_cons, List.map_nil]; rfl)) ?_
 refine xC x0callable184 rfl ((search0 B _ _ _ hv).mono ?_) rfl
 rintro e w7 ⟨rfl, hv⟩
 refine ⟨_, rfl, uA rfl ?_⟩
 refine uW k6 (rR ?_)
 refine bR rfl rfl (⟨rfl, (hv.kp [] 0 2)⟩)
theorem x0al85 : AL Tryz.prog 85 [vI 0, .bool false, vI 0, vI 0, vS [], vN, vN, vN] := fun w => by kernel_rfl
theorem x0callable189 : Callable Tryz.prog 189 := cb Tryz.func189 (by kernel_rfl)
theorem x0sz85 : (Tryz.prog.info? 85).map (·.size) = some 8 := by kernel_rfl
theorem x0wd85 : Wide Tryz.prog 85 8 := wide_of (fun w => by kernel_rfl) (by kernel_rfl)
theorem chainAt0 (B : Base) (H : List Res) (w : World) (s : Int) (hv : Inv B H w) :
  Calls Tryz.prog 187 #[vN, vI s] w fun e w' => e = .returned (.tuple #[.agg #[vI 0, .bool false, vI 0, vI 0, vS [], vN, vN, vN], .bool false]) ∧ Inv B H w' := by
 refine cW Tryz.func187 rfl Tryz.ntmps187 ?_
 simp only [al]
 refine sK fun _ k1 => rL (sl_alloc tV (wn rfl) rfl hv x0al85 (fun b2 w3 hv => ?_))
 refine uA rfl (uW k1 ?_)
 refine sK fun _ k4 => rL (uM rfl ?_)
 refine uM rfl ?_
 refine xC x0callable189 rfl ((chainUpto0 B _ _ s hv).mono ?_) rfl
 rintro e w5 ⟨rfl, hv⟩
 refine ⟨_, rfl, uA rfl ?_⟩
 refine uW k4 (sK fun _ k6 => ?_)
 refine sK fun _ k7 => rL (uM rfl ?_)
 refine uG (.bool true) rfl (ex_eql rfl rfl rfl (by decide)) (uW k7 ?_)
 refine cT rfl (sK fun _ k8 => ?_)
 refine rL (uG (.agg #[vI 0, .bool false, vI 0, vI 0, vS [], vN, vN, vN]) rfl (ex_buildN (vs := #[]) rfl (by simp only [List.map_toArray, List.map_nil]) (by kernel_rfl)) ?_)
 refine xS 0 rfl hv x0sz85 rfl (by exact ⟨rfl, rfl, rfl, rfl, rfl, rfl, rfl, rfl, trivial⟩) (fun w9 hv => ?_)
 simp only [zO, sp] at hv
 refine uA rfl (uW k8 ?_)
 refine rR (tR ?_)
 refine bodyPost_ret (res_cell2 rfl rfl (lM 0 x0wd85 hv rfl rfl rfl rfl)) rfl (⟨rfl, (hv.kp [] 0 1)⟩)
theorem x0fa100_0 : FA Tryz.prog 100 0 0 := fun w b o => by kernel_rfl
theorem x0callable176 : Callable Tryz.prog 176 := cb Tryz.func176 (by kernel_rfl)
theorem x0callable187 : Callable Tryz.prog 187 := cb Tryz.func187 (by kernel_rfl)
theorem storeRead0 (B : Base) (H : List Res) (w : World) (s p : Nat) (stamp clock : Int) (key : List UInt8) (hv : Inv B (Res.cell s [vP p, vI 0, vI 0] 100 :: Res.cell p [vN, vI 0] 130 :: H) w) :
  Calls Tryz.prog 183 #[vP s, vS key, vI stamp, vI clock] w fun e w' => e = .returned (.tuple #[.agg #[vI 0, .bool false, vI 0, vI 0, vS [], vN, vN, vN], .bool false]) ∧ Inv B (Res.cell s [vP p, vI 0, vI 0] 100 :: Res.cell p [vN, vI 0] 130 :: H) w' := by
 refine cW Tryz.func183 rfl Tryz.ntmps183 ?_
 simp only [al]
 refine sK fun _ k1 => rL (sl_alloc tV (wn rfl) rfl hv x0al85 (fun b2 w3 hv => ?_))
 refine uA rfl (uW k1 ?_)
 refine sK fun _ k4 => rL (uM rfl ?_)
 refine uG (vP s) rfl (ex_nil rfl rfl) ?_
 refine uF (vP s) rfl (x0fa100_0 _ _ _) ?_
 refine uL _ rfl (run_load1 x0na97 (hv.load 1 0 rfl rfl)) (uM rfl ?_)
 replace hv := hv.front 2 rfl
 simp only [eS, eZ] at hv
 refine xC x0callable176 rfl ((ixGet0 B _ _ p key hv).mono ?_) rfl
 rintro e w5 ⟨rfl, hv⟩
 refine ⟨_, rfl, uM rfl ?_⟩
 refine xC x0callable187 rfl ((chainAt0 B _ _ stamp hv).mono ?_) rfl
 rintro e w6 ⟨rfl, hv⟩
 refine ⟨_, rfl, uM rfl ?_⟩
 refine uE rfl (uE rfl ?_)
 refine sl_alloc tV (wn rfl) rfl hv x0al85 (fun b7 w8 hv => ?_)
 simp only [zP, po]
 refine xS 0 rfl hv x0sz85 rfl (by exact ⟨rfl, rfl, rfl, rfl, rfl, rfl, rfl, rfl, trivial⟩) (fun w9 hv => ?_)
 simp only [zO, sp] at hv
 refine uA rfl (uW k4 ?_)
 refine sK fun _ k10 => sK fun _ k11 => rL (uM rfl ?_)
 refine uG (.bool true) rfl (ex_not rfl rfl rfl) (uM rfl ?_)
 iterate 4 refine uP rfl ?_
 refine uK rfl (uW k11 ?_)
 refine cT rfl (sK fun _ k12 => ?_)
 refine rL (uG (.agg #[vI 0, .bool false, vI 0, vI 0, vS [], vN, vN, vN]) rfl (ex_buildN (vs := #[]) rfl (by simp only [List.map_toArray, List.map_nil]) (by kernel_rfl)) ?_)
 refine xS 2 rfl hv x0sz85 rfl (by exact ⟨rfl, rfl, rfl, rfl, rfl, rfl, rfl, rfl, trivial⟩) (fun w13 hv => ?_)
 simp only [zS, zO, sp] at hv
 refine uA rfl (uW k12 ?_)
 refine rR (tR ?_)
 refine bodyPost_ret (res_cell2 rfl rfl (lM 2 x0wd85 hv rfl rfl rfl rfl)) rfl (⟨rfl, (hv.kp [1, 3] 2 2)⟩)
theorem ixKeys0 (B : Base) (H : List Res) (w : World) (p : Nat) (hv : Inv B (Res.cell p [vN, vI 0] 130 :: H) w) :
  Calls Tryz.prog 181 #[vP p, vS [], vI 0] w fun e w' => e = .returned (vN) ∧ Inv B (Res.cell p [vN, vI 0] 130 :: H) w' := by
 refine cW Tryz.func181 rfl Tryz.ntmps181 ?_
 simp only [al]
 refine sK fun _ k1 => rL (uA rfl ?_)
 refine uW k1 (wpIn_scopeW ?_)
 refine sK fun _ k2 => rL (uM rfl ?_)
 refine uM rfl ?_
 refine xC x0callable178 rfl ((ixFind0 B _ _ p ([] : List UInt8) hv).mono ?_) rfl
 rintro e w3 ⟨rfl, hv⟩
 refine ⟨_, rfl, uM rfl ?_⟩
 refine uE rfl (uE rfl ?_)
 refine uE rfl (uA rfl ?_)
 refine uA rfl (uA rfl ?_)
 refine uW k2 (sK fun _ k4 => ?_)
 refine rL (uA rfl ?_)
 refine uW k4 (sK fun _ k5 => ?_)
 refine wpIn_label (tK k5 ?_)
 refine sK fun _ k6 => bB ?_
 gi_loopw [7, 8, 10] (fun x7 x8 x10 wr => x7 = vI 0 ∧ x8 = vI 0 ∧ x10 = vN ∧ Inv B (Res.cell p [vN, vI 0] 130 :: H) wr) (fun x7 x8 x10 _ => 0)
 case atStart => exact ⟨rfl, rfl, rfl, hv⟩
 case round =>
  obtain ⟨rfl, rfl, rfl, hv⟩ := hrel
  refine sK fun _ k8 => sK fun _ k9 => rL (uM rfl ?_)
  refine uM rfl ?_
  refine uG (vP p) rfl (ex_nil rfl rfl) ?_
  refine uF (vP p) rfl (x0fa130_0 _ _ _) ?_
  refine uL _ rfl (run_load1 x0na128 (hv.load 0 0 rfl rfl)) ?_
  refine uG (vI 0) rfl (ex_len0 Tryz.underlying128 rfl rfl) ?_
  refine uG (.bool false) rfl (ex_lss rfl rfl rfl (by decide)) (uW k9 ?_)
  refine cF rfl (xE ?_)
  refine tX (tX ?_)
  refine bH (tK k6 ?_)
  refine sK fun _ k10 => rL (uM rfl ?_)
  refine uA rfl (uW k10 ?_)
  refine rR (scope_ret ?_)
  refine bR rfl rfl (⟨rfl, hv⟩)
theorem indexFunc0 (B : Base) (H : List Res) (w : World) (fv : Value) (hv : Inv B H w) :
  Calls Tryz.prog 100 #[vN, fv] w fun e w' => e = .returned (vI (-1)) ∧ Inv B H w' := by
 refine cW Tryz.func100 rfl Tryz.ntmps100 ?_
 simp only [al]
 refine sK fun _ k1 => rL (uA rfl ?_)
 refine uW k1 (sK fun _ k2 => ?_)
 refine sK fun _ k3 => rL (uM rfl ?_)
 refine uG (vI 0) rfl (ex_len0 Tryz.underlying22 rfl rfl) (uM rfl ?_)
 refine uW k3 (bB ?_)
 gi_loopw [8] (fun x8 wr => x8 = vI 0 ∧ Inv B H wr) (fun x8 _ => 0)
 case atStart => exact ⟨rfl, hv⟩
 case round =>
  obtain ⟨rfl, hv⟩ := hrel
  refine sK fun _ k5 => rL (uG (.bool false) rfl (ex_lss rfl rfl rfl (by decide)) ?_)
  refine uW k5 (sK fun _ k6 => ?_)
  refine cF rfl (xE ?_)
  refine tX (tX ?_)
  refine bH (tK k2 ?_)
  refine sK fun _ k7 => rL (uA rfl ?_)
  refine uW k7 (rR ?_)
  refine bR rfl rfl (⟨rfl, hv⟩)
theorem x0callable100 : Callable Tryz.prog 100 := cb Tryz.func100 (by kernel_rfl)
theorem deleteFunc0 (B : Base) (H : List Res) (w : World) (fv : Value) (hv : Inv B H w) :
  Calls Tryz.prog 180 #[vN, fv] w fun e w' => e = .returned (vN) ∧ Inv B H w' := by
 refine cW Tryz.func180 rfl Tryz.ntmps180 ?_
 simp only [al]
 refine sK fun _ k1 => rL (uA rfl ?_)
 refine uW k1 (sK fun _ k2 => ?_)
 refine rL (uM rfl ?_)
 refine uM rfl ?_
 refine xC x0callable100 rfl ((indexFunc0 B _ _ fv hv).mono ?_) rfl
 rintro e w3 ⟨rfl, hv⟩
 refine ⟨_, rfl, uA rfl ?_⟩
 refine uW k2 (sK fun _ k4 => ?_)
 refine sK fun _ k5 => rL (uM rfl ?_)
 refine uG (.bool true) rfl (ex_eql rfl rfl rfl (by decide)) (uW k5 ?_)
 refine cT rfl (sK fun _ k6 => ?_)
 refine rL (uM rfl ?_)
 refine uA rfl (uW k6 ?_)
 refine rR (tR ?_)
 refine bR rfl rfl (⟨rfl, hv⟩)
theorem x0na57 (w : World) : (isAgg 57).run Tryz.prog w = .ok false w := by kernel_rfl
theorem x0callable181 : Callable Tryz.prog 181 := cb Tryz.func181 (by kernel_rfl)
theorem x0callable180 : Callable Tryz.prog 180 := cb Tryz.func180 (by kernel_rfl)
theorem storeNames0 (B : Base) (H : List Res) (w : World) (s p : Nat) (stamp clock : Int) (hv : Inv B (Res.cell s [vP p, vI 0, vI 0] 100 :: Res.cell p [vN, vI 0] 130 :: H) w) :
  Calls Tryz.prog 177 #[vP s, vI stamp, vI clock] w fun e w' => e = .returned (vN) ∧ Inv B (Res.cell s [vP p, vI 0, vI 0] 100 :: Res.cell p [vN, vI 0] 130 :: H) w' := by
 refine cW Tryz.func177 rfl Tryz.ntmps177 ?_
 simp only [al]
 refine sK fun _ k1 => rL (sl_box (L := [vP s]) tV (wn rfl) rfl rfl hv (fun w => by kernel_rfl) (fun b2 w3 hv => ?_))
 refine sl_box (L := [vI stamp]) tV (wn rfl) rfl rfl hv (fun w => by kernel_rfl) (fun b4 w5 hv => ?_)
 refine sl_box (L := [vI clock]) tV (wn rfl) rfl rfl hv (fun w => by kernel_rfl) (fun b6 w7 hv => ?_)
 refine uA rfl (uW k1 ?_)
 refine sK fun _ k8 => rL (uL _ rfl (run_load1 x0na57 (hv.load 2 0 rfl rfl)) ?_)
 refine uG (vP s) rfl (ex_nil rfl rfl) ?_
 refine uF (vP s) rfl (x0fa100_0 _ _ _) ?_
 refine uL _ rfl (run_load1 x0na97 (hv.load 3 0 rfl rfl)) ?_
 replace hv := hv.front 4 rfl
 simp only [eS, eZ] at hv
 refine xC x0callable181 rfl ((ixKeys0 B _ _ p hv).mono ?_) rfl
 rintro e w9 ⟨rfl, hv⟩
 refine ⟨_, rfl, uG (.func (.func 182) #[] #[vP b2, vP b4, vP b6]) rfl (ex_makeFunc (c' := #[vP b2, vP b4, vP b6]) rfl (by simp only [List.map_toArray, List.map_nil]) (by simp only [List.map_toArray, List.map_cons, List.map_nil]; rfl)) ?_⟩
 refine xC x0callable180 rfl ((deleteFunc0 B _ _ _ hv).mono ?_) rfl
 rintro e w10 ⟨rfl, hv⟩
 refine ⟨_, rfl, uA rfl ?_⟩
 refine uW k8 (rR ?_)
 refine bR rfl rfl (⟨rfl, (hv.kp [4] 2 3)⟩)
def PutOk (k : List UInt8) (v : Val) (e : Int) : Prop := k.length ≤ 256 ∧ ValOk v ∧ 0 ≤ e ∧ e ≤ 1099511627776
theorem x2mk9 : (Tryz.prog.info? 9).map (fun i => (i.zero, i.size, i.bytes)) = some (some (vS []), 1, 16) := by kernel_rfl
theorem x2el22 : Elem Tryz.prog 22 9 (vS []) 1 16 := elem_of Tryz.underlying22 x2mk9 (by rfl) (by decide)
theorem x2callable199 : Callable Tryz.prog 199 := cb Tryz.func199 (by kernel_rfl)
theorem x2callable203 : Callable Tryz.prog 203 := cb Tryz.func203 (by kernel_rfl)
theorem x2fa133_4 : FA Tryz.prog 133 4 4 := fun w b o => by kernel_rfl
theorem x2na131 (w : World) : (isAgg 131).run Tryz.prog w = .ok false w := by kernel_rfl
theorem x2callable55 : Callable Tryz.prog 55 := cb Tryz.func55 (by kernel_rfl)
theorem txnPut (B : Base) (H : List Res) (w : World) (t m s p wb : Nat) (va : Option Addr) (vc : Nat) (sv : Value) (clk : Int) (es : List (List UInt8 × Value)) (M : List (List UInt8 × Ver)) (key : List UInt8) (v : Val) (pp pt pz : Value) (exp : Int) (hM : VM B es M) (hval : ValAt B v pp pt pz) (hv : Inv B (txR t m s p wb va vc sv clk es :: H) w) :
  Calls Tryz.prog 198 #[vP t, vS key, .agg #[vI v.kind, vS v.text, pp, pt, pz], vI exp] w fun e w' => ∃ C es' ec, B.Le C ∧ e = .returned (vI ec) ∧ ((ec = 0 ∧ PutOk key v exp ∧ VM C es' (updA M key ⟨0, false, exp, v⟩)) ∨ (ec = 2 ∧ ¬ PutOk key v exp ∧ es' = es)) ∧ Inv C (txR t m s p wb va vc sv clk es' :: H) w' := by
 refine cW Tryz.func198 rfl Tryz.ntmps198 ?_
 simp only [al]
 refine sK fun _ k1 => ?_
 replace hv := Inv.unstar hv
 simp only [txL, List.cons_append, List.nil_append] at hv
 refine rL (sl_box (L := [vI v.kind, vS v.text, pp, pt, pz]) tV (wn rfl) rfl rfl hv (fun w => by kernel_rfl) (fun b2 w3 hv => ?_))
 refine uA rfl (uW k1 ?_)
 refine sK fun _ k4 => sK fun _ k5 => rL (uM rfl ?_)
 refine uM rfl ?_
 refine sl_rowOne (v := vS key) tV (wn rfl) rfl rfl hv x2el22 rfl (fun b6 w7 hv => ?_)
 simp only [zP, po]
 obtain ⟨C, hBC, hv, hrk, -, -⟩ := (hv.cellRow (n := 1) (c := 1) (size := 1) rfl (by decide) (by decide)).rowBy
 replace hv := hv.front 3 rfl
 simp only [eS, eZ] at hv
 replace hv := hv.front 3 rfl
 simp only [eS, eZ] at hv
 replace hv := hv.front 3 rfl
 simp only [eS, eZ] at hv
 refine xC x2callable199 rfl ((txnMay C _ _ t m s wb va vc sv clk _ 1 [key] hrk (by simp) hv).mono ?_) rfl
 rintro e w8 ⟨ec, rfl, hmay, hv⟩
 refine ⟨_, rfl, ?_⟩
 rcases hmay with ⟨rfl, hk⟩ | ⟨rfl, hk⟩
 ·replace hk : key.length ≤ 256 := by simpa using hk
  refine uA rfl (uW k5 ?_)
  refine sK fun _ k9 => rL (uM rfl ?_)
  refine uG (.bool false) rfl (ex_neq rfl rfl rfl (by decide)) (uW k9 ?_)
  refine cF rfl (kS ?_)
  refine tK k4 (sK fun _ k10 => ?_)
  refine sK fun _ k11 => rL (uL (.agg #[vI v.kind, vS v.text, pp, pt, pz]) rfl (lM 3 s1wd78 hv rfl rfl rfl rfl) ?_)
  refine xC x2callable203 rfl ((valueRight C _ _ v pp pt pz (hval.more hBC) hv).mono ?_) rfl
  rintro e w13 ⟨bl12, rfl, hbl12, hv⟩
  refine ⟨_, rfl, ?_⟩
  cases bl12
  ·refine uG (.bool true) rfl (ex_not rfl rfl rfl) (uM rfl ?_)
   refine uP rfl ?_
   refine uP rfl (uK rfl ?_)
   refine uM rfl ?_
   refine uP rfl ?_
   refine uP rfl (uK rfl ?_)
   refine uW k11 (cT rfl ?_)
   refine sK fun _ k14 => rL (uA rfl ?_)
   refine uW k14 (rR ?_)
   refine tR (bR rfl rfl ?_)
   exact ⟨_, _, 2, hBC, rfl, .inr ⟨rfl, fun h => (by have h9 := hbl12.2 h.2.1; cases h9), rfl⟩, Inv.star (K := txL _ _ _ _ _ _ _ _ _ _) ((hv.kp [6, 6, 6, 5, 5, 5] 6 1))⟩
  refine uG (.bool false) rfl (ex_not rfl rfl rfl) (uM rfl ?_)
  refine uM rfl ?_
  by_cases hb15 : exp < 0
  ·refine uG (.bool true) rfl (ex_lss rfl rfl rfl (qT hb15)) (uK rfl ?_)
   refine uM rfl ?_
   refine uP rfl ?_
   refine uP rfl (uK rfl ?_)
   refine uW k11 (cT rfl ?_)
   refine sK fun _ k16 => rL (uA rfl ?_)
   refine uW k16 (rR ?_)
   refine tR (bR rfl rfl ?_)
   exact ⟨_, _, 2, hBC, rfl, .inr ⟨rfl, fun h => (by have h9 := h.2.2; omega), rfl⟩, Inv.star (K := txL _ _ _ _ _ _ _ _ _ _) ((hv.kp [6, 6, 6, 5, 5, 5] 6 1))⟩
  refine uG (.bool false) rfl (ex_lss rfl rfl rfl (qF hb15)) (uK rfl ?_)
  refine uM rfl ?_
  refine uM rfl ?_
  by_cases hb17 : exp > 1099511627776
  ·refine uG (.bool true) rfl (ex_gtr rfl rfl rfl (qT hb17)) (uK rfl ?_)
   refine uW k11 (cT rfl ?_)
   refine sK fun _ k18 => rL (uA rfl ?_)
   refine uW k18 (rR ?_)
   refine tR (bR rfl rfl ?_)
   exact ⟨_, _, 2, hBC, rfl, .inr ⟨rfl, fun h => (by have h9 := h.2.2; omega), rfl⟩, Inv.star (K := txL _ _ _ _ _ _ _ _ _ _) ((hv.kp [6, 6, 6, 5, 5, 5] 6 1))⟩
  refine uG (.bool false) rfl (ex_gtr rfl rfl rfl (qF hb17)) (uK rfl ?_)
  refine uW k11 (cF rfl ?_)
  refine kS (tK k10 ?_)
  refine sK fun _ k19 => rW mixed [7, 9] [0,1,2,3,4,5,6,7,8,9] 37 rfl (by kernel_rfl) hv ?_
  simp only [qm, opAt]
  refine dM (vP t) rfl (dG (vP t) rfl (ex_nil rfl rfl) ?_)
  refine dG (.pointer (some ⟨t, 4, none⟩)) rfl (ex_field rfl rfl (x2fa133_4 _ _ _)) ?_
  simp only [zP, po]
  refine dF _ rfl (fun hv => ex_load rfl rfl (run_load1 x2na131 (hv.load 0 4 rfl rfl))) fun f20 hf20 => dM (vS key) rfl (dM (vI exp) rfl ?_)
  simp only [zP, po]
  refine dL (.agg #[vI v.kind, vS v.text, pp, pt, pz]) rfl (fun hv => ex_load rfl rfl (lM 3 s1wd78 hv rfl rfl rfl rfl)) (dS rfl fun w21 hv => ?_)
  refine mC x2callable55 rfl ((valueClone _ _ _ v pp pt pz (hval.more hBC) hv).mono ?_) rfl
  rintro e w26 ⟨C22, p23, t24, z25, hC22, rfl, hp23, hv⟩
  refine ⟨_, rfl, dV hv (fC (fun ww hv => hf20 ww (ex_load rfl rfl (run_load1 x2na131 (hv.load 0 4 rfl rfl)))) fN) ?_⟩
  refine dG (.agg #[vI 0, .bool false, vI exp, vI v.kind, vS v.text, p23, t24, z25]) rfl (ex_buildN (vs := #[(2, vI exp), (3, .agg #[vI v.kind, vS v.text, p23, t24, z25])]) rfl (by simp only [List.map_toArray, List.map_cons, List.map_nil]; rfl) (by kernel_rfl)) ?_
  simp only [zP, po]
  refine dS rfl fun w27 hv => mem_updV 4 (k := key) (v := .agg #[vI 0, .bool false, vI exp, vI v.kind, vS v.text, p23, t24, z25]) rfl rfl rfl rfl rfl Tryz.underlying131 Tryz.underlying9 hv rfl (fun w28 hv => ?_)
  simp only [zS, zO] at hv
  refine dV hv (fK rfl fN) (dE fun w29 hv => ?_)
  simp only [zP, po]
  refine tK k19 (sK fun _ k30 => ?_)
  refine rL (uA rfl ?_)
  refine uW k30 (rR ?_)
  refine bR rfl rfl (⟨_, _, 0, (hBC.trans hC22), rfl, .inl ⟨rfl, ⟨hk, hbl12.1 rfl, by omega, by omega⟩, VM.upd (x := ⟨0, false, exp, v⟩) hp23 (VM.more (hBC.trans hC22) hM)⟩, Inv.star (K := txL _ _ _ _ _ _ _ _ _ _) ((hv.kp [6, 6, 6, 5, 5, 5] 6 1))⟩)
 replace hk : ¬ key.length ≤ 256 := by simpa using hk
 refine uA rfl (uW k5 ?_)
 refine sK fun _ k31 => rL (uM rfl ?_)
 refine uG (.bool true) rfl (ex_neq rfl rfl rfl (by decide)) (uW k31 ?_)
 refine cT rfl (sK fun _ k32 => ?_)
 refine rL (uM rfl ?_)
 refine uA rfl (uW k32 ?_)
 refine rR (tR ?_)
 refine bR rfl rfl (⟨_, _, 2, hBC, rfl, .inr ⟨rfl, fun h => hk h.1, rfl⟩, Inv.star (K := txL _ _ _ _ _ _ _ _ _ _) ((hv.kp [6, 6, 6, 5, 5, 5] 6 1))⟩)
theorem x2al85 : AL Tryz.prog 85 [vI 0, .bool false, vI 0, vI 0, vS [], vN, vN, vN] := fun w => by kernel_rfl
theorem x2fa96_0 : FA Tryz.prog 96 0 0 := fun w b o => by kernel_rfl
theorem x2fa133_1 : FA Tryz.prog 133 1 1 := fun w b o => by kernel_rfl
theorem x2fa133_2 : FA Tryz.prog 133 2 2 := fun w b o => by kernel_rfl
theorem x2callable183 : Callable Tryz.prog 183 := cb Tryz.func183 (by kernel_rfl)
theorem x2callable188 : Callable Tryz.prog 188 := cb Tryz.func188 (by kernel_rfl)
theorem x2fa85_3 : FA Tryz.prog 85 3 3 := fun w b o => by kernel_rfl
theorem txnGet (B : Base) (H : List Res) (w : World) (t m s p wb : Nat) (va : Option Addr) (vc : Nat) (sv : Value) (clk : Int) (es : List (List UInt8 × Value)) (M : List (List UInt8 × Ver)) (key : List UInt8) (hM : VM B es M) (hv : Inv B (txR t m s p wb va vc sv clk es :: H) w) :
  Calls Tryz.prog 196 #[vP t, vS key] w fun e w' => ∃ C x p' t' z' ok, B.Le C ∧ e = .returned (.tuple #[.agg (verCells x p' t' z').toArray, .bool ok]) ∧ ((ok = true ∧ lookA M key = some x ∧ aliveB x clk = true) ∨ (ok = false ∧ x = zver0 ∧ ∀ y, lookA M key = some y → aliveB y clk = false)) ∧ ValAt C x.val p' t' z' ∧ Inv C (txR t m s p wb va vc sv clk es :: H) w' := by
 refine cW Tryz.func196 rfl Tryz.ntmps196 ?_
 simp only [al]
 refine sK fun _ k1 => ?_
 replace hv := Inv.unstar hv
 simp only [txL, List.cons_append, List.nil_append] at hv
 refine rL (sl_alloc tV (wn rfl) rfl hv x2al85 (fun b2 w3 hv => ?_))
 refine uA rfl (uW k1 ?_)
 refine sK fun _ k4 => rL (uM rfl ?_)
 refine uG (vP t) rfl (ex_nil rfl rfl) ?_
 refine uF (.pointer (some ⟨t, 4, none⟩)) rfl (x2fa133_4 _ _ _) ?_
 refine uL _ rfl (run_load1 x2na131 (hv.load 1 4 rfl rfl)) (uM rfl ?_)
 rcases VM.look key hM with ⟨hl, hlM⟩ | ⟨x, xp, xt, xz, hl, hlM, hxv⟩
 ·refine uG (.tuple #[.agg #[vI 0, .bool false, vI 0, vI 0, vS [], vN, vN, vN], .bool false]) rfl (ex_lookN (z := .agg #[vI 0, .bool false, vI 0, vI 0, vS [], vN, vN, vN]) 4 rfl rfl rfl Tryz.underlying131 Tryz.underlying9 (fun w => by kernel_rfl) hv rfl hl) (uM rfl ?_)
  refine uE rfl (uE rfl ?_)
  refine sl_alloc tV (wn rfl) rfl hv x2al85 (fun b5 w6 hv => ?_)
  refine xS 0 rfl hv x0sz85 rfl (by exact ⟨rfl, rfl, rfl, rfl, rfl, rfl, rfl, rfl, trivial⟩) (fun w7 hv => ?_)
  simp only [zO, sp] at hv
  refine uA rfl (uW k4 ?_)
  refine sK fun _ k8 => sK fun _ k9 => rL (uM rfl ?_)
  refine uG (.bool true) rfl (ex_not rfl rfl rfl) (uW k9 ?_)
  refine cT rfl (sK fun _ k10 => ?_)
  refine rW mixed [16, 19] [0,1,2,3,4,5,6,7,8,9,10,11,12,13,14,15,16,17,18,19,20] 51 rfl (by kernel_rfl) hv ?_
  simp only [qm, opAt]
  refine dM (vP t) rfl (dG (vP t) rfl (ex_nil rfl rfl) ?_)
  refine dG (vP t) rfl (ex_field rfl rfl (x1fa133_0 _ _ _)) ?_
  simp only [zP, po]
  refine dL _ rfl (fun hv => ex_load rfl rfl (run_load1 x1na53 (hv.load 2 0 rfl rfl))) (dG (vP m) rfl (ex_nil rfl rfl) ?_)
  refine dG (vP m) rfl (ex_field rfl rfl (x2fa96_0 _ _ _)) ?_
  simp only [zP, po]
  refine dL _ rfl (fun hv => ex_load rfl rfl (run_load1 x0na57 (hv.load 3 0 rfl rfl))) (dM (vS key) rfl ?_)
  refine dM (vP t) rfl ?_
  simp only [zP, po]
  refine dG (vP t) rfl (ex_nil rfl rfl) (dG (.pointer (some ⟨t, 1, none⟩)) rfl (ex_field rfl rfl (x2fa133_1 _ _ _)) ?_)
  refine dL _ rfl (fun hv => ex_load rfl rfl (run_load1 s2na3 (hv.load 2 1 rfl rfl))) ?_
  simp only [zP, po]
  refine dM (vP t) rfl (dG (vP t) rfl (ex_nil rfl rfl) ?_)
  refine dG (.pointer (some ⟨t, 2, none⟩)) rfl (ex_field rfl rfl (x2fa133_2 _ _ _)) ?_
  simp only [zP, po]
  refine dL _ rfl (fun hv => ex_load rfl rfl (run_load1 s2na3 (hv.load 2 2 rfl rfl))) (dS rfl fun w11 hv => ?_)
  replace hv := hv.front 7 rfl
  simp only [eS, eZ] at hv
  replace hv := hv.front 7 rfl
  simp only [eS, eZ] at hv
  refine mC x2callable183 rfl ((storeRead0 B _ _ s p 0 clk key hv).mono ?_) rfl
  rintro e w12 ⟨rfl, hv⟩
  refine ⟨_, rfl, dW hv ?_⟩
  refine dG (.agg #[vI 0, .bool false, vI 0, vI 0, vS [], vN, vN, vN]) rfl (ex_extract rfl rfl rfl) ?_
  simp only [zP, po]
  refine dG (.bool false) rfl (ex_extract rfl rfl rfl) (dS rfl fun w13 hv => ?_)
  refine mS 3 rfl hv x0sz85 rfl (by exact ⟨rfl, rfl, rfl, rfl, rfl, rfl, rfl, rfl, trivial⟩) (fun w14 hv => ?_)
  simp only [zS, zO, sp] at hv
  refine dW hv (dA (.bool false) rfl ?_)
  refine dE fun w15 hv => ?_
  simp only [zP, po]
  refine tK k10 (rR ?_)
  refine tR (bodyPost_ret (res_cell2 rfl rfl (lM 3 x0wd85 hv rfl rfl rfl rfl)) rfl ?_)
  exact ⟨_, zver0, _, _, _, false, (Base.Le.refl _), rfl, .inr ⟨rfl, rfl, fun y hy => (by rw [hlM] at hy; cases hy)⟩, zver0_at _, Inv.star (K := txL _ _ _ _ _ _ _ _ _ _) ((hv.kp [1, 1, 7, 7, 7, 7] 6 2))⟩
 refine uG (.tuple #[.agg #[vI x.stamp, .bool x.gone, vI x.expire, vI x.val.kind, vS x.val.text, xp, xt, xz], .bool true]) rfl (ex_lookS (z := .agg #[vI 0, .bool false, vI 0, vI 0, vS [], vN, vN, vN]) 4 rfl rfl rfl Tryz.underlying131 Tryz.underlying9 (fun w => by kernel_rfl) hv rfl hl) (uM rfl ?_)
 refine uE rfl (uE rfl ?_)
 refine sl_alloc tV (wn rfl) rfl hv x2al85 (fun b16 w17 hv => ?_)
 refine xS 0 rfl hv x0sz85 rfl (by exact ⟨rfl, rfl, rfl, rfl, rfl, hxv.p.one, hxv.t.one, hxv.z.one, trivial⟩) (fun w18 hv => ?_)
 simp only [zO, sp] at hv
 refine uA rfl (uW k4 ?_)
 refine sK fun _ k19 => sK fun _ k20 => rL (uM rfl ?_)
 refine uG (.bool false) rfl (ex_not rfl rfl rfl) (uW k20 ?_)
 refine cF rfl (kS ?_)
 refine tK k19 (sK fun _ k21 => ?_)
 refine sK fun _ k22 => rW mixed [5] [0,1,2,3,4,5,6] 51 rfl (by kernel_rfl) hv ?_
 simp only [qm, opAt]
 refine dL (.agg #[vI x.stamp, .bool x.gone, vI x.expire, vI x.val.kind, vS x.val.text, xp, xt, xz]) rfl (fun hv => ex_load rfl rfl (lM 0 x0wd85 hv rfl rfl rfl rfl)) (dM (vP t) rfl ?_)
 refine dG (vP t) rfl (ex_nil rfl rfl) ?_
 simp only [zP, po]
 refine dG (.pointer (some ⟨t, 2, none⟩)) rfl (ex_field rfl rfl (x2fa133_2 _ _ _)) (dL _ rfl (fun hv => ex_load rfl rfl (run_load1 s2na3 (hv.load 2 2 rfl rfl))) ?_)
 refine dS rfl fun w23 hv => mC x2callable188 rfl ((chainAlive B _ _ x xp xt xz clk hv).mono ?_) rfl
 rintro e w24 ⟨rfl, hv⟩
 refine ⟨_, rfl, dW hv ?_⟩
 simp only [zP, po]
 refine dG (.bool (!(aliveB x clk))) rfl (ex_not rfl rfl rfl) (dE fun w25 hv => ?_)
 simp only [zP, po]
 refine tK k22 (wpIn_cond_split (t := !(aliveB x clk)) rfl (fun hc26 => ?_) (fun hc26 => ?_))
 ·refine sK fun _ k27 => rL (uG (.agg #[vI 0, .bool false, vI 0, vI 0, vS [], vN, vN, vN]) rfl (ex_buildN (vs := #[]) rfl (by simp only [List.map_toArray, List.map_nil]) (by kernel_rfl)) ?_)
  refine xS 1 rfl hv x0sz85 rfl (by exact ⟨rfl, rfl, rfl, rfl, rfl, rfl, rfl, rfl, trivial⟩) (fun w28 hv => ?_)
  simp only [zS, zO, sp] at hv
  refine uA rfl (uW k27 ?_)
  refine rR (tR ?_)
  refine bodyPost_ret (res_cell2 rfl rfl (lM 1 x0wd85 hv rfl rfl rfl rfl)) rfl (⟨_, zver0, _, _, _, false, (Base.Le.refl _), rfl, .inr ⟨rfl, rfl, fun y hy => (by rw [hlM] at hy; cases hy; simpa using hc26)⟩, zver0_at _, Inv.star (K := txL _ _ _ _ _ _ _ _ _ _) ((hv.kp [7, 7, 7, 7, 7, 7] 6 2))⟩)
 refine kS (tK k21 ?_)
 refine sK fun _ k29 => rL (uF (.pointer (some ⟨b16, 3, none⟩)) rfl (x2fa85_3 _ _ _) ?_)
 refine uL (.agg #[vI x.val.kind, vS x.val.text, xp, xt, xz]) rfl (lM 0 s1wd78 hv rfl rfl rfl rfl) ?_
 refine xC x2callable55 rfl ((valueClone _ _ _ x.val xp xt xz (hxv.more (Base.Le.refl _)) hv).mono ?_) rfl
 rintro e w34 ⟨C30, p31, t32, z33, hC30, rfl, hp31, hv⟩
 refine ⟨_, rfl, uF (.pointer (some ⟨b16, 3, none⟩)) rfl (x2fa85_3 _ _ _) ?_⟩
 refine xS 0 rfl hv s1sz78 rfl (by exact ⟨rfl, rfl, hp31.p.one, hp31.t.one, hp31.z.one, trivial⟩) (fun w35 hv => ?_)
 simp only [zO, sp] at hv
 refine uW k29 (sK fun _ k36 => ?_)
 refine rL (uL (.agg #[vI x.stamp, .bool x.gone, vI x.expire, vI x.val.kind, vS x.val.text, p31, t32, z33]) rfl (lM 0 x0wd85 hv rfl rfl rfl rfl) ?_)
 refine xS 1 rfl hv x0sz85 rfl (by exact ⟨rfl, rfl, rfl, rfl, rfl, hp31.p.one, hp31.t.one, hp31.z.one, trivial⟩) (fun w37 hv => ?_)
 simp only [zS, zO, sp] at hv
 refine uA rfl (uW k36 ?_)
 refine rR (bodyPost_ret (res_cell2 rfl rfl (lM 1 x0wd85 hv rfl rfl rfl rfl)) rfl ?_)
 exact ⟨_, x, _, _, _, true, hC30, rfl, .inl ⟨rfl, hlM, by simpa using hc26⟩, hp31, Inv.star (K := txL _ _ _ _ _ _ _ _ _ _) ((hv.kp [7, 7, 7, 7, 7, 7] 6 2))⟩
end Go.Proofs.YtoljdfjnannakaaGreatDoor
namespace Go.Pm
open Go.RowKit
section
variable {F : Fence} {n : Nat} {P : Program} {ops : Array Oper} {Q : Exit → Act → World → Prop} {a : Act} {w : World} {rest : List Oper} {o : Oper} {x : Operand}
theorem ex_iface {t : TypeId} {v : Value} {y : Operand} {d : TypeDesc} (ht : P.underlying t = some d) (hd : ∀ m, d ≠ .interface m) (ho : o.op = .makeInterface t y) (hy : a.eval y = v) : Ex P a o w (.iface t v) w := by
 unfold Ex
 cases d <;> first | exact absurd rfl (hd _) | simp [execOp, ho, hy, Instr.makeInterface, run_underlying ht]
theorem ex_ifnil {t u d : TypeId} {v : Value} {ms : Array (String × TypeId)} {y : Operand} (ht : P.underlying t = some (.interface ms)) (ho : o.op = .binOp .eql t x y u) (hx : a.eval x = .iface d v) (hy : a.eval y = .nilIface) : Ex P a o w (.bool false) w := by
 have hg : (eqGuard .eql t x y (.iface d v) .nilIface).run P w = .ok () w := by simp [eqGuard]
 have h : ∀ k : Nat, (Op.equalIn (k + 1) t (.iface d v) .nilIface).run P w = .ok false w := fun k => by simp [Op.equalIn, run_underlying ht]
 have hr : (binOp .eql t (.iface d v) .nilIface).run P w = .ok (.bool false) w := by
  simp only [binOp]; simp [Op.equal, Op.maxDepth, h 9999]
 unfold Ex; simp [execOp, ho, hx, hy, hg, hr]
theorem sl_rowN {B : Base} {H : List Res} {t e : TypeId} {k : Nat} {parts : Array (Nat × Operand)} {pv : Array (Nat × Value)} {L : List Value} (hF : ∀ f, F.fn f) (hg : Region.wanted o (yielded ops a.tmps) = true) (ho : o.op = .buildSlice t k parts) (hx : (parts.map fun (i, x) => (i, a.eval x)) = pv) (hv : Inv B H w)
  (hr : ∀ w, (Instr.buildSlice t k pv).run P w = .ok (.slice (some ⟨w.heap.size, 0, none⟩) k k) (w.alloc (.cells L.toArray e))) (h : ∀ b w', Inv B (Res.cell b L e :: H) w' → wpListIn F n P ops Q rest (a.put o.dst (.slice (some ⟨b, 0, none⟩) k k)) w') : wpListIn F n P ops Q (o :: rest) a w :=
 wpi_exG hF hg (by unfold isDefer; rw [ho]) (by unfold Ex; simp only [execOp, ho, hx]; simp [hr]) (h _ _ (hv.alloc L e))
theorem ex_nilI {t : TypeId} {v : Value} (ho : o.op = .nilCheck x) (hx : a.eval x = .iface t v) : Ex P a o w (.iface t v) w := by unfold Ex; simp [execOp, ho, hx]
theorem run_callI {f : FuncId} {name : String} {xs : Array Operand} {ts : Array TypeId} {args : Array Value} {t : TypeId} {r r' : Value} (hf : Callable P f) (ho : o.op = .call { callee := .invoke x name, args := xs, argTypes := ts }) (hfx : a.eval x = .iface t r)
  (hm : ∀ w, (method (P.types.size + Made.depth) t r name).run P w = .ok (f, r') w) (hx : xs.map a.eval = args) (w : World) : (execOp a.eval o).run P w = .ok (.enter f (#[r'] ++ args)) w := by
 obtain ⟨fn, h1, h2, h3⟩ := hf
 have hb : ¬ fn.body = none := by intro h; rw [h] at h3; cases h3
 have hn : ¬ fn.name = "runtime.NumGoroutine" := by simpa using h2
 have hget : (#[Value.iface t r] ++ xs.map a.eval)[0]? = some (.iface t r) := by
  rw [← Array.getElem?_toList, Array.toList_append]; rfl
 have hext : (#[Value.iface t r] ++ xs.map a.eval).extract 1 (#[Value.iface t r] ++ xs.map a.eval).size = xs.map a.eval := by
  apply Array.ext'; simp
  exact List.take_of_length_le (by simp)
 obtain ⟨d, op, ty, pos, af, gd⟩ := o
 simp only at ho
 subst ho
 simp only [execOp, resolve, Sem.run_bind, Sem.run_pure, Result.andThen_ok, invoke, hfx, hget, hext, callMethod]
 simp only [program, Sem.run, Result.andThen_ok, hm, hx]
 simp [callFunc, h1, hn, hb]
theorem wpi_callI {f : FuncId} {name : String} {xs : Array Operand} {ts : Array TypeId} {args : Array Value} {t : TypeId} {r r' : Value} (hf : Callable P f) (hF : ∀ f, F.fn f) (hC : ∀ (f : FuncId) (args : Array Value) (w : World) (R : Ending → World → Prop), Calls P f args w R → CallsIn F (n - 1) P f args w R) (hdp : F.depth = none) (hg : Region.wanted o (yielded ops a.tmps) = true)
  (ho : o.op = .call { callee := .invoke x name, args := xs, argTypes := ts }) (hfx : a.eval x = .iface t r) (hm : ∀ w, (method (P.types.size + Made.depth) t r name).run P w = .ok (f, r') w) (hx : xs.map a.eval = args) (hc : Calls P f (#[r'] ++ args) w fun e w' => ∃ v, e = .returned v ∧ wpListIn F n P ops Q rest (a.put o.dst v) w') : wpListIn F n P ops Q (o :: rest) a w := by
 refine wpListIn_step fun K hK => ?_
 rw [if_pos hg]
 refine ⟨fun f _ => hF f, ?_⟩
 have hd : isDefer o = false := by unfold isDefer; rw [ho]
 rw [Oper.semAt_eq _ _ _ (not_defer hd), run_callI hf ho hfx hm hx w, Oper.uponIn_enter]
 refine ⟨fun e => by simp [hdp] at e, hC _ _ _ _ (hc.mono ?_)⟩
 rintro e w' ⟨v, rfl, hh⟩
 exact hK _ _ hh
theorem stepMem_callI {J : List Value → World → Prop} {vals : List Value} {f : FuncId} {name : String} {xs : Array Operand} {ts : Array TypeId} {args : Array Value} {t : TypeId} {r r' : Value} (hf : Callable P f) (hg : Region.wanted o (yielded ops a.tmps) = true)
  (ho : o.op = .call { callee := .invoke x name, args := xs, argTypes := ts }) (hfx : a.eval x = .iface t r) (hm : ∀ w, (method (P.types.size + Made.depth) t r name).run P w = .ok (f, r') w) (hx : xs.map a.eval = args) (hc : Calls P f (#[r'] ++ args) w fun e w' => ∃ v, e = .returned v ∧ J (vals ++ [v]) w') : StepMem P ops J Q o a w vals := by
 unfold StepMem
 rw [if_pos hg]
 unfold Oper.wp
 rw [run_callI hf ho hfx hm hx w]
 exact hc.mono fun e w' ⟨v, he, h1⟩ => by subst he; exact ⟨v, rfl, h1⟩
end
section
variable {F : Fence} {n : Nat} {P : Program} {ops : Array Oper} {Q : Exit → Act → World → Prop} {a : Act} {w : World} {rest : List Oper} {o : Oper} {x : Operand}
theorem wpi_defer {f : FuncId} {cb : Array Value} (hF : ∀ f, F.fn f) (hro : F.round = none) (hg : Region.wanted o (yielded ops a.tmps) = true) (ho : o.op = .defer { callee := .value x, args := #[], argTypes := #[] }) (hx : a.eval x = .func (.func f) #[] cb)
  (h : wpListIn F n P ops Q rest (({ a with defers := { target := .fn (.func f) cb, args := #[] } :: a.defers } : Act).put o.dst undef) w) : wpListIn F n P ops Q (o :: rest) a w := by
 refine wpListIn_step fun K hK => ?_
 rw [if_pos hg]
 refine ⟨fun f _ => hF f, ?_⟩
 have hr : (execOp a.eval o).run P w = .ok (.defer { target := .fn (.func f) cb, args := #[] }) w := by
  obtain ⟨d, op, ty, pos, af, gd⟩ := o
  simp only at ho
  subst ho
  simp [execOp, resolve, hx, Deferred.ofValue]
 rw [hro, Oper.semAt_none, hr, Oper.uponIn_defer]
 exact hK _ _ h
end
theorem res_cells2 {P : Program} {fn : Func} {w : World} {t u : TypeId} {v v' : Value} {r i : Nat} (h : fn.results = #[.cell r t, .cell i u]) {tmps : Array Value} {ad ad' : Addr} (hr : tmps.getD r undef = .pointer (some ad)) (hl : (Instr.loadAt t (.pointer (some ad))).run P w = .ok v w)
  (hr2 : tmps.getD i undef = .pointer (some ad')) (hl2 : (Instr.loadAt u (.pointer (some ad'))).run P w = .ok v' w) : (results fn tmps).run P w = .ok (.tuple #[v, v']) w := by
 have hl' : (loadVar t ad).run P w = .ok v w := by simpa [Instr.loadAt, Instr.sureAddr] using hl
 have hr' : tmps[r]?.getD undef = .pointer (some ad) := by rw [← hr, Array.getD_eq_getD_getElem?]
 have hl2' : (loadVar u ad').run P w = .ok v' w := by simpa [Instr.loadAt, Instr.sureAddr] using hl2
 have hr2' : tmps[i]?.getD undef = .pointer (some ad') := by rw [← hr2, Array.getD_eq_getD_getElem?]
 simp [results, h, hr', hr2', asAddr, hl', hl2']
theorem leave_rec {P : Program} {fn : Func} {n : Nat} {tmps cb : Array Value} {R : Ending → World → Prop} {w : World} {v : Value} {f : FuncId} (hf : Callable P f) (hrec : CallsDIn Fence.wide (n - 1) P f cb .returning w fun e u' w' => e = .returned (.tuple #[]) ∧ u' = .returning ∧ w' = w)
  (hres : (results fn tmps).run P w = .ok v w) (hR : R (.returned v) w) : bodyPostDIn Fence.wide n P fn R .ret ⟨tmps, [{ target := .fn (.func f) cb, args := #[] }]⟩ w := by
 obtain ⟨fn', h1, h2, h3⟩ := hf
 have hb : ¬ fn'.body = none := by intro h; rw [h] at h3; cases h3
 have hn : ¬ fn'.name = "runtime.NumGoroutine" := by simpa using h2
 refine leavesIn_cons (f := f) (args := cb) (by simp) (by simp [Fence.wide]) (by simp [invoke, callFunc, h1, hn, hb]) (fun _ _ => trivial) ?_
 refine hrec.mono ?_
 rintro e u' w'' ⟨rfl, rfl, rfl⟩
 exact ⟨v, by simpa [settle] using hres, hR⟩
end Go.Pm
namespace Go.Proofs.YtoljdfjnannakaaGreatDoor
open Go.RowKit Go.Pm
theorem ixNew0 (B : Base) (H : List Res) (w : World) (hv : Inv B H w) :
  Calls Tryz.prog 35 #[] w fun e w' => ∃ p, e = .returned (vP p) ∧ Inv B (Res.cell p [vN, vI 0] 130 :: H) w' := by
 refine cW Tryz.func35 rfl Tryz.ntmps35 ?_
 simp only [al]
 refine sK fun _ k1 => rL (uA rfl ?_)
 refine uW k1 (sK fun _ k2 => ?_)
 refine rL (uG (.agg #[vN, vI 0]) rfl (ex_buildN (vs := #[]) rfl (by simp only [List.map_toArray, List.map_nil]) (by kernel_rfl)) ?_)
 refine sl_box (L := [vN, vI 0]) tV (wn rfl) rfl rfl hv (fun w => by kernel_rfl) (fun b3 w4 hv => ?_)
 refine uA rfl (uW k2 ?_)
 refine rR (bR rfl rfl ?_)
 exact ⟨_, rfl, hv⟩
theorem x3callable35 : Callable Tryz.prog 35 := cb Tryz.func35 (by kernel_rfl)
theorem storeNew0 (B : Base) (H : List Res) (w : World) (hv : Inv B H w) :
  Calls Tryz.prog 19 #[] w fun e w' => ∃ s p, e = .returned (vP s) ∧ Inv B (Res.cell s [vP p, vI 0, vI 0] 100 :: Res.cell p [vN, vI 0] 130 :: H) w' := by
 refine cW Tryz.func19 rfl Tryz.ntmps19 ?_
 simp only [al]
 refine sK fun _ k1 => rL (uA rfl ?_)
 refine uW k1 (sK fun _ k2 => ?_)
 refine rL (xC x3callable35 rfl ((ixNew0 B _ _ hv).mono ?_) rfl)
 rintro e w3 ⟨p, rfl, hv⟩
 refine ⟨_, rfl, uG (.agg #[vP p, vI 0, vI 0]) rfl (ex_buildN (vs := #[(0, vP p)]) rfl (by simp only [List.map_toArray, List.map_cons, List.map_nil]; rfl) (by kernel_rfl)) ?_⟩
 refine sl_box (L := [vP p, vI 0, vI 0]) tV (wn rfl) rfl rfl hv (fun w => by kernel_rfl) (fun b4 w5 hv => ?_)
 refine uA rfl (uW k2 ?_)
 refine rR (bR rfl rfl ?_)
 exact ⟨_, p, rfl, hv⟩
theorem txnNew0 (B : Base) (H : List Res) (w : World) (s : Nat) (tt : TypeId) (sq : Value) (hv : Inv B H w) :
  Calls Tryz.prog 18 #[vP s, (.iface tt sq)] w fun e w' => ∃ m, e = .returned (.tuple #[vP m, vI 0]) ∧ Inv B (Res.cell m [vP s, .iface tt sq, vI 0, vN] 96 :: H) w' := by
 refine cW Tryz.func18 rfl Tryz.ntmps18 ?_
 simp only [al]
 refine sK fun _ k1 => rL (uA rfl ?_)
 refine uA rfl (uW k1 ?_)
 refine sK fun _ k2 => sK fun _ k3 => rL (uM rfl ?_)
 refine uG (.bool false) rfl (ex_pisnil Tryz.underlying57 rfl rfl rfl rfl) (uM rfl ?_)
 refine uM rfl ?_
 refine uG (.bool false) rfl (ex_ifnil Tryz.underlying93 rfl rfl rfl) (uK rfl ?_)
 refine uW k3 (cF rfl ?_)
 refine kS (tK k2 ?_)
 refine sK fun _ k4 => rL (uM rfl ?_)
 refine uM rfl ?_
 refine uG (.agg #[vP s, (.iface tt sq), vI 0, vN]) rfl (ex_buildN (vs := #[(0, vP s), (1, (.iface tt sq))]) rfl (by simp only [List.map_toArray, List.map_cons, List.map_nil]; rfl) (by kernel_rfl)) ?_
 refine sl_box (L := [vP s, (.iface tt sq), vI 0, vN]) tV (wn rfl) rfl rfl hv (fun w => by kernel_rfl) (fun b5 w6 hv => ?_)
 refine uA rfl (uA rfl ?_)
 refine uW k4 (rR ?_)
 refine bodyPost_ret (results_tmp2 rfl _ _ _) rfl (⟨_, rfl, hv⟩)
theorem x3fa100_1 : FA Tryz.prog 100 1 1 := fun w b o => by kernel_rfl
theorem x3na3 (w : World) : (isAgg 3).run Tryz.prog w = .ok false w := by kernel_rfl
theorem storeLast0 (B : Base) (H : List Res) (w : World) (s p : Nat) (hv : Inv B (Res.cell s [vP p, vI 0, vI 0] 100 :: H) w) :
  Calls Tryz.prog 37 #[vP s] w fun e w' => e = .returned (vI 0) ∧ Inv B (Res.cell s [vP p, vI 0, vI 0] 100 :: H) w' := by
 refine cW Tryz.func37 rfl Tryz.ntmps37 ?_
 simp only [al]
 refine sK fun _ k1 => rL (uA rfl ?_)
 refine uW k1 (sK fun _ k2 => ?_)
 refine rL (uM rfl ?_)
 refine uG (vP s) rfl (ex_nil rfl rfl) ?_
 refine uF (.pointer (some ⟨s, 1, none⟩)) rfl (x3fa100_1 _ _ _) ?_
 refine uL _ rfl (run_load1 x3na3 (hv.load 0 1 rfl rfl)) (uA rfl ?_)
 refine uW k2 (rR ?_)
 refine bR rfl rfl (⟨rfl, hv⟩)
theorem x3fa96_3 : FA Tryz.prog 96 3 3 := fun w b o => by kernel_rfl
theorem x3na94 (w : World) : (isAgg 94).run Tryz.prog w = .ok false w := by kernel_rfl
theorem x3fa96_2 : FA Tryz.prog 96 2 2 := fun w b o => by kernel_rfl
theorem x3mk62 : (Tryz.prog.info? 62).map (fun i => (i.zero, i.size, i.bytes)) = some (some (.pointer none), 1, 8) := by kernel_rfl
theorem x3el94 : Elem Tryz.prog 94 62 (.pointer none) 1 8 := elem_of Tryz.underlying94 x3mk62 (by rfl) (by decide)
theorem x3sz94 : (Tryz.prog.info? 94).map (·.size) = some 1 := by kernel_rfl
theorem txnBegin0 (B : Base) (H : List Res) (w : World) (m s : Nat) (sv : Value) (clk : Int) (hv : Inv B (Res.cell m [vP s, sv, vI clk, vN] 96 :: H) w) :
  Calls Tryz.prog 36 #[vP m, vI 0, .bool false] w fun e w' => ∃ t wb va vc, e = .returned (.tuple #[vP t, vI 0]) ∧ Inv B (Res.cell t [vP m, vI 0, vI clk, .bool false, .map (some wb)] 133 :: Res.cell m [vP s, sv, vI clk, .slice va 1 vc] 96 :: Res.row 62 1 (.slice va 1 vc) 1 [vP t] :: Res.vmap wb [] :: H) w' := by
 refine cW Tryz.func36 rfl Tryz.ntmps36 ?_
 simp only [al]
 refine sK fun _ k1 => rL (uA rfl ?_)
 refine uA rfl (uW k1 ?_)
 refine sK fun _ k2 => sK fun _ k3 => rL (uM rfl ?_)
 refine uG (vP m) rfl (ex_nil rfl rfl) ?_
 refine uF (.pointer (some ⟨m, 3, none⟩)) rfl (x3fa96_3 _ _ _) ?_
 refine uL _ rfl (run_load1 x3na94 (hv.load 0 3 rfl rfl)) ?_
 refine uG (vI 0) rfl (ex_len0 Tryz.underlying94 rfl rfl) ?_
 refine uG (.bool false) rfl (ex_geq rfl rfl rfl (by decide)) (uW k3 ?_)
 refine cF rfl (kS ?_)
 refine tK k2 (sK fun _ k4 => ?_)
 refine rL (uM rfl ?_)
 refine uM rfl (uM rfl ?_)
 refine uG (vP m) rfl (ex_nil rfl rfl) ?_
 refine uF (.pointer (some ⟨m, 2, none⟩)) rfl (x3fa96_2 _ _ _) ?_
 refine uL _ rfl (run_load1 x3na3 (hv.load 0 2 rfl rfl)) (uM rfl ?_)
 refine sl_newMapV tV (wn rfl) rfl hv (fun mp5 w6 hv => ?_)
 refine uG (.agg #[vP m, vI 0, vI clk, .bool false, .map (some mp5)]) rfl (ex_buildN (vs := #[(0, vP m), (1, vI 0), (2, vI clk), (3, .bool false), (4, .map (some mp5))]) rfl (by simp only [List.map_toArray, List.map_cons, List.map_nil]; rfl) (by kernel_rfl)) ?_
 refine sl_box (L := [vP m, vI 0, vI clk, .bool false, .map (some mp5)]) tV (wn rfl) rfl rfl hv (fun w => by kernel_rfl) (fun b7 w8 hv => ?_)
 refine uA rfl (uW k4 ?_)
 refine sK fun _ k9 => ?_
 replace hv := hv.rowNil 62 1
 refine rL (uM rfl ?_)
 refine uM rfl ?_
 refine uG (vP m) rfl (ex_nil rfl rfl) ?_
 refine uF (.pointer (some ⟨m, 3, none⟩)) rfl (x3fa96_3 _ _ _) ?_
 refine uL _ rfl (run_load1 x3na94 (hv.load 3 3 rfl rfl)) (uM rfl ?_)
 refine sl_rowOne (v := vP b7) tV (wn rfl) rfl rfl hv x3el94 rfl (fun b10 w11 hv => ?_)
 replace hv := hv.front 1 rfl
 simp only [eS, eZ] at hv
 refine sl_append (news := [vP b7]) tV (wn rfl) rfl rfl rfl x3el94 hv (ok_full (by omega)) rfl (rd_all (hv.get 1 rfl)) (by intro u hu; simp only [List.mem_cons, List.not_mem_nil, or_false] at hu; rcases hu with rfl <;> rfl) (by unfold maxLen; omega) (by omega) (fun rv12 w15 hv => ?_)
 obtain ⟨ra13, rc14, rfl⟩ := row_slice hv.head
 refine uG (vP m) rfl (ex_nil rfl rfl) ?_
 refine uF (.pointer (some ⟨m, 3, none⟩)) rfl (x3fa96_3 _ _ _) ?_
 refine xV 4 (.slice ra13 (0 + 1) rc14) rfl hv x3sz94 rfl rfl (fun w16 hv => ?_)
 simp only [zS, zO, sp] at hv
 refine uW k9 (sK fun _ k17 => ?_)
 refine rL (uM rfl ?_)
 refine uA rfl (uA rfl ?_)
 refine uW k17 (rR ?_)
 refine bodyPost_ret (results_tmp2 rfl _ _ _) rfl (⟨_, _, _, _, rfl, (hv.kp [3, 1, 4, 4] 4 1)⟩)
theorem x3fa96_0 : FA Tryz.prog 96 0 0 := fun w b o => by kernel_rfl
theorem x3callable37 : Callable Tryz.prog 37 := cb Tryz.func37 (by kernel_rfl)
theorem x3callable36 : Callable Tryz.prog 36 := cb Tryz.func36 (by kernel_rfl)
theorem txnBegin (B : Base) (H : List Res) (w : World) (m s p : Nat) (sv : Value) (clk : Int) (hv : Inv B (Res.cell m [vP s, sv, vI clk, vN] 96 :: Res.cell s [vP p, vI 0, vI 0] 100 :: Res.cell p [vN, vI 0] 130 :: H) w) :
  Calls Tryz.prog 21 #[vP m] w fun e w' => ∃ t wb va vc, e = .returned (.tuple #[vP t, vI 0]) ∧ Inv B (txR t m s p wb va vc sv clk [] :: H) w' := by
 refine cW Tryz.func21 rfl Tryz.ntmps21 ?_
 simp only [al]
 refine sK fun _ k1 => rL (uA rfl ?_)
 refine uA rfl (uW k1 ?_)
 refine sK fun _ k2 => rL (uM rfl ?_)
 refine uM rfl ?_
 refine uG (vP m) rfl (ex_nil rfl rfl) ?_
 refine uF (vP m) rfl (x3fa96_0 _ _ _) ?_
 refine uL _ rfl (run_load1 x0na57 (hv.load 0 0 rfl rfl)) ?_
 replace hv := hv.front 1 rfl
 simp only [eS, eZ] at hv
 refine xC x3callable37 rfl ((storeLast0 B _ _ s p hv).mono ?_) rfl
 rintro e w3 ⟨rfl, hv⟩
 refine ⟨_, rfl, ?_⟩
 simp only [zP, po]
 replace hv := hv.front 1 rfl
 simp only [eS, eZ] at hv
 refine xC x3callable36 rfl ((txnBegin0 B _ _ m s sv clk hv).mono ?_) rfl
 rintro e w4 ⟨t, wb, va, vc, rfl, hv⟩
 refine ⟨_, rfl, uE rfl ?_⟩
 refine uE rfl (uA rfl ?_)
 refine uA rfl (uW k2 ?_)
 refine rR (bodyPost_ret (results_tmp2 rfl _ _ _) rfl ?_)
 exact ⟨t, wb, va, vc, rfl, Inv.star (K := txL _ _ _ _ _ _ _ _ _ _) (((((((hv.front 5 rfl).front 5 rfl).front 5 rfl).front 5 rfl).front 5 rfl).front 5 rfl))⟩
theorem x3sz3 : (Tryz.prog.info? 3).map (·.size) = some 1 := by kernel_rfl
theorem txnTick0 (B : Base) (H : List Res) (w : World) (m s : Nat) (sv : Value) (n : Int) (h0 : 0 ≤ n) (h1 : n ≤ 1099511627776) (hv : Inv B (Res.cell m [vP s, sv, vI 0, vN] 96 :: H) w) :
  Calls Tryz.prog 20 #[vP m, vI n] w fun e w' => ∃ r : Int, e = .returned (vI r) ∧ Inv B (Res.cell m [vP s, sv, vI n, vN] 96 :: H) w' := by
 refine cW Tryz.func20 rfl Tryz.ntmps20 ?_
 simp only [al]
 refine sK fun _ k1 => rL (uA rfl ?_)
 refine uW k1 (sK fun _ k2 => ?_)
 refine sK fun _ k3 => rL (uM rfl ?_)
 by_cases hb4 : n > 0
 ·refine uG (.bool true) rfl (ex_gtr rfl rfl rfl (qT hb4)) (uW k3 ?_)
  refine cT rfl (rW mixed [14] [0,1,2,3,4,5,6,7,8,9,10,11,12,13,14] 25 rfl (by kernel_rfl) hv ?_)
  simp only [qm, opAt]
  refine dM (vP m) rfl (dG (vP m) rfl (ex_nil rfl rfl) ?_)
  refine dG (.pointer (some ⟨m, 2, none⟩)) rfl (ex_field rfl rfl (x3fa96_2 _ _ _)) ?_
  simp only [zP, po]
  refine dL _ rfl (fun hv => ex_load rfl rfl (run_load1 x3na3 (hv.load 0 2 rfl rfl))) (dM (vI n) rfl ?_)
  refine dM (vP m) rfl ?_
  simp only [zP, po]
  refine dG (vP m) rfl (ex_nil rfl rfl) (dG (.pointer (some ⟨m, 2, none⟩)) rfl (ex_field rfl rfl (x3fa96_2 _ _ _)) ?_)
  refine dL _ rfl (fun hv => ex_load rfl rfl (run_load1 x3na3 (hv.load 0 2 rfl rfl))) ?_
  simp only [zP, po]
  refine dG (vI 1099511627776) rfl (ex_sub rfl rfl rfl (i64_in (by omega))) (dG (vI n) rfl (ex_min2 (m := n) (n := 1099511627776) rfl rfl rfl (if_neg (by omega))) ?_)
  refine dG (vI n) rfl (ex_add rfl rfl rfl (by rw [i64_in (by omega)]; omega)) ?_
  simp only [zP, po]
  refine dG (vP m) rfl (ex_nil rfl rfl) (dG (.pointer (some ⟨m, 2, none⟩)) rfl (ex_field rfl rfl (x3fa96_2 _ _ _)) ?_)
  refine dS rfl fun w5 hv => mV 0 (vI n) rfl hv x3sz3 rfl rfl (fun w6 hv => ?_)
  simp only [zO, sp] at hv
  refine dW hv (dE fun w7 hv => ?_)
  simp only [zP, po]
  refine tK k2 (sK fun _ k8 => ?_)
  refine rL (uM rfl ?_)
  refine uG (vP m) rfl (ex_nil rfl rfl) ?_
  refine uF (.pointer (some ⟨m, 2, none⟩)) rfl (x3fa96_2 _ _ _) ?_
  refine uL _ rfl (run_load1 x3na3 (hv.load 0 2 rfl rfl)) (uA rfl ?_)
  refine uW k8 (rR ?_)
  refine bR rfl rfl (⟨_, rfl, hv⟩)
 refine uG (.bool false) rfl (ex_gtr rfl rfl rfl (qF hb4)) (uW k3 ?_)
 refine cF rfl (kS ?_)
 refine tK k2 (sK fun _ k9 => ?_)
 refine rL (uM rfl ?_)
 refine uG (vP m) rfl (ex_nil rfl rfl) ?_
 refine uF (.pointer (some ⟨m, 2, none⟩)) rfl (x3fa96_2 _ _ _) ?_
 refine uL _ rfl (run_load1 x3na3 (hv.load 0 2 rfl rfl)) (uA rfl ?_)
 refine uW k9 (rR ?_)
 refine bR rfl rfl ?_
 obtain rfl : n = 0 := by omega
 exact ⟨_, rfl, hv⟩
def delM (M : List (List UInt8 × Ver)) (ks : List (List UInt8)) : List (List UInt8 × Ver) := ks.foldl (fun M k => updA M k gver) M
theorem delM_next {M : List (List UInt8 × Ver)} {ks : List (List UInt8)} {i : Nat} {x : List UInt8} (hx : ks[i]? = some x) : delM M (ks.take (i + 1)) = updA (delM M (ks.take i)) x gver := by
 unfold delM
 rw [take_next hx, List.foldl_append]; rfl
theorem txnDel (B : Base) (H : List Res) (w : World) (t m s p wb : Nat) (va : Option Addr) (vc : Nat) (sv : Value) (clk : Int) (es : List (List UInt8 × Value)) (M : List (List UInt8 × Ver)) (ka : Option Addr) (kc : Nat) (ks : List (List UInt8)) (hr : RdV B [] ka (textCells ks)) (hm : ks.length ≤ 1000000) (hM : VM B es M) (hv : Inv B (txR t m s p wb va vc sv clk es :: H) w) :
  Calls Tryz.prog 195 #[vP t, .slice ka ks.length kc] w fun e w' => ∃ es' ec, e = .returned (vI ec) ∧ ((ec = 0 ∧ ks.any (fun s : List UInt8 => decide (s.length > 256)) = false ∧ VM B es' (delM M ks)) ∨ (ec = 2 ∧ ks.any (fun s : List UInt8 => decide (s.length > 256)) = true ∧ es' = es)) ∧ Inv B (txR t m s p wb va vc sv clk es' :: H) w' := by
 refine cW Tryz.func195 rfl Tryz.ntmps195 ?_
 simp only [al]
 refine sK fun _ k1 => ?_
 replace hv := Inv.unstar hv
 simp only [txL, List.cons_append, List.nil_append] at hv
 refine rL (uA rfl ?_)
 refine uW k1 (sK fun _ k2 => ?_)
 refine sK fun _ k3 => rL (uM rfl ?_)
 refine uM rfl ?_
 replace hv := hv.front 2 rfl
 simp only [eS, eZ] at hv
 replace hv := hv.front 2 rfl
 simp only [eS, eZ] at hv
 replace hv := hv.front 2 rfl
 simp only [eS, eZ] at hv
 refine xC x2callable199 rfl ((txnMay B _ _ t m s wb va vc sv clk ka kc ks hr hm hv).mono ?_) rfl
 rintro e w4 ⟨ec, rfl, hmay, hv⟩
 refine ⟨_, rfl, ?_⟩
 rcases hmay with ⟨rfl, hk⟩ | ⟨rfl, hk⟩
 ·refine uA rfl (uW k3 ?_)
  refine sK fun _ k5 => rL (uM rfl ?_)
  refine uG (.bool false) rfl (ex_neq rfl rfl rfl (by decide)) (uW k5 ?_)
  refine cF rfl (kS ?_)
  refine tK k2 (sK fun _ k6 => ?_)
  refine sK fun _ k7 => rL (uM rfl ?_)
  refine uG (vI (ks.length : Int)) rfl (ex_len0 Tryz.underlying22 rfl rfl) (uM rfl ?_)
  refine uW k7 (bB ?_)
  gi_loopw [16] (fun x16 wr => ∃ (i : Nat) (es1 : List (List UInt8 × Value)), x16 = vI i ∧ i ≤ ks.length ∧ VM B es1 (delM M (ks.take i)) ∧ Inv B (Res.cell t [vP m, vI 0, vI clk, .bool false, .map (some wb)] 133 :: Res.cell m [vP s, sv, vI clk, .slice va 1 vc] 96 :: Res.row 62 1 (.slice va 1 vc) 1 [vP t] :: Res.vmap wb es1 :: Res.cell s [vP p, vI 0, vI 0] 100 :: Res.cell p [vN, vI 0] 130 :: H) wr) (fun x16 _ => ks.length - (intOf x16).toNat)
  case atStart => exact ⟨0, es, rfl, Nat.zero_le _, hM, ((((((hv.front 5 rfl).front 5 rfl).front 5 rfl).front 5 rfl).front 5 rfl).front 5 rfl)⟩
  case round =>
   obtain ⟨i, es1, rfl, hi, hM1, hv⟩ := hrel
   refine sK fun _ k9 => rL ?_
   by_cases hb10 : (i : Int) < (ks.length : Int)
   ·refine uG (.bool true) rfl (ex_lss rfl rfl rfl (qT hb10)) (uW k9 ?_)
    refine sK fun _ k11 => cT rfl (kS ?_)
    refine tK k11 (sK fun _ k12 => ?_)
    refine bB (sK fun _ k13 => ?_)
    obtain ⟨x, hx⟩ : ∃ x, ks[i]? = some x := ⟨_, List.getElem?_eq_getElem (show i < ks.length by omega)⟩
    obtain ⟨bb, bo, had, hrdx⟩ := text_reads hr hx
    subst had
    refine rL (uG (.pointer (some ⟨bb, bo + i, none⟩)) rfl (ex_index rfl rfl rfl (run_idx1 (k := i) Tryz.underlying22 s9es22 (by omega))) ?_)
    refine uL _ rfl (run_load1 s9na9 (hrdx _ _ _ (Base.Le.refl _) no_res hv 0 _ rfl)) (uA rfl ?_)
    refine uW k13 (rL ?_)
    refine uM rfl ?_
    refine uG (vP t) rfl (ex_nil rfl rfl) ?_
    refine uF (.pointer (some ⟨t, 4, none⟩)) rfl (x2fa133_4 _ _ _) ?_
    refine uL _ rfl (run_load1 x2na131 (hv.load 0 4 rfl rfl)) (uM rfl ?_)
    refine uG (.agg #[vI 0, .bool true, vI 0, vI 0, vS [], vN, vN, vN]) rfl (ex_buildN (vs := #[(1, .bool true)]) rfl (by simp only [List.map_toArray, List.map_cons, List.map_nil]; rfl) (by kernel_rfl)) ?_
    replace hv := hv.front 3 rfl
    simp only [eS, eZ] at hv
    refine sl_updV (k := x) (v := .agg #[vI 0, .bool true, vI 0, vI 0, vS [], vN, vN, vN]) tV (wn rfl) rfl rfl rfl rfl Tryz.underlying131 Tryz.underlying9 hv (fun w14 hv => ?_)
    refine uZ (bN ?_)
    refine tK k12 (rL ?_)
    refine uG (vI ((i + 1 : Nat) : Int)) rfl (ex_add rfl rfl rfl (by rw [i64_in (by omega)]; omega)) (uM rfl ?_)
    refine uZ (then_normal ?_)
    go_roundw
    case rel => exact ⟨i + 1, _, rfl, by omega, by rw [delM_next hx]; exact VM.upd (x := gver) (gver_at _) hM1, ((((((hv.front 5 rfl).front 5 rfl).front 2 rfl).front 5 rfl).front 5 rfl).front 5 rfl)⟩
    case measure => show ks.length - (((i + 1 : Nat) : Int)).toNat < ks.length - ((i : Int)).toNat; omega
   refine uG (.bool false) rfl (ex_lss rfl rfl rfl (qF hb10)) (uW k9 ?_)
   refine sK fun _ k15 => cF rfl (xE ?_)
   refine tX (tX ?_)
   refine bH (tK k6 ?_)
   refine sK fun _ k16 => rL (uA rfl ?_)
   refine uW k16 (rR ?_)
   refine bR rfl rfl ?_
   obtain rfl : i = ks.length := by omega
   rw [List.take_length] at hM1
   exact ⟨_, 0, rfl, .inl ⟨rfl, hk, hM1⟩, Inv.star (K := txL _ _ _ _ _ _ _ _ _ _) (((((((hv.front 5 rfl).front 5 rfl).front 5 rfl).front 5 rfl).front 5 rfl).front 5 rfl))⟩
 refine uA rfl (uW k3 ?_)
 refine sK fun _ k17 => rL (uM rfl ?_)
 refine uG (.bool true) rfl (ex_neq rfl rfl rfl (by decide)) (uW k17 ?_)
 refine cT rfl (sK fun _ k18 => ?_)
 refine rL (uM rfl ?_)
 refine uA rfl (uW k18 ?_)
 refine rR (tR ?_)
 refine bR rfl rfl (⟨_, 2, rfl, .inr ⟨rfl, hk, rfl⟩, Inv.star (K := txL _ _ _ _ _ _ _ _ _ _) (((((((hv.front 5 rfl).front 5 rfl).front 5 rfl).front 5 rfl).front 5 rfl).front 5 rfl))⟩)
def FullV (x : Val) : Prop := x.kind = 1 ∨ 0 < x.pairs.length + x.texts.length + x.zset.length
def DeadM (M : List (List UInt8 × Ver)) (clk : Int) (k : List UInt8) : Prop := ∀ y, lookA M k = some y → aliveB y clk = false
def OfI (M : List (List UInt8 × Ver)) (clk : Int) (key : List UInt8) (kind : Int) (y : Ver) (ec : Int) : Prop :=
 (ec = 0 ∧ y = zver0 ∧ DeadM M clk key) ∨ (ec = 40 ∧ y = zver0 ∧ ∃ x, lookA M key = some x ∧ aliveB x clk = true ∧ x.val.kind ≠ kind) ∨ (ec = 0 ∧ lookA M key = some y ∧ aliveB y clk = true ∧ y.val.kind = kind)
def KeepI (M : List (List UInt8 × Ver)) (clk : Int) (key : List UInt8) (x : Val) (exp : Int) (ec : Int) (M' : List (List UInt8 × Ver)) : Prop :=
 (FullV x ∧ PutOk key x exp ∧ ec = 0 ∧ M' = updA M key ⟨0, false, exp, x⟩) ∨ (FullV x ∧ ¬ PutOk key x exp ∧ ec = 2 ∧ M' = M) ∨ (¬ FullV x ∧ DeadM M clk key ∧ ec = 0 ∧ M' = M) ∨
 (¬ FullV x ∧ (∃ y, lookA M key = some y ∧ aliveB y clk = true) ∧ ((key.length ≤ 256 ∧ ec = 0 ∧ M' = updA M key gver) ∨ (256 < key.length ∧ ec = 2 ∧ M' = M)))
def sizeV (x : Val) : Nat := if x.kind = 1 then x.text.length else x.pairs.length + x.texts.length + x.zset.length
theorem valAt_sl {B : Base} {v : Val} {p t z : Value} (h : ValAt B v p t z) : ∃ a b c i j k, p = .slice a v.pairs.length i ∧ t = .slice b v.texts.length j ∧ z = .slice c v.zset.length k := by
 obtain ⟨⟨a, i, h1, -⟩, ⟨b, j, h2, -⟩, ⟨c, k, h3, -⟩, -⟩ := h
 exact ⟨a, b, c, i, j, k, h1, h2, h3⟩
theorem valueSize0 (B : Base) (H : List Res) (w : World) (x : Val) (a b c : Option Addr) (i j k : Nat) (hp : x.pairs.length ≤ 1000000) (ht : x.texts.length ≤ 1000000) (hz : x.zset.length ≤ 1000000) (hv : Inv B H w) :
  Calls Tryz.prog 54 #[.agg #[vI x.kind, vS x.text, .slice a x.pairs.length i, .slice b x.texts.length j, .slice c x.zset.length k]] w fun e w' => e = .returned (vI (sizeV x : Int)) ∧ Inv B H w' := by
 refine cW Tryz.func54 rfl Tryz.ntmps54 ?_
 simp only [al]
 refine sK fun _ k1 => rL (sl_box (L := [vI x.kind, vS x.text, .slice a x.pairs.length i, .slice b x.texts.length j, .slice c x.zset.length k]) tV (wn rfl) rfl rfl hv (fun w => by kernel_rfl) (fun b2 w3 hv => ?_))
 refine uA rfl (uW k1 ?_)
 refine sK fun _ k4 => sK fun _ k5 => rL (uF (vP b2) rfl (s12fa78_0 _ _ _) ?_)
 refine uL _ rfl (run_load1 s2na3 (hv.load 0 0 rfl rfl)) ?_
 by_cases hb6 : x.kind = 1
 ·refine uG (.bool true) rfl (ex_eql rfl rfl rfl (qT hb6)) (uW k5 ?_)
  refine cT rfl (sK fun _ k7 => ?_)
  refine rL (uF (.pointer (some ⟨b2, 1, none⟩)) rfl (s12fa78_1 _ _ _) ?_)
  refine uL _ rfl (run_load1 s9na9 (hv.load 0 1 rfl rfl)) ?_
  refine uG (vI (x.text.length : Int)) rfl (ex_lenStr Tryz.underlying9 rfl rfl) (uA rfl ?_)
  refine uW k7 (rR ?_)
  refine tR (bR rfl rfl ?_)
  exact ⟨congrArg (fun n : Int => Ending.returned (vI n)) (by unfold sizeV; split <;> omega), (hv.kp [] 0 1)⟩
 refine uG (.bool false) rfl (ex_eql rfl rfl rfl (qF hb6)) (uW k5 ?_)
 refine cF rfl (kS ?_)
 refine tK k4 (sK fun _ k8 => ?_)
 refine rL (uF (.pointer (some ⟨b2, 2, none⟩)) rfl (s1fa78_2 _ _ _) ?_)
 refine uL _ rfl (run_load1 s1na75 (hv.load 0 2 rfl rfl)) ?_
 refine uG (vI (x.pairs.length : Int)) rfl (ex_len0 Tryz.underlying75 rfl rfl) ?_
 refine uF (.pointer (some ⟨b2, 3, none⟩)) rfl (s1fa78_3 _ _ _) ?_
 refine uL _ rfl (run_load1 s1na22 (hv.load 0 3 rfl rfl)) ?_
 refine uG (vI (x.texts.length : Int)) rfl (ex_len0 Tryz.underlying22 rfl rfl) ?_
 refine uG (vI ((x.pairs.length : Int) + (x.texts.length : Int))) rfl (ex_add rfl rfl rfl (i64_in (by omega))) ?_
 refine uF (.pointer (some ⟨b2, 4, none⟩)) rfl (s1fa78_4 _ _ _) ?_
 refine uL _ rfl (run_load1 s1na76 (hv.load 0 4 rfl rfl)) ?_
 refine uG (vI (x.zset.length : Int)) rfl (ex_len0 Tryz.underlying76 rfl rfl) ?_
 refine uG (vI (((x.pairs.length : Int) + (x.texts.length : Int)) + (x.zset.length : Int))) rfl (ex_add rfl rfl rfl (i64_in (by omega))) (uA rfl ?_)
 refine uW k8 (rR ?_)
 refine bR rfl rfl (⟨congrArg (fun n : Int => Ending.returned (vI n)) (by unfold sizeV; split <;> omega), (hv.kp [] 0 1)⟩)
theorem valueSize (B : Base) (H : List Res) (w : World) (x : Val) (p t z : Value) (h : ValAt B x p t z) (hv : Inv B H w) : Calls Tryz.prog 54 #[.agg (valCells x p t z).toArray] w fun e w' => e = .returned (vI (sizeV x : Int)) ∧ Inv B H w' := by
 obtain ⟨a, b, c, i, j, k, rfl, rfl, rfl⟩ := valAt_sl h
 exact valueSize0 B H w x a b c i j k h.pm h.tm h.zm hv
theorem refSize0 (B : Base) (H : List Res) (w : World) (x : Val) (a b c : Option Addr) (i j k : Nat) (hp : x.pairs.length ≤ 1000000) (ht : x.texts.length ≤ 1000000) (hz : x.zset.length ≤ 1000000) (hv : Inv B H w) :
  Calls Tryz.prog 56 #[.agg #[vI x.kind, vS x.text, .slice a x.pairs.length i, .slice b x.texts.length j, .slice c x.zset.length k]] w fun e w' => e = .returned (vI (sizeV x : Int)) ∧ Inv B H w' := by
 refine cW Tryz.func56 rfl Tryz.ntmps56 ?_
 simp only [al]
 refine sK fun _ k1 => rL (sl_box (L := [vI x.kind, vS x.text, .slice a x.pairs.length i, .slice b x.texts.length j, .slice c x.zset.length k]) tV (wn rfl) rfl rfl hv (fun w => by kernel_rfl) (fun b2 w3 hv => ?_))
 refine uA rfl (uW k1 ?_)
 refine sK fun _ k4 => sK fun _ k5 => rL (uF (vP b2) rfl (s12fa78_0 _ _ _) ?_)
 refine uL _ rfl (run_load1 s2na3 (hv.load 0 0 rfl rfl)) ?_
 by_cases hb6 : x.kind = 1
 ·refine uG (.bool true) rfl (ex_eql rfl rfl rfl (qT hb6)) (uW k5 ?_)
  refine cT rfl (sK fun _ k7 => ?_)
  refine rL (uF (.pointer (some ⟨b2, 1, none⟩)) rfl (s12fa78_1 _ _ _) ?_)
  refine uL _ rfl (run_load1 s9na9 (hv.load 0 1 rfl rfl)) ?_
  refine uG (vI (x.text.length : Int)) rfl (ex_lenStr Tryz.underlying9 rfl rfl) (uA rfl ?_)
  refine uW k7 (rR ?_)
  refine tR (bR rfl rfl ?_)
  exact ⟨congrArg (fun n : Int => Ending.returned (vI n)) (by unfold sizeV; split <;> omega), (hv.kp [] 0 1)⟩
 refine uG (.bool false) rfl (ex_eql rfl rfl rfl (qF hb6)) (uW k5 ?_)
 refine cF rfl (kS ?_)
 refine tK k4 (sK fun _ k8 => ?_)
 refine rL (uF (.pointer (some ⟨b2, 2, none⟩)) rfl (s1fa78_2 _ _ _) ?_)
 refine uL _ rfl (run_load1 s1na75 (hv.load 0 2 rfl rfl)) ?_
 refine uG (vI (x.pairs.length : Int)) rfl (ex_len0 Tryz.underlying75 rfl rfl) ?_
 refine uF (.pointer (some ⟨b2, 3, none⟩)) rfl (s1fa78_3 _ _ _) ?_
 refine uL _ rfl (run_load1 s1na22 (hv.load 0 3 rfl rfl)) ?_
 refine uG (vI (x.texts.length : Int)) rfl (ex_len0 Tryz.underlying22 rfl rfl) ?_
 refine uG (vI ((x.pairs.length : Int) + (x.texts.length : Int))) rfl (ex_add rfl rfl rfl (i64_in (by omega))) ?_
 refine uF (.pointer (some ⟨b2, 4, none⟩)) rfl (s1fa78_4 _ _ _) ?_
 refine uL _ rfl (run_load1 s1na76 (hv.load 0 4 rfl rfl)) ?_
 refine uG (vI (x.zset.length : Int)) rfl (ex_len0 Tryz.underlying76 rfl rfl) ?_
 refine uG (vI (((x.pairs.length : Int) + (x.texts.length : Int)) + (x.zset.length : Int))) rfl (ex_add rfl rfl rfl (i64_in (by omega))) (uA rfl ?_)
 refine uW k8 (rR ?_)
 refine bR rfl rfl (⟨congrArg (fun n : Int => Ending.returned (vI n)) (by unfold sizeV; split <;> omega), (hv.kp [] 0 1)⟩)
theorem refSize (B : Base) (H : List Res) (w : World) (x : Val) (p t z : Value) (h : ValAt B x p t z) (hv : Inv B H w) : Calls Tryz.prog 56 #[.agg (valCells x p t z).toArray] w fun e w' => e = .returned (vI (sizeV x : Int)) ∧ Inv B H w' := by
 obtain ⟨a, b, c, i, j, k, rfl, rfl, rfl⟩ := valAt_sl h
 exact refSize0 B H w x a b c i j k h.pm h.tm h.zm hv
theorem v1al85 : AL Tryz.prog 85 [vI 0, .bool false, vI 0, vI 0, vS [], vN, vN, vN] := fun w => by kernel_rfl
theorem v1al54 : AL Tryz.prog 54 [vI 0] := fun w => by kernel_rfl
theorem v1fa39_0 : FA Tryz.prog 39 0 0 := fun w b o => by kernel_rfl
theorem v1na37 (w : World) : (isAgg 37).run Tryz.prog w = .ok false w := by kernel_rfl
theorem v1callable196 : Callable Tryz.prog 196 := cb Tryz.func196 (by kernel_rfl)
theorem v1sz54 : (Tryz.prog.info? 54).map (·.size) = some 1 := by kernel_rfl
theorem v1na54 (w : World) : (isAgg 54).run Tryz.prog w = .ok false w := by kernel_rfl
theorem v1callable85 : Callable Tryz.prog 85 := cb Tryz.func85 (by kernel_rfl)
theorem v1rec85 (n : Nat) (x0 x1 : Value) (w : World) : CallsDIn Fence.wide n Tryz.prog 85 #[x0, x1] .returning w fun e u' w' => e = .returned (.tuple #[]) ∧ u' = .returning ∧ w' = w := by
 refine callsDIn_of_wpSIn Tryz.func85 rfl trivial fun c₀ cs hu => ?_
 apply wpSIn_seq
 apply wpSIn_region
 simp [wpOpsSIn, go_sem, recoverD, hu, Tryz.ntmps85, Exit.thenS]
 refine wpSIn_cond (t := false) (by simp [Act.eval, Array.replicate]) ?_
 simp only [Bool.false_eq_true, if_false]
 refine wpSIn_of_wpIn rfl (wpIn_skip ?_)
 cases c₀
 simp_all [bodyPostS, results, Tryz.results85]
theorem viewOf (B : Base) (H : List Res) (w : World) (v t m s p wb : Nat) (va : Option Addr) (vc : Nat) (sv : Value) (clk : Int) (es : List (List UInt8 × Value)) (M : List (List UInt8 × Ver)) (key : List UInt8) (kind : Int) (hM : VM B es M) (hv : Inv B (Res.cell v [.iface 62 (vP t)] 39 :: txR t m s p wb va vc sv clk es :: H) w) :
  Calls Tryz.prog 63 #[vP v, vS key, vI kind] w fun e w' => ∃ C y p' t' z' ec, B.Le C ∧ e = .returned (.tuple #[.agg (verCells y p' t' z').toArray, vI ec]) ∧ ValAt C y.val p' t' z' ∧ OfI M clk key kind y ec ∧ Inv C (Res.cell v [.iface 62 (vP t)] 39 :: txR t m s p wb va vc sv clk es :: H) w' := by
 refine (callsIn_wide (n := 5)).1 (callsIn_of_wp_defers Tryz.func63 rfl trivial ?_)
 simp only [Tryz.ntmps63, List.size_toArray, List.length_cons, List.length_nil, Nat.reduceAdd, Nat.reduceSub, Array.replicate_succ, Array.replicate_zero, List.push_toArray, List.append_toArray, List.nil_append, List.cons_append]
 refine sK fun _ k1 => rL (sl_alloc tV (wn rfl) rfl hv v1al85 (fun b2 w3 hv => ?_))
 refine sl_alloc tV (wn rfl) rfl hv v1al54 (fun b4 w5 hv => ?_)
 refine uW k1 (sK fun _ k6 => ?_)
 refine rL (uG (.func (.func 85) #[] #[vP b2, vP b4]) rfl (ex_makeFunc (c' := #[vP b2, vP b4]) rfl (by simp only [List.map_toArray, List.map_nil]) (by simp only [List.map_toArray, List.map_cons, List.map_nil]; rfl)) ?_)
 refine wpi_defer tV rfl (wn rfl) rfl rfl (uW k6 ?_)
 refine sK fun _ k7 => rL (uM rfl ?_)
 refine uG (vP v) rfl (ex_nil rfl rfl) ?_
 refine uF (vP v) rfl (v1fa39_0 _ _ _) ?_
 refine uL _ rfl (run_load1 v1na37 (hv.load 2 0 rfl rfl)) (uM rfl ?_)
 replace hv := hv.front 3 rfl
 simp only [eS, eZ] at hv
 refine wpi_callI v1callable196 tV wideC rfl (wn rfl) rfl rfl (r := vP t) (fun w => by kernel_rfl) (args := #[vS key]) (by simp only [List.map_toArray, List.map_cons, List.map_nil]; rfl) ((txnGet B _ _ t m s p wb va vc sv clk es M key hM hv).mono ?_)
 rintro e w8 ⟨C, x, xp, xt, xz, ok, hBC, rfl, hget, hxv, hv⟩
 refine ⟨_, rfl, ?_⟩
 rcases hget with ⟨rfl, hlk, hal⟩ | ⟨rfl, hx0, hdead⟩
 ·refine uM rfl (uE rfl ?_)
  refine uE rfl ?_
  refine sl_alloc tV (wn rfl) rfl hv v1al85 (fun b9 w10 hv => ?_)
  refine xS 0 rfl hv x0sz85 rfl (by exact ⟨rfl, rfl, rfl, rfl, rfl, hxv.p.one, hxv.t.one, hxv.z.one, trivial⟩) (fun w11 hv => ?_)
  simp only [zO, sp] at hv
  refine uA rfl (uW k7 ?_)
  refine sK fun _ k12 => sK fun _ k13 => rL (uM rfl ?_)
  refine uG (.bool false) rfl (ex_not rfl rfl rfl) (uW k13 ?_)
  refine cF rfl (kS ?_)
  refine tK k12 (sK fun _ k14 => ?_)
  refine sK fun _ k15 => rL (uF (.pointer (some ⟨b9, 3, none⟩)) rfl (x2fa85_3 _ _ _) ?_)
  refine uF (.pointer (some ⟨b9, 3, none⟩)) rfl (s12fa78_0 _ _ _) ?_
  refine uL _ rfl (run_load1 s2na3 (hv.load 0 3 rfl rfl)) (uM rfl ?_)
  by_cases hb16 : x.val.kind ≠ kind
  ·refine uG (.bool true) rfl (ex_neq rfl rfl rfl (qT hb16)) (uW k15 ?_)
   refine cT rfl (sK fun _ k17 => ?_)
   refine rL (uG (.agg #[vI 0, .bool false, vI 0, vI 0, vS [], vN, vN, vN]) rfl (ex_buildN (vs := #[]) rfl (by simp only [List.map_toArray, List.map_nil]) (by kernel_rfl)) ?_)
   refine xS 3 rfl hv x0sz85 rfl (by exact ⟨rfl, rfl, rfl, rfl, rfl, rfl, rfl, rfl, trivial⟩) (fun w18 hv => ?_)
   simp only [zS, zO, sp] at hv
   refine xV 2 (vI 40) rfl hv v1sz54 rfl rfl (fun w19 hv => ?_)
   simp only [zS, zO, sp] at hv
   refine uW k17 (rR ?_)
   refine tR (leave_rec v1callable85 (v1rec85 _ _ _ _) (res_cells2 rfl rfl (lM 3 x0wd85 hv rfl rfl rfl rfl) rfl (run_load1 v1na54 (hv.load 2 0 rfl rfl))) ?_)
   exact ⟨_, zver0, _, _, _, 40, hBC, rfl, zver0_at _, .inr (.inl ⟨rfl, rfl, x, hlk, hal, hb16⟩), (hv.kp [1, 4] 2 3)⟩
  refine uG (.bool false) rfl (ex_neq rfl rfl rfl (qF hb16)) (uW k15 ?_)
  refine cF rfl (kS ?_)
  refine tK k14 (sK fun _ k20 => ?_)
  refine rL (uF (.pointer (some ⟨b9, 3, none⟩)) rfl (x2fa85_3 _ _ _) ?_)
  refine uL (.agg #[vI x.val.kind, vS x.val.text, xp, xt, xz]) rfl (lM 0 s1wd78 hv rfl rfl rfl rfl) ?_
  refine xC x2callable55 rfl ((valueClone _ _ _ x.val xp xt xz (hxv.more (Base.Le.refl _)) hv).mono ?_) rfl
  rintro e w25 ⟨C21, p22, t23, z24, hC21, rfl, hp22, hv⟩
  refine ⟨_, rfl, uF (.pointer (some ⟨b9, 3, none⟩)) rfl (x2fa85_3 _ _ _) ?_⟩
  refine xS 0 rfl hv s1sz78 rfl (by exact ⟨rfl, rfl, hp22.p.one, hp22.t.one, hp22.z.one, trivial⟩) (fun w26 hv => ?_)
  simp only [zO, sp] at hv
  refine uW k20 (sK fun _ k27 => ?_)
  refine rL (uL (.agg #[vI x.stamp, .bool x.gone, vI x.expire, vI x.val.kind, vS x.val.text, p22, t23, z24]) rfl (lM 0 x0wd85 hv rfl rfl rfl rfl) ?_)
  refine xS 3 rfl hv x0sz85 rfl (by exact ⟨rfl, rfl, rfl, rfl, rfl, hp22.p.one, hp22.t.one, hp22.z.one, trivial⟩) (fun w28 hv => ?_)
  simp only [zS, zO, sp] at hv
  refine xV 2 (vI 0) rfl hv v1sz54 rfl rfl (fun w29 hv => ?_)
  simp only [zS, zO, sp] at hv
  refine uW k27 (rR ?_)
  refine leave_rec v1callable85 (v1rec85 _ _ _ _) (res_cells2 rfl rfl (lM 3 x0wd85 hv rfl rfl rfl rfl) rfl (run_load1 v1na54 (hv.load 2 0 rfl rfl))) (⟨_, x, _, _, _, 0, (hBC.trans hC21), rfl, hp22, .inr (.inr ⟨rfl, hlk, hal, by omega⟩), (hv.kp [1, 4] 2 3)⟩)
 refine uM rfl (uE rfl ?_)
 refine uE rfl ?_
 refine sl_alloc tV (wn rfl) rfl hv v1al85 (fun b30 w31 hv => ?_)
 refine xS 0 rfl hv x0sz85 rfl (by exact ⟨rfl, rfl, rfl, rfl, rfl, hxv.p.one, hxv.t.one, hxv.z.one, trivial⟩) (fun w32 hv => ?_)
 simp only [zO, sp] at hv
 refine uA rfl (uW k7 ?_)
 refine sK fun _ k33 => sK fun _ k34 => rL (uM rfl ?_)
 refine uG (.bool true) rfl (ex_not rfl rfl rfl) (uW k34 ?_)
 refine cT rfl (sK fun _ k35 => ?_)
 refine rL (uG (.agg #[vI 0, .bool false, vI 0, vI 0, vS [], vN, vN, vN]) rfl (ex_buildN (vs := #[]) rfl (by simp only [List.map_toArray, List.map_nil]) (by kernel_rfl)) ?_)
 refine xS 3 rfl hv x0sz85 rfl (by exact ⟨rfl, rfl, rfl, rfl, rfl, rfl, rfl, rfl, trivial⟩) (fun w36 hv => ?_)
 simp only [zS, zO, sp] at hv
 refine xV 2 (vI 0) rfl hv v1sz54 rfl rfl (fun w37 hv => ?_)
 simp only [zS, zO, sp] at hv
 refine uW k35 (rR ?_)
 refine tR (leave_rec v1callable85 (v1rec85 _ _ _ _) (res_cells2 rfl rfl (lM 3 x0wd85 hv rfl rfl rfl rfl) rfl (run_load1 v1na54 (hv.load 2 0 rfl rfl))) ?_)
 exact ⟨_, zver0, _, _, _, 0, hBC, rfl, zver0_at _, .inl ⟨rfl, rfl, hdead⟩, (hv.kp [1, 4] 2 3)⟩
theorem v1callable198 : Callable Tryz.prog 198 := cb Tryz.func198 (by kernel_rfl)
theorem v1callable53 : Callable Tryz.prog 53 := cb Tryz.func53 (by kernel_rfl)
theorem v1rec53 (n : Nat) (x0 : Value) (w : World) : CallsDIn Fence.wide n Tryz.prog 53 #[x0] .returning w fun e u' w' => e = .returned (.tuple #[]) ∧ u' = .returning ∧ w' = w := by
 refine callsDIn_of_wpSIn Tryz.func53 rfl trivial fun c₀ cs hu => ?_
 apply wpSIn_seq
 apply wpSIn_region
 simp [wpOpsSIn, go_sem, recoverD, hu, Tryz.ntmps53, Exit.thenS]
 refine wpSIn_cond (t := false) (by simp [Act.eval, Array.replicate]) ?_
 simp only [Bool.false_eq_true, if_false]
 refine wpSIn_of_wpIn rfl (wpIn_skip ?_)
 cases c₀
 simp_all [bodyPostS, results, Tryz.results53]
theorem v1callable54 : Callable Tryz.prog 54 := cb Tryz.func54 (by kernel_rfl)
theorem v1mk9 : (Tryz.prog.info? 9).map (fun i => (i.zero, i.size, i.bytes)) = some (some (vS []), 1, 16) := by kernel_rfl
theorem v1el22 : Elem Tryz.prog 22 9 (vS []) 1 16 := elem_of Tryz.underlying22 v1mk9 (by rfl) (by decide)
theorem v1callable195 : Callable Tryz.prog 195 := cb Tryz.func195 (by kernel_rfl)
theorem viewKeep (B : Base) (H : List Res) (w : World) (v t m s p wb : Nat) (va : Option Addr) (vc : Nat) (sv : Value) (clk : Int) (es : List (List UInt8 × Value)) (M : List (List UInt8 × Ver)) (key : List UInt8) (x : Val) (xp xt xz : Value) (exp : Int) (hM : VM B es M) (hval : ValAt B x xp xt xz) (hv : Inv B (Res.cell v [.iface 62 (vP t)] 39 :: txR t m s p wb va vc sv clk es :: H) w) :
  Calls Tryz.prog 29 #[vP v, vS key, .agg #[vI x.kind, vS x.text, xp, xt, xz], vI exp] w fun e w' => ∃ C es' M' ec, B.Le C ∧ e = .returned (vI ec) ∧ VM C es' M' ∧ KeepI M clk key x exp ec M' ∧ Inv C (Res.cell v [.iface 62 (vP t)] 39 :: txR t m s p wb va vc sv clk es' :: H) w' := by
 refine (callsIn_wide (n := 5)).1 (callsIn_of_wp_defers Tryz.func29 rfl trivial ?_)
 simp only [Tryz.ntmps29, List.size_toArray, List.length_cons, List.length_nil, Nat.reduceAdd, Nat.reduceSub, Array.replicate_succ, Array.replicate_zero, List.push_toArray, List.append_toArray, List.nil_append, List.cons_append]
 refine sK fun _ k1 => rL (sl_box (L := [vI x.kind, vS x.text, xp, xt, xz]) tV (wn rfl) rfl rfl hv (fun w => by kernel_rfl) (fun b2 w3 hv => ?_))
 refine sl_alloc tV (wn rfl) rfl hv v1al54 (fun b4 w5 hv => ?_)
 refine uW k1 (sK fun _ k6 => ?_)
 refine rL (uG (.func (.func 53) #[] #[vP b4]) rfl (ex_makeFunc (c' := #[vP b4]) rfl (by simp only [List.map_toArray, List.map_nil]) (by simp only [List.map_toArray, List.map_cons, List.map_nil]; rfl)) ?_)
 refine wpi_defer tV rfl (wn rfl) rfl rfl (uW k6 ?_)
 refine sK fun _ k7 => sK fun _ k8 => rL (uF (vP b2) rfl (s12fa78_0 _ _ _) ?_)
 refine uL _ rfl (run_load1 s2na3 (hv.load 1 0 rfl rfl)) ?_
 by_cases hb9 : x.kind = 1
 ·refine uG (.bool true) rfl (ex_eql rfl rfl rfl (qT hb9)) (uM rfl ?_)
  iterate 3 refine uP rfl ?_
  refine uK rfl (uW k8 ?_)
  refine cT rfl (sK fun _ k10 => ?_)
  refine rW mixed [6, 10, 11] [0,1,2,3,4,5,7,8,9,6,10,11] 48 rfl (by kernel_rfl) hv ?_
  simp only [qm, opAt]
  refine dM (vP v) rfl (dG (vP v) rfl (ex_nil rfl rfl) ?_)
  refine dG (vP v) rfl (ex_field rfl rfl (v1fa39_0 _ _ _)) ?_
  simp only [zP, po]
  refine dF _ rfl (fun hv => ex_load rfl rfl (run_load1 v1na37 (hv.load 2 0 rfl rfl))) fun f11 hf11 => dM (vS key) rfl (dL (.agg #[vI x.kind, vS x.text, xp, xt, xz]) rfl (fun hv => ex_load rfl rfl (lM 1 s1wd78 hv rfl rfl rfl rfl)) ?_)
  simp only [zP, po]
  refine dM (vI exp) rfl (dG (.iface 62 (vP t)) rfl (ex_nilI rfl rfl) ?_)
  refine dM (.iface 62 (vP t)) rfl ?_
  simp only [zP, po]
  refine dS rfl fun w12 hv => mC x2callable55 rfl ((valueClone _ _ _ x xp xt xz (hval.more (Base.Le.refl _)) hv).mono ?_) rfl
  rintro e w17 ⟨C13, p14, t15, z16, hC13, rfl, hp14, hv⟩
  refine ⟨_, rfl, dV hv (fC (fun ww hv => hf11 ww (ex_load rfl rfl (run_load1 v1na37 (hv.load 2 0 rfl rfl)))) fN) ?_⟩
  refine dS rfl fun w18 hv => ?_
  replace hv := hv.front 3 rfl
  simp only [eS, eZ] at hv
  refine stepMem_callI v1callable198 rfl rfl rfl (r := vP t) (fun w => by kernel_rfl) (args := #[vS key, .agg #[vI x.kind, vS x.text, p14, t15, z16], vI exp]) (by simp only [List.map_toArray, List.map_cons, List.map_nil]; rfl) ((txnPut C13 _ _ t m s p wb va vc sv clk es M key x p14 t15 z16 exp (hM.more hC13) hp14 hv).mono ?_)
  rintro e w19 ⟨D, es2, ec, hD, rfl, hput, hv⟩
  refine ⟨_, rfl, dV hv (fK rfl fN) ?_⟩
  refine dS rfl fun w20 hv => mV 1 (vI ec) rfl hv v1sz54 rfl rfl (fun w21 hv => ?_)
  simp only [zS, zO, sp] at hv
  refine dV hv (fK rfl fN) (dE fun w22 hv => ?_)
  simp only [zP, po]
  refine tK k10 (rR ?_)
  refine tR (leave_rec v1callable53 (v1rec53 _ _ _) (res_cell1 rfl rfl (run_load1 v1na54 (hv.load 1 0 rfl rfl))) ?_)
  have hfull : FullV x := .inl hb9
  rcases hput with ⟨rfl, hok, hM2⟩ | ⟨rfl, hok, he9⟩
  ·exact ⟨_, _, _, 0, (hC13.trans hD), rfl, hM2, .inl ⟨hfull, hok, rfl, rfl⟩, (hv.kp [3] 2 2)⟩
  rw [he9] at hv
  exact ⟨_, _, M, 2, (hC13.trans hD), rfl, hM.more (hC13.trans hD), .inr (.inl ⟨hfull, hok, rfl, rfl⟩), (hv.kp [3] 2 2)⟩
 refine uG (.bool false) rfl (ex_eql rfl rfl rfl (qF hb9)) (uM rfl ?_)
 refine uL (.agg #[vI x.kind, vS x.text, xp, xt, xz]) rfl (lM 1 s1wd78 hv rfl rfl rfl rfl) ?_
 refine xC v1callable54 rfl ((valueSize B _ _ x xp xt xz hval hv).mono ?_) rfl
 rintro e w23 ⟨rfl, hv⟩
 refine ⟨_, rfl, ?_⟩
 simp only [zP, po]
 by_cases hb24 : (sizeV x : Int) > 0
 ·refine uG (.bool true) rfl (ex_gtr rfl rfl rfl (qT hb24)) (uK rfl ?_)
  refine uW k8 (cT rfl ?_)
  refine sK fun _ k25 => rW mixed [6, 10, 11] [0,1,2,3,4,5,7,8,9,6,10,11] 48 rfl (by kernel_rfl) hv ?_
  simp only [qm, opAt]
  refine dM (vP v) rfl (dG (vP v) rfl (ex_nil rfl rfl) ?_)
  refine dG (vP v) rfl (ex_field rfl rfl (v1fa39_0 _ _ _)) ?_
  simp only [zP, po]
  refine dF _ rfl (fun hv => ex_load rfl rfl (run_load1 v1na37 (hv.load 2 0 rfl rfl))) fun f26 hf26 => dM (vS key) rfl (dL (.agg #[vI x.kind, vS x.text, xp, xt, xz]) rfl (fun hv => ex_load rfl rfl (lM 1 s1wd78 hv rfl rfl rfl rfl)) ?_)
  simp only [zP, po]
  refine dM (vI exp) rfl (dG (.iface 62 (vP t)) rfl (ex_nilI rfl rfl) ?_)
  refine dM (.iface 62 (vP t)) rfl ?_
  simp only [zP, po]
  refine dS rfl fun w27 hv => mC x2callable55 rfl ((valueClone _ _ _ x xp xt xz (hval.more (Base.Le.refl _)) hv).mono ?_) rfl
  rintro e w32 ⟨C28, p29, t30, z31, hC28, rfl, hp29, hv⟩
  refine ⟨_, rfl, dV hv (fC (fun ww hv => hf26 ww (ex_load rfl rfl (run_load1 v1na37 (hv.load 2 0 rfl rfl)))) fN) ?_⟩
  refine dS rfl fun w33 hv => ?_
  replace hv := hv.front 3 rfl
  simp only [eS, eZ] at hv
  refine stepMem_callI v1callable198 rfl rfl rfl (r := vP t) (fun w => by kernel_rfl) (args := #[vS key, .agg #[vI x.kind, vS x.text, p29, t30, z31], vI exp]) (by simp only [List.map_toArray, List.map_cons, List.map_nil]; rfl) ((txnPut C28 _ _ t m s p wb va vc sv clk es M key x p29 t30 z31 exp (hM.more hC28) hp29 hv).mono ?_)
  rintro e w34 ⟨D, es2, ec, hD, rfl, hput, hv⟩
  refine ⟨_, rfl, dV hv (fK rfl fN) ?_⟩
  refine dS rfl fun w35 hv => mV 1 (vI ec) rfl hv v1sz54 rfl rfl (fun w36 hv => ?_)
  simp only [zS, zO, sp] at hv
  refine dV hv (fK rfl fN) (dE fun w37 hv => ?_)
  simp only [zP, po]
  refine tK k25 (rR ?_)
  refine tR (leave_rec v1callable53 (v1rec53 _ _ _) (res_cell1 rfl rfl (run_load1 v1na54 (hv.load 1 0 rfl rfl))) ?_)
  have hfull : FullV x := .inr (by have h9 := hb24; unfold sizeV at h9; rw [if_neg hb9] at h9; omega)
  rcases hput with ⟨rfl, hok, hM2⟩ | ⟨rfl, hok, he9⟩
  ·exact ⟨_, _, _, 0, (hC28.trans hD), rfl, hM2, .inl ⟨hfull, hok, rfl, rfl⟩, (hv.kp [3] 2 2)⟩
  rw [he9] at hv
  exact ⟨_, _, M, 2, (hC28.trans hD), rfl, hM.more (hC28.trans hD), .inr (.inl ⟨hfull, hok, rfl, rfl⟩), (hv.kp [3] 2 2)⟩
 refine uG (.bool false) rfl (ex_gtr rfl rfl rfl (qF hb24)) (uK rfl ?_)
 refine uW k8 (cF rfl ?_)
 refine kS (tK k7 ?_)
 refine sK fun _ k38 => sK fun _ k39 => rL (uM rfl ?_)
 refine uG (vP v) rfl (ex_nil rfl rfl) ?_
 refine uF (vP v) rfl (v1fa39_0 _ _ _) ?_
 refine uL _ rfl (run_load1 v1na37 (hv.load 2 0 rfl rfl)) (uM rfl ?_)
 replace hv := hv.front 3 rfl
 simp only [eS, eZ] at hv
 refine wpi_callI v1callable196 tV wideC rfl (wn rfl) rfl rfl (r := vP t) (fun w => by kernel_rfl) (args := #[vS key]) (by simp only [List.map_toArray, List.map_cons, List.map_nil]; rfl) ((txnGet B _ _ t m s p wb va vc sv clk es M key hM hv).mono ?_)
 rintro e w40 ⟨C, x2, yp, yt, yz, ok, hBC, rfl, hget, hyv, hv⟩
 refine ⟨_, rfl, ?_⟩
 rcases hget with ⟨rfl, hlk, hal⟩ | ⟨rfl, hx0, hdead⟩
 ·refine uM rfl (uE rfl ?_)
  refine uE rfl ?_
  refine sl_alloc tV (wn rfl) rfl hv v1al85 (fun b41 w42 hv => ?_)
  refine xS 0 rfl hv x0sz85 rfl (by exact ⟨rfl, rfl, rfl, rfl, rfl, hyv.p.one, hyv.t.one, hyv.z.one, trivial⟩) (fun w43 hv => ?_)
  simp only [zO, sp] at hv
  refine uA rfl (uW k39 ?_)
  refine sK fun _ k44 => rL (uM rfl ?_)
  refine uW k44 (cT rfl ?_)
  refine sK fun _ k45 => rL (uM rfl ?_)
  refine uG (vP v) rfl (ex_nil rfl rfl) ?_
  refine uF (vP v) rfl (v1fa39_0 _ _ _) ?_
  refine uL _ rfl (run_load1 v1na37 (hv.load 4 0 rfl rfl)) (uM rfl ?_)
  refine sl_rowOne (v := vS key) tV (wn rfl) rfl rfl hv v1el22 rfl (fun b46 w47 hv => ?_)
  simp only [zP, po]
  obtain ⟨D, hD, hv, hrk, -, -⟩ := (hv.cellRow (n := 1) (c := 1) (size := 1) rfl (by decide) (by decide)).rowBy
  replace hv := hv.front 1 rfl
  simp only [eS, eZ] at hv
  refine wpi_callI v1callable195 tV wideC rfl (wn rfl) rfl rfl (r := vP t) (fun w => by kernel_rfl) (args := #[.slice (some ⟨b46, 0, none⟩) 1 1]) (by simp only [List.map_toArray, List.map_cons, List.map_nil]; rfl) ((txnDel D _ _ t m s p wb va vc sv clk es M _ 1 [key] hrk (by simp) (hM.more (hBC.trans hD)) hv).mono ?_)
  rintro e w48 ⟨es2, ec, rfl, hdel, hv⟩
  refine ⟨_, rfl, ?_⟩
  refine xV 2 (vI ec) rfl hv v1sz54 rfl rfl (fun w49 hv => ?_)
  simp only [zS, zO, sp] at hv
  refine uW k45 (rR ?_)
  refine tR (leave_rec v1callable53 (v1rec53 _ _ _) (res_cell1 rfl rfl (run_load1 v1na54 (hv.load 2 0 rfl rfl))) ?_)
  have hnf : ¬ FullV x := fun h => h.elim hb9 (fun h => by have h9 := hb24; unfold sizeV at h9; rw [if_neg hb9] at h9; omega)
  rcases hdel with ⟨rfl, hk, hM2⟩ | ⟨rfl, hk, he9⟩
  ·exact ⟨_, _, updA M key gver, 0, (hBC.trans hD), rfl, hM2, .inr (.inr (.inr ⟨hnf, ⟨x2, hlk, hal⟩, .inl ⟨by simpa using hk, rfl, rfl⟩⟩)), (hv.kp [4] 2 3)⟩
  rw [he9] at hv
  exact ⟨_, _, M, 2, (hBC.trans hD), rfl, hM.more (hBC.trans hD), .inr (.inr (.inr ⟨hnf, ⟨x2, hlk, hal⟩, .inr ⟨by simpa using hk, rfl, rfl⟩⟩)), (hv.kp [4] 2 3)⟩
 refine uM rfl (uE rfl ?_)
 refine uE rfl ?_
 refine sl_alloc tV (wn rfl) rfl hv v1al85 (fun b50 w51 hv => ?_)
 refine xS 0 rfl hv x0sz85 rfl (by exact ⟨rfl, rfl, rfl, rfl, rfl, hyv.p.one, hyv.t.one, hyv.z.one, trivial⟩) (fun w52 hv => ?_)
 simp only [zO, sp] at hv
 refine uA rfl (uW k39 ?_)
 refine sK fun _ k53 => rL (uM rfl ?_)
 refine uW k53 (cF rfl ?_)
 refine kS (tK k38 ?_)
 refine sK fun _ k54 => rL (xV 2 (vI 0) rfl hv v1sz54 rfl rfl (fun w55 hv => ?_))
 simp only [zS, zO, sp] at hv
 refine uW k54 (rR ?_)
 refine leave_rec v1callable53 (v1rec53 _ _ _) (res_cell1 rfl rfl (run_load1 v1na54 (hv.load 2 0 rfl rfl))) ?_
 have hnf : ¬ FullV x := fun h => h.elim hb9 (fun h => by have h9 := hb24; unfold sizeV at h9; rw [if_neg hb9] at h9; omega)
 exact ⟨_, _, M, 0, hBC, rfl, hM.more hBC, .inr (.inr (.inl ⟨hnf, hdead, rfl, rfl⟩)), (hv.kp [1, 4] 2 3)⟩
end Go.Proofs.YtoljdfjnannakaaGreatDoor
namespace Go.Proofs
open Go.Shelf
def Tryz.laysKeys_ren : Go.Shelf.Ren := ⟨fun | 7 => 201 | 10 => 206 | n => n, fun | 23 => 131 | 26 => 9 | 3 => 85 | 28 => 291 | 0 => 0 | 27 => 290 | 33 => 158 | 4 => 4 | n => n, fun | n => n⟩
theorem Tryz.laysKeys : Go.Proofs.SlLaysZ.n7 Tryz.prog Tryz.laysKeys_ren := {
 mixed := by kernel_rfl
 f7 := ⟨Tryz.f201.name, by decide, Tryz.func201.trans (congrArg some (by kernel_rfl))⟩
 f10 := ⟨Tryz.f206.name, by decide, Tryz.func206.trans (congrArg some (by kernel_rfl))⟩
 t0 := Tryz.underlying0
 a0 := Tryz.isAgg0
 z0 := Tryz.sizeOf0
 v0 := Tryz.zeroValue0
 t4 := Tryz.underlying4
 a4 := Tryz.isAgg4
 z4 := Tryz.sizeOf4
 v4 := Tryz.zeroValue4
 t23 := Tryz.underlying131
 a23 := Tryz.isAgg131
 z23 := Tryz.sizeOf131
 v23 := Tryz.zeroValue131
 t26 := Tryz.underlying9
 a26 := Tryz.isAgg9
 z26 := Tryz.sizeOf9
 v26 := Tryz.zeroValue9
 t27 := Tryz.underlying290
 a27 := Tryz.isAgg290
 z27 := Tryz.sizeOf290
 v27 := Tryz.zeroValue290
 t28 := Tryz.underlying291
 a28 := Tryz.isAgg291
 z28 := Tryz.sizeOf291
 v28 := Tryz.zeroValue291
 t33 := Tryz.underlying158
 a33 := Tryz.isAgg158
 z33 := Tryz.sizeOf158
 v33 := Tryz.zeroValue158 }
def Tryz.laysKeys1_ren : Go.Shelf.Ren := ⟨fun | 10 => 206 | n => n, fun | 33 => 158 | 23 => 131 | 0 => 0 | 4 => 4 | 26 => 9 | 3 => 85 | n => n, fun | n => n⟩
theorem Tryz.laysKeys1 : Go.Proofs.SlLaysZ.n10 Tryz.prog Tryz.laysKeys1_ren := {
 mixed := by kernel_rfl
 f10 := ⟨Tryz.f206.name, by decide, Tryz.func206.trans (congrArg some (by kernel_rfl))⟩
 t0 := Tryz.underlying0
 a0 := Tryz.isAgg0
 z0 := Tryz.sizeOf0
 v0 := Tryz.zeroValue0
 t4 := Tryz.underlying4
 a4 := Tryz.isAgg4
 z4 := Tryz.sizeOf4
 v4 := Tryz.zeroValue4
 t23 := Tryz.underlying131
 a23 := Tryz.isAgg131
 z23 := Tryz.sizeOf131
 v23 := Tryz.zeroValue131
 t26 := Tryz.underlying9
 a26 := Tryz.isAgg9
 z26 := Tryz.sizeOf9
 v26 := Tryz.zeroValue9
 t33 := Tryz.underlying158
 a33 := Tryz.isAgg158
 z33 := Tryz.sizeOf158
 v33 := Tryz.zeroValue158 }
def Tryz.laysApp_ren : Go.Shelf.Ren := ⟨fun | 11 => 200 | n => n, fun | 24 => 22 | 26 => 9 | 28 => 291 | 0 => 0 | 33 => 158 | 4 => 4 | n => n, fun | n => n⟩
theorem Tryz.laysApp : Go.Proofs.SlLaysZ.n11 Tryz.prog Tryz.laysApp_ren := {
 mixed := by kernel_rfl
 f11 := ⟨Tryz.f200.name, by decide, Tryz.func200.trans (congrArg some (by kernel_rfl))⟩
 t0 := Tryz.underlying0
 a0 := Tryz.isAgg0
 z0 := Tryz.sizeOf0
 v0 := Tryz.zeroValue0
 t24 := Tryz.underlying22
 a24 := Tryz.isAgg22
 z24 := Tryz.sizeOf22
 v24 := Tryz.zeroValue22
 t26 := Tryz.underlying9
 a26 := Tryz.isAgg9
 z26 := Tryz.sizeOf9
 v26 := Tryz.zeroValue9
 t28 := Tryz.underlying291
 a28 := Tryz.isAgg291
 z28 := Tryz.sizeOf291
 v28 := Tryz.zeroValue291
 i26 := by kernel_rfl }
def Tryz.laysSort_ren : Go.Shelf.Ren := ⟨fun | 190 => 101 | 125 => 112 | 258 => 111 | 128 => 131 | 129 => 132 | 302 => 123 | 303 => 124 | 304 => 125 | 305 => 126 | 306 => 127 | 307 => 128 | 308 => 103 | 309 => 129 | 310 => 130 | 333 => 146 | 329 => 147 | 330 => 148 | 334 => 149 | 335 => 150 | 336 => 113 | 344 => 158 | n => n, fun | 31 => 22 | 9 => 9 | 3 => 3 | 46 => 186 | 0 => 0 | 51 => 224 | 53 => 195 | 4 => 4 | 183 => 218 | 182 => 217 | 131 => 166 | 5 => 5 | 218 => 239 | 222 => 243 | 228 => 249 | 229 => 250 | n => n, fun | n => n⟩
theorem Tryz.laysSort : Go.Proofs.Lays.n190 Tryz.prog Tryz.laysSort_ren := {
 mixed := by kernel_rfl
 f125 := Tryz.func112.trans (congrArg some (by kernel_rfl))
 f128 := Tryz.func131.trans (congrArg some (by kernel_rfl))
 f129 := Tryz.func132.trans (congrArg some (by kernel_rfl))
 f190 := Tryz.func101.trans (congrArg some (by kernel_rfl))
 f258 := Tryz.func111.trans (congrArg some (by kernel_rfl))
 f302 := Tryz.func123.trans (congrArg some (by kernel_rfl))
 f303 := Tryz.func124.trans (congrArg some (by kernel_rfl))
 f304 := Tryz.func125.trans (congrArg some (by kernel_rfl))
 f305 := Tryz.func126.trans (congrArg some (by kernel_rfl))
 f306 := Tryz.func127.trans (congrArg some (by kernel_rfl))
 f307 := Tryz.func128.trans (congrArg some (by kernel_rfl))
 f308 := Tryz.func103.trans (congrArg some (by kernel_rfl))
 f309 := Tryz.func129.trans (congrArg some (by kernel_rfl))
 f310 := Tryz.func130.trans (congrArg some (by kernel_rfl))
 f329 := Tryz.func147.trans (congrArg some (by kernel_rfl))
 f330 := Tryz.func148.trans (congrArg some (by kernel_rfl))
 f333 := Tryz.func146.trans (congrArg some (by kernel_rfl))
 f334 := Tryz.func149.trans (congrArg some (by kernel_rfl))
 f335 := Tryz.func150.trans (congrArg some (by kernel_rfl))
 f336 := Tryz.func113.trans (congrArg some (by kernel_rfl))
 f344 := Tryz.func158.trans (congrArg some (by kernel_rfl))
 t0 := Tryz.underlying0
 a0 := Tryz.isAgg0
 z0 := Tryz.sizeOf0
 v0 := Tryz.zeroValue0
 t3 := Tryz.underlying3
 a3 := Tryz.isAgg3
 z3 := Tryz.sizeOf3
 v3 := Tryz.zeroValue3
 t4 := Tryz.underlying4
 a4 := Tryz.isAgg4
 z4 := Tryz.sizeOf4
 v4 := Tryz.zeroValue4
 t5 := Tryz.underlying5
 a5 := Tryz.isAgg5
 z5 := Tryz.sizeOf5
 v5 := Tryz.zeroValue5
 t9 := Tryz.underlying9
 a9 := Tryz.isAgg9
 z9 := Tryz.sizeOf9
 v9 := Tryz.zeroValue9
 t31 := Tryz.underlying22
 a31 := Tryz.isAgg22
 z31 := Tryz.sizeOf22
 v31 := Tryz.zeroValue22
 t46 := Tryz.underlying186
 a46 := Tryz.isAgg186
 z46 := Tryz.sizeOf186
 v46 := Tryz.zeroValue186
 t51 := Tryz.underlying224
 a51 := Tryz.isAgg224
 z51 := Tryz.sizeOf224
 v51 := Tryz.zeroValue224
 t53 := Tryz.underlying195
 a53 := Tryz.isAgg195
 z53 := Tryz.sizeOf195
 v53 := Tryz.zeroValue195
 t131 := Tryz.underlying166
 a131 := Tryz.isAgg166
 z131 := Tryz.sizeOf166
 v131 := Tryz.zeroValue166
 t182 := Tryz.underlying217
 a182 := Tryz.isAgg217
 z182 := Tryz.sizeOf217
 v182 := Tryz.zeroValue217
 t183 := Tryz.underlying218
 a183 := Tryz.isAgg218
 z183 := Tryz.sizeOf218
 v183 := Tryz.zeroValue218
 t218 := Tryz.underlying239
 a218 := Tryz.isAgg239
 z218 := Tryz.sizeOf239
 v218 := Tryz.zeroValue239
 t222 := Tryz.underlying243
 a222 := Tryz.isAgg243
 z222 := Tryz.sizeOf243
 v222 := Tryz.zeroValue243
 t228 := Tryz.underlying249
 a228 := Tryz.isAgg249
 z228 := Tryz.sizeOf249
 v228 := Tryz.zeroValue249
 t229 := Tryz.underlying250
 a229 := Tryz.isAgg250
 z229 := Tryz.sizeOf250
 v229 := Tryz.zeroValue250 }
def Tryz.laysCompact_ren : Go.Shelf.Ren := ⟨fun | 194 => 102 | n => n, fun | 31 => 22 | 9 => 9 | 3 => 3 | 4 => 4 | 0 => 0 | n => n, fun | n => n⟩
theorem Tryz.laysCompact : Go.Proofs.Lays.n194 Tryz.prog Tryz.laysCompact_ren := {
 mixed := by kernel_rfl
 f194 := Tryz.func102.trans (congrArg some (by kernel_rfl))
 t0 := Tryz.underlying0
 a0 := Tryz.isAgg0
 z0 := Tryz.sizeOf0
 v0 := Tryz.zeroValue0
 t3 := Tryz.underlying3
 a3 := Tryz.isAgg3
 z3 := Tryz.sizeOf3
 v3 := Tryz.zeroValue3
 t4 := Tryz.underlying4
 a4 := Tryz.isAgg4
 z4 := Tryz.sizeOf4
 v4 := Tryz.zeroValue4
 t9 := Tryz.underlying9
 a9 := Tryz.isAgg9
 z9 := Tryz.sizeOf9
 v9 := Tryz.zeroValue9
 t31 := Tryz.underlying22
 a31 := Tryz.isAgg22
 z31 := Tryz.sizeOf22
 v31 := Tryz.zeroValue22 }
end Go.Proofs
namespace Go.Proofs.YtoljdfjnannakaaGreatDoor
open Go.RowKit Go.Pm Go.Sort Go.Shelf
abbrev keyT : TypeId := 9
theorem mapKeys (B : Base) (H : List Res) (w : World) (mb : Option Nat) (hv : Pm.Inv B H w) : Calls Tryz.prog 201 #[.map mb] w fun e w' => ∃ b, e = .returned (.func (.func 206) #[] #[.pointer (some ⟨b, 0, none⟩)]) ∧ Pm.Inv B (Res.cell b [.map mb] 131 :: H) w' := by
 have h := AnyZ.keys_in Tryz.laysKeys Fence.wide 5 trivial rfl mb w
 refine (callsIn_wide (n := 5)).1 (h.mono ?_)
 rintro e w' ⟨rfl, rfl⟩
 exact ⟨_, rfl, hv.alloc _ _⟩
abbrev RN (_ : Value) : Option (DataW Unit × List MemPlace) := some (.nil, [])
theorem rd_key (k : List UInt8) (hk : k.length ≤ maxLen) (v : Value) (n : Nat) : WideElems.rd Tryz.prog keyT RN { key := strV k, val := v, born := n } = some (.string k, .nil) := by
 have h : keyOf Tryz.prog keyT (strV k) = some (.string k) := by
  have h1 := WideMaps.keyOf_string_mk (P := Tryz.prog) (k := keyT) Tryz.underlying9 (s := ⟨k.toArray⟩) (by show k.toArray.size ≤ maxLen; simpa using hk)
  simpa using h1
 simp [WideElems.rd, h, RN]
theorem vmap_owns {w : World} {b : Nat} {es : List (List UInt8 × Value)} (h : (Res.vmap b es).holds w) (hk : ∀ x ∈ es, x.1.length ≤ maxLen) (hm : es.length ≤ maxLen) :
  ∃ D : DataW Unit, w.ownsMap Tryz.prog keyT RN b es.length D ∧ (strKeys D).Perm (es.map (·.1)) := by
 obtain ⟨E, clock, h1, h2, h3⟩ := h
 have hl : E.size = es.length := by have := congrArg List.length h3; simpa using this
 have hrd : ∀ x ∈ E.toList, ∃ k, (∃ v, (k, v) ∈ es) ∧ x.key = strV k ∧ WideElems.rd Tryz.prog keyT RN x = some (.string k, .nil) := by
  intro x hx
  obtain ⟨j, hj⟩ := List.mem_iff_getElem?.1 hx
  have h9 := congrArg (fun l => l[j]?) h3
  simp only [List.getElem?_map, hj, Option.map_some] at h9
  cases hx2 : es[j]? with
  | none => rw [hx2] at h9; simp at h9
  | some y =>
   rw [hx2] at h9
   simp only [Option.map_some, kv, Option.some.injEq, Prod.mk.injEq] at h9
   have hy := List.mem_of_getElem? hx2
   obtain ⟨xk, xv, xb⟩ := x
   simp only at h9
   obtain ⟨rfl, rfl⟩ := h9
   exact ⟨y.1, ⟨y.2, hy⟩, rfl, rd_key y.1 (hk y hy) _ _⟩
 refine ⟨_, ⟨E, clock, h1, ⟨by omega, h2, fun x hx => by obtain ⟨k, -, -, h⟩ := hrd x hx; exact ⟨_, h⟩⟩, by omega, rfl⟩, ?_⟩
 have hp : (strKeys (DataW.map ((E.toList.map (WideElems.rg Tryz.prog keyT RN)).foldr DataW.insert []))).Perm ((E.toList.map (WideElems.rg Tryz.prog keyT RN)).map fun p => strOf p.1) := (WideShapes.sorted_perm _).map _
 refine hp.trans (List.Perm.of_eq ?_)
 rw [List.map_map]
 have h4 : E.toList.map (fun e => e.key) = es.map (fun x => strV x.1) := by
  have := congrArg (List.map Prod.fst) h3
  simpa [List.map_map, Function.comp_def, kv] using this
 have h5 : ∀ x ∈ E.toList, strV (((fun p : Lit × DataW Unit => strOf p.1) ∘ WideElems.rg Tryz.prog keyT RN) x) = x.key := by
  intro x hx
  obtain ⟨k, -, hk1, h⟩ := hrd x hx
  simp [Function.comp, WideElems.rg, h, hk1, strOf]
 have h6 : (E.toList.map ((fun p : Lit × DataW Unit => strOf p.1) ∘ WideElems.rg Tryz.prog keyT RN)).map strV = (es.map (·.1)).map strV := by
  rw [List.map_map, List.map_map]
  have : E.toList.map (strV ∘ ((fun p : Lit × DataW Unit => strOf p.1) ∘ WideElems.rg Tryz.prog keyT RN)) = E.toList.map (fun e => e.key) := List.map_congr_left fun x hx => h5 x hx
  rw [this, h4]; rfl
 exact (List.map_inj_right (fun a b e => strV_inj e)).1 h6
theorem row_new {B : Base} {H : List Res} {w w' : World} {e : TypeId} {size n : Nat} {v : Value} {xs : List Value} (hv : Pm.Inv B H w) (h : w'.ownsRow w.heap.size e size v n xs) (hb : Below w.heap.size w w') : Pm.Inv B (Res.row e size v n xs :: H) w' := by
 have h0 : w'.ownsRow 0 e size v n xs := ⟨h.1, h.2.imp id fun ⟨g, cap, cur, h1, _, h3⟩ => ⟨g, cap, cur, h1, Nat.zero_le _, h3⟩⟩
 refine hv.new hb (Res.row e size v n xs) h0 (fun b hb9 => ?_) ?_
 ·rcases h.2 with ⟨rfl, -⟩ | ⟨g, cap, cur, rfl, h2, h3, -⟩
  ·simp [Value.ownBlock] at hb9
  simp [Value.ownBlock] at hb9
  subst hb9
  exact ⟨h2, (Array.getElem?_eq_some_iff.1 h3).1⟩
 show v.ownBlock.toList.Nodup
 cases v.ownBlock with
 | none => exact List.Pairwise.nil
 | some b => simp
theorem appendKeys (B : Base) (H : List Res) (w : World) (b wb : Nat) (es : List (List UInt8 × Value)) (hk : ∀ x ∈ es, x.1.length ≤ maxLen) (hm : es.length ≤ 1000000) (hv : Pm.Inv B (Res.cell b [.map (some wb)] 131 :: Res.vmap wb es :: H) w) :
  Calls Tryz.prog 200 #[.slice none 0 0, .func (.func 206) #[] #[.pointer (some ⟨b, 0, none⟩)]] w fun e w' => ∃ v ss, e = .returned v ∧ ss.Perm (es.map (·.1)) ∧ Pm.Inv B (Res.row keyT 1 v ss.length (textCells ss) :: Res.cell b [.map (some wb)] 131 :: Res.vmap wb es :: H) w' := by
 obtain ⟨D, hown, hperm⟩ := vmap_owns (hv.get 1 rfl) hk (by unfold maxLen; omega)
 have hsz := hown.size_le
 have hg := AnyZ.keys_gives Tryz.laysKeys1 Fence.wide 4 trivial rfl (by omega) b wb es.length D w (hv.lt _ (List.mem_cons_self) b (by simp)) (hv.load 0 0 rfl rfl) hown
 have he : ∀ args w, (callFunc 206 args).run Tryz.prog w = .ok (.enter 206 args) w := Tryz.laysKeys1.f10.enters rfl
 have h := AnyZ.appendSeq_in Tryz.laysApp Fence.wide 5 trivial rfl (by omega) 206 #[.pointer (some ⟨b, 0, none⟩)] trivial he _ (Maps.size D) (by unfold maxLen; omega) (by omega) w hg
 refine (callsIn_wide (n := 5)).1 (h.mono ?_)
 rintro e w' ⟨v, ss, rfl, hS, hrow, -, hb⟩
 exact ⟨v, ss, rfl, hS.trans hperm, row_new hv hrow hb⟩
theorem sortTexts (B : Base) (H : List Res) (w : World) (v : Value) (l : List (List UInt8)) (hm : l.length ≤ 1000000) (hv : Pm.Inv B (Res.row keyT 1 v l.length (textCells l) :: H) w) :
  Calls Tryz.prog 101 #[v] w fun e w' => e = .returned (.tuple #[]) ∧ Pm.Inv B (Res.row keyT 1 v l.length (textCells (l.mergeSort leB)) :: H) w' := by
 rcases (hv.head : w.ownsRow 0 keyT 1 v l.length (textCells l)).2 with ⟨rfl, hz⟩ | ⟨g, cap, cur, rfl, h0, hgb, r1, r2, r3, r4⟩
 ·have hl : l = [] := List.eq_nil_of_length_eq_zero hz
  subst hl
  refine (Any.slices_Sort_string_none Tryz.laysSort none 0 w).mono ?_
  rintro e w' ⟨rfl, rfl⟩
  exact ⟨rfl, by simpa using hv⟩
 have hH : Holds encStr w g 0 l.toArray := holds_of_block hgb (by rw [Nat.mul_one] at r4; exact r4)
 refine (Any.slices_Sort_string Tryz.laysSort g 0 cap l w hH (Array.getElem?_eq_some_iff.1 hgb).1 (by omega)).mono ?_
 rintro e w' ⟨rfl, n, os, rfl⟩
 have hgr := grownBy_sorted (w := w) (g := g) (n := n) (os := os) (l.mergeSort leB).toArray
 have hr := ownsRow_sorted (n := n) (os := os) (ss := l) (ts := l.mergeSort leB) (by simp) h0 hgb r1 r2 r3
 refine ⟨rfl, hv.upd _ ⟨hgr.os, hgr.tape, hgr.output, hgr.size, fun k hk hn => hgr.block k hk (fun e => hn (by cases e; simp [Value.ownBlock]))⟩ hr (fun b hb => .inl hb) (fun b hb => Nat.lt_of_lt_of_le (hv.headLt b hb) hgr.size) (by simp [Value.ownBlock])⟩
end Go.Proofs.YtoljdfjnannakaaGreatDoor
namespace Go.Pm
open Go.RowKit
section
variable {B : Base} {X X' : List (List Ent)} {M : Model} {key : List UInt8} {i j : Nat}
end
section
variable {ti tb te : TypeId} {p : Nat} {n : Int} {X : List (List Ent)} {bvs : List Value} {B : Base} {H : List Res} {w : World}
end
theorem sorted_ext : ∀ {l1 l2 : List (List UInt8)}, l1.Pairwise (fun a b => Op.bytesLess a b = true) → l2.Pairwise (fun a b => Op.bytesLess a b = true) → (∀ k, k ∈ l1 ↔ k ∈ l2) → l1 = l2
 | [], [], _, _, _ => rfl
 | [], b :: l2, _, _, h => by have := (h b).2 List.mem_cons_self; cases this
 | a :: l1, [], _, _, h => by have := (h a).1 List.mem_cons_self; cases this
 | a :: l1, b :: l2, h1, h2, h => by
  obtain ⟨h1a, h1b⟩ := List.pairwise_cons.1 h1
  obtain ⟨h2a, h2b⟩ := List.pairwise_cons.1 h2
  have e : a = b := by
   rcases List.mem_cons.1 ((h a).1 List.mem_cons_self) with h3 | h3
   ·exact h3
   rcases List.mem_cons.1 ((h b).2 List.mem_cons_self) with h4 | h4
   ·exact h4.symm
   have h5 := h2a a h3
   rw [lt_asymm (h1a b h4)] at h5
   cases h5
  subst e
  rw [sorted_ext h1b h2b (fun k => ?_)]
  constructor
  ·intro hk
   rcases List.mem_cons.1 ((h k).1 (List.mem_cons_of_mem _ hk)) with h3 | h3
   ·exact absurd h3.symm (lt_ne (h1a k hk))
   exact h3
  intro hk
  rcases List.mem_cons.1 ((h k).2 (List.mem_cons_of_mem _ hk)) with h3 | h3
  ·exact absurd h3.symm (lt_ne (h2a k hk))
  exact h3
def SortedT (l : List (List UInt8)) : Prop := l.Pairwise (fun a b => Op.bytesLess a b = true)
open Go.Sort
theorem leB_lt (a b : List UInt8) : leB a b = !Op.bytesLess b a := by
 rw [Go.Proofs.bytesLess_eq, leB, ← decide_not]
 exact decide_eq_decide.2 List.not_lt.symm
theorem lt_of_le_ne {a b : List UInt8} (h : leB a b = true) (hn : a ≠ b) : Op.bytesLess a b = true := by
 rw [leB_lt] at h
 cases h1 : Op.bytesLess a b with
 | true => rfl
 | false => exact absurd (lt_total _ _ h1 (by simpa using h)) hn
theorem le_lt {a b c : List UInt8} (h : leB a b = true) (h2 : Op.bytesLess b c = true) : Op.bytesLess a c = true := by
 by_cases e : a = b
 ·subst e; exact h2
 exact lt_trans _ _ _ (lt_of_le_ne h e) h2
theorem mem_take_iff {α : Type} {l : List α} {m : Nat} {x : α} : x ∈ l.take m ↔ ∃ j, j < m ∧ l[j]? = some x := by
 rw [List.mem_iff_getElem?]
 constructor
 ·rintro ⟨j, hj⟩
  rw [List.getElem?_take] at hj
  split at hj
  ·rename_i h; exact ⟨j, h, hj⟩
  cases hj
 rintro ⟨j, h, hj⟩
 exact ⟨j, by rw [List.getElem?_take, if_pos h]; exact hj⟩
theorem mem_drop_iff {α : Type} {l : List α} {m : Nat} {x : α} : x ∈ l.drop m ↔ ∃ j, m ≤ j ∧ l[j]? = some x := by
 rw [List.mem_iff_getElem?]
 constructor
 ·rintro ⟨j, hj⟩
  rw [List.getElem?_drop] at hj
  exact ⟨m + j, by omega, hj⟩
 rintro ⟨j, h, hj⟩
 exact ⟨j - m, by rw [List.getElem?_drop, show m + (j - m) = j by omega]; exact hj⟩
theorem pair_at {α : Type} {R : α → α → Prop} {l : List α} (h : l.Pairwise R) {i j : Nat} {x y : α} (hij : i < j) (hx : l[i]? = some x) (hy : l[j]? = some y) : R x y := by
 obtain ⟨h1, rfl⟩ := List.getElem?_eq_some_iff.1 hx
 obtain ⟨h2, rfl⟩ := List.getElem?_eq_some_iff.1 hy
 exact List.pairwise_iff_getElem.1 h i j h1 h2 hij
theorem compact_sorted {l : List (List UInt8)} (h : l.Pairwise (fun a b => leB a b = true)) : ∀ m, m ≤ l.length → SortedT (Lib.compactUpTo l.toArray m) ∧ ∀ x, x ∈ Lib.compactUpTo l.toArray m ↔ x ∈ l.take m
 | 0, _ => ⟨List.Pairwise.nil, fun x => by simp [Lib.compactUpTo]⟩
 | m + 1, hm => by
  obtain ⟨h1, h2⟩ := compact_sorted h m (by omega)
  obtain ⟨x, hx⟩ : ∃ x, l[m]? = some x := ⟨_, List.getElem?_eq_getElem (by omega)⟩
  have hd : l.toArray[m]! = x := by
   have := (List.getElem?_eq_some_iff.1 hx)
   obtain ⟨h3, h4⟩ := this
   rw [getElem!_pos l.toArray m (by simpa using h3)]; simpa using h4
  rw [Lib.compactUpTo_succ, take_next hx]
  by_cases hk : Lib.keeps l.toArray m = true
  ·rw [if_pos hk, hd]
   refine ⟨List.pairwise_append.2 ⟨h1, by simp, fun y hy z hz => ?_⟩, fun z => by rw [List.mem_append, List.mem_append, h2]⟩
   rw [List.mem_singleton.1 hz]
   obtain ⟨j, hj, hjy⟩ := mem_take_iff.1 ((h2 y).1 hy)
   obtain ⟨p, hp⟩ : ∃ p, l[m - 1]? = some p := ⟨_, List.getElem?_eq_getElem (by omega)⟩
   have hdp : l.toArray[m - 1]! = p := by
    obtain ⟨h3, h4⟩ := List.getElem?_eq_some_iff.1 hp
    rw [getElem!_pos l.toArray (m - 1) (by simpa using h3)]; simpa using h4
   have hne : p ≠ x := by
    intro e
    have := Lib.keeps_neg (d := l.toArray) (m := m) (by omega) (by rw [hd, hdp, e])
    rw [this] at hk; cases hk
   have hpx := lt_of_le_ne (pair_at h (show m - 1 < m by omega) hp hx) hne
   rcases Nat.lt_or_ge j (m - 1) with h5 | h5
   ·exact le_lt (pair_at h h5 hjy hp) hpx
   obtain rfl : j = m - 1 := by omega
   rw [hp] at hjy; cases hjy; exact hpx
  rw [if_neg hk, List.append_nil]
  refine ⟨h1, fun z => ?_⟩
  rw [h2, List.mem_append, List.mem_singleton]
  have hm0 : 0 < m := by
   rcases Nat.eq_zero_or_pos m with rfl | h3
   ·exact absurd (by simp [Lib.keeps]) hk
   exact h3
  obtain ⟨p, hp⟩ : ∃ p, l[m - 1]? = some p := ⟨_, List.getElem?_eq_getElem (by omega)⟩
  have hdp : l.toArray[m - 1]! = p := by
   obtain ⟨h3, h4⟩ := List.getElem?_eq_some_iff.1 hp
   rw [getElem!_pos l.toArray (m - 1) (by simpa using h3)]; simpa using h4
  have he : x = p := Classical.byContradiction fun hne => hk (Lib.keeps_pos (by rw [hd, hdp]; exact hne))
  subst he
  exact ⟨.inl, fun h3 => h3.elim id fun e => by subst e; exact mem_take_iff.2 ⟨m - 1, by omega, hp⟩⟩
structure AddI (s fresh : List (List UInt8)) (i j : Nat) (out : List (List UInt8)) : Prop where
 so : SortedT out
 mem : ∀ x, x ∈ out ↔ x ∈ s.take i ∨ x ∈ fresh.take j
 lf : ∀ y ∈ out, ∀ f ∈ fresh.drop j, Op.bytesLess y f = true
 ls : ∀ y ∈ out, ∀ z ∈ s.drop i, Op.bytesLess y z = true
 len : out.length ≤ i + j
section
variable {s fresh out : List (List UInt8)} {i j : Nat} {x z : List UInt8}
theorem AddI.nil : AddI s fresh 0 0 [] := ⟨List.Pairwise.nil, fun x => by simp, fun y h => (by cases h), fun y h => (by cases h), Nat.zero_le _⟩
theorem drop_sub {α : Type} {l : List α} {i : Nat} {x : α} (h : x ∈ l.drop (i + 1)) : x ∈ l.drop i := by
 obtain ⟨j, h1, h2⟩ := mem_drop_iff.1 h
 exact mem_drop_iff.2 ⟨j, by omega, h2⟩
theorem sort_snoc {l : List (List UInt8)} (h : SortedT l) (hx : ∀ y ∈ l, Op.bytesLess y x = true) : SortedT (l ++ [x]) :=
 List.pairwise_append.2 ⟨h, by simp, fun y hy z hz => by rw [List.mem_singleton.1 hz]; exact hx y hy⟩
theorem AddI.low (h : AddI s fresh i j out) (hs : SortedT s) (hf : SortedT fresh) (hz : s[i]? = some z) (hx : fresh[j]? = some x) (hl : Op.bytesLess z x = true) : AddI s fresh (i + 1) j (out ++ [z]) := by
 refine ⟨sort_snoc h.so fun y hy => h.ls y hy z (mem_drop_iff.2 ⟨i, Nat.le_refl _, hz⟩), fun y => ?_, fun y hy f hf9 => ?_, fun y hy z9 hz9 => ?_, by have := h.len; rw [List.length_append, List.length_singleton]; omega⟩
 ·rw [List.mem_append, h.mem, take_next hz, List.mem_append]
  constructor
  ·rintro ((h1 | h1) | h1)
   ·exact .inl (.inl h1)
   ·exact .inr h1
   exact .inl (.inr h1)
  rintro ((h1 | h1) | h1)
  ·exact .inl (.inl h1)
  ·exact .inr h1
  exact .inl (.inr h1)
 ·rcases List.mem_append.1 hy with h1 | h1
  ·exact h.lf y h1 f hf9
  rw [List.mem_singleton.1 h1]
  obtain ⟨k, hk, hk2⟩ := mem_drop_iff.1 hf9
  rcases Nat.eq_or_lt_of_le hk with rfl | h2
  ·rw [hx] at hk2; cases hk2; exact hl
  exact lt_trans _ _ _ hl (pair_at hf h2 hx hk2)
 rcases List.mem_append.1 hy with h1 | h1
 ·exact h.ls y h1 z9 (drop_sub hz9)
 rw [List.mem_singleton.1 h1]
 obtain ⟨k, hk, hk2⟩ := mem_drop_iff.1 hz9
 exact pair_at hs (show i < k by omega) hz hk2
theorem AddI.put (h : AddI s fresh i j out) (hs : SortedT s) (hf : SortedT fresh) (hx : fresh[j]? = some x) {i' : Nat} (hi : (i' = i ∧ ∀ z, s[i]? = some z → Op.bytesLess z x = false ∧ z ≠ x) ∨ (i' = i + 1 ∧ s[i]? = some x)) : AddI s fresh i' (j + 1) (out ++ [x]) := by
 refine ⟨sort_snoc h.so fun y hy => h.lf y hy x (mem_drop_iff.2 ⟨j, Nat.le_refl _, hx⟩), fun y => ?_, fun y hy f hf9 => ?_, fun y hy z9 hz9 => ?_, by have := h.len; rw [List.length_append, List.length_singleton]; rcases hi with ⟨rfl, -⟩ | ⟨rfl, -⟩ <;> omega⟩
 ·rw [List.mem_append, h.mem, take_next hx, List.mem_append, List.mem_singleton]
  rcases hi with ⟨rfl, -⟩ | ⟨rfl, h9⟩
  ·constructor
   ·rintro ((h1 | h1) | h1)
    ·exact .inl h1
    ·exact .inr (.inl h1)
    exact .inr (.inr h1)
   rintro (h1 | h1 | h1)
   ·exact .inl (.inl h1)
   ·exact .inl (.inr h1)
   exact .inr h1
  rw [take_next h9, List.mem_append, List.mem_singleton]
  constructor
  ·rintro ((h1 | h1) | h1)
   ·exact .inl (.inl h1)
   ·exact .inr (.inl h1)
   exact .inr (.inr h1)
  rintro ((h1 | h1) | h1 | h1)
  ·exact .inl (.inl h1)
  ·exact .inr h1
  ·exact .inl (.inr h1)
  exact .inr h1
 ·rcases List.mem_append.1 hy with h1 | h1
  ·exact h.lf y h1 f (drop_sub hf9)
  rw [List.mem_singleton.1 h1]
  obtain ⟨k, hk, hk2⟩ := mem_drop_iff.1 hf9
  exact pair_at hf (show j < k by omega) hx hk2
 have hz9' : z9 ∈ s.drop i := by
  rcases hi with ⟨rfl, -⟩ | ⟨rfl, -⟩
  ·exact hz9
  exact drop_sub hz9
 rcases List.mem_append.1 hy with h1 | h1
 ·exact h.ls y h1 z9 hz9'
 rw [List.mem_singleton.1 h1]
 obtain ⟨k, hk, hk2⟩ := mem_drop_iff.1 hz9
 rcases hi with ⟨rfl, hi⟩ | ⟨rfl, hi⟩
 ·have h2 : ∀ z, s[i']? = some z → Op.bytesLess x z = true := fun z hz => by
   obtain ⟨h3, h4⟩ := hi z hz
   exact lt_of_le_ne (by rw [leB_lt, h3]; rfl) (fun e => h4 e.symm)
  rcases Nat.eq_or_lt_of_le hk with rfl | h3
  ·exact h2 _ hk2
  obtain ⟨z0, hz0⟩ : ∃ z, s[i']? = some z := ⟨_, List.getElem?_eq_getElem (by have := (List.getElem?_eq_some_iff.1 hk2).1; omega)⟩
  exact lt_trans _ _ _ (h2 _ hz0) (pair_at hs h3 hz0 hk2)
 exact pair_at hs (show i < k by omega) hi hk2
def JoinS (s xs out : List (List UInt8)) : Prop := SortedT out ∧ ∀ x, x ∈ out ↔ x ∈ s ∨ x ∈ xs
theorem AddI.fin (h : AddI s fresh i fresh.length out) (hs : SortedT s) : JoinS s fresh (out ++ s.drop i) := by
 refine ⟨List.pairwise_append.2 ⟨h.so, hs.sublist (List.drop_sublist _ _), fun y hy z hz => h.ls y hy z hz⟩, fun y => ?_⟩
 rw [List.mem_append, h.mem, List.take_length]
 have : y ∈ s ↔ y ∈ s.take i ∨ y ∈ s.drop i := by rw [← List.mem_append, List.take_append_drop]
 rw [this]
 constructor
 ·rintro ((h1 | h1) | h1)
  ·exact .inl (.inl h1)
  ·exact .inr h1
  exact .inl (.inr h1)
 rintro ((h1 | h1) | h1)
 ·exact .inl (.inl h1)
 ·exact .inr h1
 exact .inl (.inr h1)
end
end Go.Pm
