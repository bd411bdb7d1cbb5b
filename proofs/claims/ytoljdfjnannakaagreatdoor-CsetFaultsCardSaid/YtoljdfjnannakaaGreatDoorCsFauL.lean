/- cset: do, of every command, for the law on faults. -/
import Derived.Test.YtoljdfjnannakaaGreatDoorCsFauB
import Derived.Test.YtoljdfjnannakaaGreatDoorCsFauH
import Derived.Test.YtoljdfjnannakaaGreatDoorCsFauK
import Derived.Test.YtoljdfjnannakaaGreatDoorRows
import Derived.Test.YtoljdfjnannakaaGreatDoorCsFauC
import Derived.Test.YtoljdfjnannakaaGreatDoorCsFauD
import Derived.Test.YtoljdfjnannakaaGreatDoorCsFauG
set_option maxRecDepth 100000
set_option maxHeartbeats 16000000
set_option synthInstance.maxSize 4096
set_option synthInstance.maxHeartbeats 400000
namespace Go.Proofs.YtoljdfjnannakaaGreatDoor
open Go.RowKit Go.Pm
def DoS (M : List (List UInt8 × Ver)) (clk : Int) (name : List UInt8) (args : List (List UInt8)) (M' : List (List UInt8 × Ver)) (r : Rp) : Prop := (name = nSADD → ∃ k, args[0]? = some k ∧ ChangeR M clk k true (args.drop 1) M' r) ∧ (name = nSDIFF → M' = M ∧ ∃ out ec, CombR M clk nSDIFF args out ec ∧ DoneR ec (rStrs out) r)
abbrev nSINTERS : List UInt8 := ([83, 73, 78, 84, 69, 82, 83, 84, 79, 82, 69] : List UInt8)
theorem cAal28 : AL Tryz.prog 28 [vI 0, vS [], vI 0, vN] := fun w => by kernel_rfl
theorem cAcallable39 : Callable Tryz.prog 39 := cb Tryz.func39 (by kernel_rfl)
theorem cAcallable40 : Callable Tryz.prog 40 := cb Tryz.func40 (by kernel_rfl)
theorem cAcallable41 : Callable Tryz.prog 41 := cb Tryz.func41 (by kernel_rfl)
theorem cAcallable46 : Callable Tryz.prog 46 := cb Tryz.func46 (by kernel_rfl)
theorem cAcallable47 : Callable Tryz.prog 47 := cb Tryz.func47 (by kernel_rfl)
theorem cAcallable48 : Callable Tryz.prog 48 := cb Tryz.func48 (by kernel_rfl)
theorem cAcallable49 : Callable Tryz.prog 49 := cb Tryz.func49 (by kernel_rfl)
theorem csetDoAll (B : Base) (H : List Res) (w : World) (v t m s p wb : Nat) (va : Option Addr) (vc : Nat) (sv : Value) (clk : Int) (es : List (List UInt8 × Value)) (M : List (List UInt8 × Ver)) (hM : VM B es M) (hO : OkM M) (aa : Option Addr) (ac : Nat) (args : List (List UInt8)) (hra : RdV B [] aa (textCells args)) (hoka : SliceOk aa args.length ac) (hma : args.length ≤ 1000) (name : List UInt8) (hal : 1 ≤ args.length) (hc2 : name = nSISM → 2 ≤ args.length) (hcs : name = nSDIFFS ∨ name = nSINTERS ∨ name = nSUNIONS → 2 ≤ args.length) (hc3 : name = nSMOVE → 3 ≤ args.length) (hxl : ∀ x ∈ args, x.length ≤ 9223372036854775807) (hsm : (∀ x ∈ args, x.length ≤ 1000000) ∨ M = []) (hN : NumB B) (hv : Inv B (Res.cell v [.iface 62 (vP t)] 39 :: txR t m s p wb va vc sv clk es :: H) w) :
  Calls Tryz.prog 26 #[.agg #[vP v, .slice aa args.length ac], vS name] w fun e w' => ∃ C es' M' r cs, B.Le C ∧ e = .returned (.agg cs.toArray) ∧ RpAt C r cs ∧ VM C es' M' ∧ CmdR M M' r ∧ DoS M clk name args M' r ∧ Inv C (Res.cell v [.iface 62 (vP t)] 39 :: txR t m s p wb va vc sv clk es' :: H) w' := by
 obtain ⟨key, hkey⟩ : ∃ k, args[0]? = some k := ⟨_, List.getElem?_eq_getElem (show 0 < args.length by omega)⟩
 have hd1 : (args.drop 1).length = args.length - 1 := List.length_drop
 obtain ⟨a3, c3, ha3, ok3, hr3⟩ := sliced_fromV 1 hoka hra (textCells_len args) (show 1 ≤ args.length by omega) (by decide)
 rw [Nat.mul_one, text_drop] at hr3
 rw [← hd1] at ok3
 have hxd : ∀ x ∈ args.drop 1, x.length ≤ 9223372036854775807 := fun x hx => hxl x (List.mem_of_mem_drop hx)
 refine cW Tryz.func26 rfl Tryz.ntmps26 ?_
 simp only [al]
 refine sK fun _ k1 => rL (sl_box (L := [vP v, .slice aa args.length ac]) tV (wn rfl) rfl rfl hv (fun w => by kernel_rfl) (fun b2 w3 hv => ?_))
 refine sl_alloc tV (wn rfl) rfl hv cAal28 (fun b4 w5 hv => ?_)
 refine uW k1 (sK fun _ k6 => ?_)
 refine rL (uF (.pointer (some ⟨b2, 1, none⟩)) rfl (c1fa73_1 _ _ _) ?_)
 refine uL _ rfl (run_load1 s1na22 (hv.load 1 1 rfl rfl)) (uA rfl ?_)
 refine uW k6 (sK fun _ k7 => ?_)
 refine sK fun _ k8 => rL (uM rfl ?_)
 refine uW k8 (bB ?_)
 refine sK fun _ k9 => sK fun _ k10 => rL ?_
 by_cases hb11 : name = ([83, 65, 68, 68] : List UInt8)
 ·refine uG (.bool true) rfl (ex_seql rfl rfl rfl (qT hb11)) (uA rfl ?_)
  refine uW k10 (cT rfl ?_)
  refine kS (tK k9 ?_)
  refine cT rfl (sK fun _ k12 => ?_)
  refine rW mixed [5, 6] [0,1,2,3,4,5,6] 107 rfl (by kernel_rfl) hv ?_
  simp only [qm, opAt]
  refine dL (.agg #[vP v, .slice aa args.length ac]) rfl (fun hv => ex_load rfl rfl (lM 1 c1wd73 hv rfl rfl rfl rfl)) (dM (vS name) rfl ?_)
  refine dG (.bool true) rfl (ex_seql rfl rfl rfl (qT hb11)) ?_
  simp only [zP, po]
  refine dM (.slice aa args.length ac) rfl (dG (.slice a3 ((args.drop 1).length) c3) rfl (ex_slice (lo' := some (vI ((1 : Nat) : Int))) rfl rfl (congrArg some rfl) rfl rfl ((run_fromAny Tryz.underlying22 s9es22 (by omega)).trans (by rw [ha3, hd1]))) ?_)
  refine dS rfl fun w13 hv => ?_
  replace hv := hv.front 3 rfl
  simp only [eS, eZ] at hv
  replace hv := hv.front 3 rfl
  simp only [eS, eZ] at hv
  refine mC cAcallable39 rfl ((csetChange B _ _ v t m s p wb va vc sv clk es M hM hO aa ac args hra hoka (by omega) key hkey true a3 c3 (args.drop 1) ok3 hr3 (by omega) hv).mono ?_) rfl
  rintro e w14 ⟨C, es', M', r, cs, hC, rfl, hrp, hM', hO', hrel, hv⟩
  have hcmd : CmdR M M' r := hrel.cmd hO
  obtain ⟨rk, rs, rn, rv, rfl⟩ := rp_parts hrp
  refine ⟨_, rfl, dW hv ?_⟩
  simp only [zP, po]
  refine dS rfl fun w15 hv => mS 2 rfl hv rssz28 rfl (by exact ⟨rfl, rfl, rfl, hrp.lv.2, trivial⟩) (fun w16 hv => ?_)
  simp only [zS, zO, sp] at hv
  refine dW hv (dE fun w17 hv => ?_)
  simp only [zP, po]
  refine tK k12 (rR ?_)
  refine bZ (tR ?_)
  refine bC 2 rswd28 hv rfl rfl rfl rfl (⟨C, es', M', r, _, hC, rfl, hrp, hM', hcmd, ⟨fun _ => ⟨key, hkey, hrel⟩, fun h9 => by rw [hb11] at h9; exact absurd h9 (by decide)⟩, (hv.kp [1, 1] 2 2)⟩)
 refine uG (.bool false) rfl (ex_seql rfl rfl rfl (qF hb11)) (uA rfl ?_)
 refine uW k10 (cF rfl ?_)
 refine rL ?_
 by_cases hb18 : name = ([83, 82, 69, 77] : List UInt8)
 ·refine uG (.bool true) rfl (ex_seql rfl rfl rfl (qT hb18)) (uA rfl ?_)
  refine uW k9 (cT rfl ?_)
  refine sK fun _ k19 => rW mixed [5, 6] [0,1,2,3,4,5,6] 107 rfl (by kernel_rfl) hv ?_
  simp only [qm, opAt]
  refine dL (.agg #[vP v, .slice aa args.length ac]) rfl (fun hv => ex_load rfl rfl (lM 1 c1wd73 hv rfl rfl rfl rfl)) (dM (vS name) rfl ?_)
  refine dG (.bool false) rfl (ex_seql rfl rfl rfl (qF hb11)) ?_
  simp only [zP, po]
  refine dM (.slice aa args.length ac) rfl (dG (.slice a3 ((args.drop 1).length) c3) rfl (ex_slice (lo' := some (vI ((1 : Nat) : Int))) rfl rfl (congrArg some rfl) rfl rfl ((run_fromAny Tryz.underlying22 s9es22 (by omega)).trans (by rw [ha3, hd1]))) ?_)
  refine dS rfl fun w20 hv => ?_
  replace hv := hv.front 3 rfl
  simp only [eS, eZ] at hv
  replace hv := hv.front 3 rfl
  simp only [eS, eZ] at hv
  refine mC cAcallable39 rfl ((csetChange B _ _ v t m s p wb va vc sv clk es M hM hO aa ac args hra hoka (by omega) key hkey false a3 c3 (args.drop 1) ok3 hr3 (by omega) hv).mono ?_) rfl
  rintro e w21 ⟨C, es', M', r, cs, hC, rfl, hrp, hM', hO', hrel, hv⟩
  have hcmd : CmdR M M' r := hrel.cmd hO
  obtain ⟨rk, rs, rn, rv, rfl⟩ := rp_parts hrp
  refine ⟨_, rfl, dW hv ?_⟩
  simp only [zP, po]
  refine dS rfl fun w22 hv => mS 2 rfl hv rssz28 rfl (by exact ⟨rfl, rfl, rfl, hrp.lv.2, trivial⟩) (fun w23 hv => ?_)
  simp only [zS, zO, sp] at hv
  refine dW hv (dE fun w24 hv => ?_)
  simp only [zP, po]
  refine tK k19 (rR ?_)
  refine bZ (tR ?_)
  refine bC 2 rswd28 hv rfl rfl rfl rfl (⟨C, es', M', r, _, hC, rfl, hrp, hM', hcmd, ⟨fun h9 => by rw [hb18] at h9; exact absurd h9 (by decide), fun h9 => by rw [hb18] at h9; exact absurd h9 (by decide)⟩, (hv.kp [1, 1] 2 2)⟩)
 refine uG (.bool false) rfl (ex_seql rfl rfl rfl (qF hb18)) (uA rfl ?_)
 refine uW k9 (cF rfl ?_)
 refine sK fun _ k25 => sK fun _ k26 => rL ?_
 by_cases hb27 : name = ([83, 67, 65, 82, 68] : List UInt8)
 ·refine uG (.bool true) rfl (ex_seql rfl rfl rfl (qT hb27)) (uA rfl ?_)
  refine uW k26 (cT rfl ?_)
  refine kS (tK k25 ?_)
  refine cT rfl (sK fun _ k28 => ?_)
  refine rW mixed [4, 5] [0,1,2,3,4,5] 107 rfl (by kernel_rfl) hv ?_
  simp only [qm, opAt]
  refine dL (.agg #[vP v, .slice aa args.length ac]) rfl (fun hv => ex_load rfl rfl (lM 1 c1wd73 hv rfl rfl rfl rfl)) (dM (vS name) rfl ?_)
  refine dM (.slice aa args.length ac) rfl ?_
  simp only [zP, po]
  refine dG (.slice a3 ((args.drop 1).length) c3) rfl (ex_slice (lo' := some (vI ((1 : Nat) : Int))) rfl rfl (congrArg some rfl) rfl rfl ((run_fromAny Tryz.underlying22 s9es22 (by omega)).trans (by rw [ha3, hd1]))) (dS rfl fun w29 hv => ?_)
  replace hv := hv.front 3 rfl
  simp only [eS, eZ] at hv
  replace hv := hv.front 3 rfl
  simp only [eS, eZ] at hv
  refine mC cAcallable40 rfl ((csetAsk B _ _ v t m s p wb va vc sv clk es M hM hO aa ac args hra hoka (by omega) key hkey name (.inl hb27) a3 c3 (args.drop 1) hr3 (by omega) (fun h9 => by have := hc2 h9; omega) hv).mono ?_) rfl
  rintro e w30 ⟨C, r, cs, hC, rfl, hrp, -, hv⟩
  have hcmd : CmdR M M r := ⟨hO, fun _ => rfl⟩
  obtain ⟨rk, rs, rn, rv, rfl⟩ := rp_parts hrp
  refine ⟨_, rfl, dW hv ?_⟩
  refine dS rfl fun w31 hv => mS 2 rfl hv rssz28 rfl (by exact ⟨rfl, rfl, rfl, hrp.lv.2, trivial⟩) (fun w32 hv => ?_)
  simp only [zS, zO, sp] at hv
  refine dW hv (dE fun w33 hv => ?_)
  simp only [zP, po]
  refine tK k28 (rR ?_)
  refine bZ (tR ?_)
  refine bC 2 rswd28 hv rfl rfl rfl rfl (⟨C, es, M, r, _, hC, rfl, hrp, hM.more hC, hcmd, ⟨fun h9 => by rw [hb27] at h9; exact absurd h9 (by decide), fun h9 => by rw [hb27] at h9; exact absurd h9 (by decide)⟩, (hv.kp [1, 1] 2 2)⟩)
 refine uG (.bool false) rfl (ex_seql rfl rfl rfl (qF hb27)) (uA rfl ?_)
 refine uW k26 (cF rfl ?_)
 refine sK fun _ k34 => rL ?_
 by_cases hb35 : name = ([83, 73, 83, 77, 69, 77, 66, 69, 82] : List UInt8)
 ·refine uG (.bool true) rfl (ex_seql rfl rfl rfl (qT hb35)) (uA rfl ?_)
  refine uW k34 (cT rfl ?_)
  refine kS (tK k25 ?_)
  refine cT rfl (sK fun _ k36 => ?_)
  refine rW mixed [4, 5] [0,1,2,3,4,5] 107 rfl (by kernel_rfl) hv ?_
  simp only [qm, opAt]
  refine dL (.agg #[vP v, .slice aa args.length ac]) rfl (fun hv => ex_load rfl rfl (lM 1 c1wd73 hv rfl rfl rfl rfl)) (dM (vS name) rfl ?_)
  refine dM (.slice aa args.length ac) rfl ?_
  simp only [zP, po]
  refine dG (.slice a3 ((args.drop 1).length) c3) rfl (ex_slice (lo' := some (vI ((1 : Nat) : Int))) rfl rfl (congrArg some rfl) rfl rfl ((run_fromAny Tryz.underlying22 s9es22 (by omega)).trans (by rw [ha3, hd1]))) (dS rfl fun w37 hv => ?_)
  replace hv := hv.front 3 rfl
  simp only [eS, eZ] at hv
  replace hv := hv.front 3 rfl
  simp only [eS, eZ] at hv
  refine mC cAcallable40 rfl ((csetAsk B _ _ v t m s p wb va vc sv clk es M hM hO aa ac args hra hoka (by omega) key hkey name (.inr (.inl hb35)) a3 c3 (args.drop 1) hr3 (by omega) (fun h9 => by have := hc2 h9; omega) hv).mono ?_) rfl
  rintro e w38 ⟨C, r, cs, hC, rfl, hrp, -, hv⟩
  have hcmd : CmdR M M r := ⟨hO, fun _ => rfl⟩
  obtain ⟨rk, rs, rn, rv, rfl⟩ := rp_parts hrp
  refine ⟨_, rfl, dW hv ?_⟩
  refine dS rfl fun w39 hv => mS 2 rfl hv rssz28 rfl (by exact ⟨rfl, rfl, rfl, hrp.lv.2, trivial⟩) (fun w40 hv => ?_)
  simp only [zS, zO, sp] at hv
  refine dW hv (dE fun w41 hv => ?_)
  simp only [zP, po]
  refine tK k36 (rR ?_)
  refine bZ (tR ?_)
  refine bC 2 rswd28 hv rfl rfl rfl rfl (⟨C, es, M, r, _, hC, rfl, hrp, hM.more hC, hcmd, ⟨fun h9 => by rw [hb35] at h9; exact absurd h9 (by decide), fun h9 => by rw [hb35] at h9; exact absurd h9 (by decide)⟩, (hv.kp [1, 1] 2 2)⟩)
 refine uG (.bool false) rfl (ex_seql rfl rfl rfl (qF hb35)) (uA rfl ?_)
 refine uW k34 (cF rfl ?_)
 refine sK fun _ k42 => rL ?_
 by_cases hb43 : name = ([83, 77, 69, 77, 66, 69, 82, 83] : List UInt8)
 ·refine uG (.bool true) rfl (ex_seql rfl rfl rfl (qT hb43)) (uA rfl ?_)
  refine uW k42 (cT rfl ?_)
  refine kS (tK k25 ?_)
  refine cT rfl (sK fun _ k44 => ?_)
  refine rW mixed [4, 5] [0,1,2,3,4,5] 107 rfl (by kernel_rfl) hv ?_
  simp only [qm, opAt]
  refine dL (.agg #[vP v, .slice aa args.length ac]) rfl (fun hv => ex_load rfl rfl (lM 1 c1wd73 hv rfl rfl rfl rfl)) (dM (vS name) rfl ?_)
  refine dM (.slice aa args.length ac) rfl ?_
  simp only [zP, po]
  refine dG (.slice a3 ((args.drop 1).length) c3) rfl (ex_slice (lo' := some (vI ((1 : Nat) : Int))) rfl rfl (congrArg some rfl) rfl rfl ((run_fromAny Tryz.underlying22 s9es22 (by omega)).trans (by rw [ha3, hd1]))) (dS rfl fun w45 hv => ?_)
  replace hv := hv.front 3 rfl
  simp only [eS, eZ] at hv
  replace hv := hv.front 3 rfl
  simp only [eS, eZ] at hv
  refine mC cAcallable40 rfl ((csetAsk B _ _ v t m s p wb va vc sv clk es M hM hO aa ac args hra hoka (by omega) key hkey name (.inr (.inr hb43)) a3 c3 (args.drop 1) hr3 (by omega) (fun h9 => by have := hc2 h9; omega) hv).mono ?_) rfl
  rintro e w46 ⟨C, r, cs, hC, rfl, hrp, -, hv⟩
  have hcmd : CmdR M M r := ⟨hO, fun _ => rfl⟩
  obtain ⟨rk, rs, rn, rv, rfl⟩ := rp_parts hrp
  refine ⟨_, rfl, dW hv ?_⟩
  refine dS rfl fun w47 hv => mS 2 rfl hv rssz28 rfl (by exact ⟨rfl, rfl, rfl, hrp.lv.2, trivial⟩) (fun w48 hv => ?_)
  simp only [zS, zO, sp] at hv
  refine dW hv (dE fun w49 hv => ?_)
  simp only [zP, po]
  refine tK k44 (rR ?_)
  refine bZ (tR ?_)
  refine bC 2 rswd28 hv rfl rfl rfl rfl (⟨C, es, M, r, _, hC, rfl, hrp, hM.more hC, hcmd, ⟨fun h9 => by rw [hb43] at h9; exact absurd h9 (by decide), fun h9 => by rw [hb43] at h9; exact absurd h9 (by decide)⟩, (hv.kp [1, 1] 2 2)⟩)
 refine uG (.bool false) rfl (ex_seql rfl rfl rfl (qF hb43)) (uA rfl ?_)
 refine uW k42 (cF rfl ?_)
 refine rL ?_
 by_cases hb50 : name = ([83, 77, 73, 83, 77, 69, 77, 66, 69, 82] : List UInt8)
 ·refine uG (.bool true) rfl (ex_seql rfl rfl rfl (qT hb50)) (uA rfl ?_)
  refine uW k25 (cT rfl ?_)
  refine sK fun _ k51 => rW mixed [4, 5] [0,1,2,3,4,5] 107 rfl (by kernel_rfl) hv ?_
  simp only [qm, opAt]
  refine dL (.agg #[vP v, .slice aa args.length ac]) rfl (fun hv => ex_load rfl rfl (lM 1 c1wd73 hv rfl rfl rfl rfl)) (dM (vS name) rfl ?_)
  refine dM (.slice aa args.length ac) rfl ?_
  simp only [zP, po]
  refine dG (.slice a3 ((args.drop 1).length) c3) rfl (ex_slice (lo' := some (vI ((1 : Nat) : Int))) rfl rfl (congrArg some rfl) rfl rfl ((run_fromAny Tryz.underlying22 s9es22 (by omega)).trans (by rw [ha3, hd1]))) (dS rfl fun w52 hv => ?_)
  replace hv := hv.front 3 rfl
  simp only [eS, eZ] at hv
  replace hv := hv.front 3 rfl
  simp only [eS, eZ] at hv
  refine mC cAcallable40 rfl ((csetAskM B _ _ v t m s p wb va vc sv clk es M hM hO aa ac args hra hoka (by omega) key hkey name (by rw [hb50]; decide) (by rw [hb50]; decide) (by rw [hb50]; decide) a3 c3 (args.drop 1) ok3 hr3 (by omega) hv).mono ?_) rfl
  rintro e w53 ⟨C, es', M', r, cs, hC, rfl, hrp, hM', hcm, hv⟩
  have hcmd : CmdR M M' r := hcm
  obtain ⟨rk, rs, rn, rv, rfl⟩ := rp_parts hrp
  refine ⟨_, rfl, dW hv ?_⟩
  refine dS rfl fun w54 hv => mS 2 rfl hv rssz28 rfl (by exact ⟨rfl, rfl, rfl, hrp.lv.2, trivial⟩) (fun w55 hv => ?_)
  simp only [zS, zO, sp] at hv
  refine dW hv (dE fun w56 hv => ?_)
  simp only [zP, po]
  refine tK k51 (rR ?_)
  refine bZ (tR ?_)
  refine bC 2 rswd28 hv rfl rfl rfl rfl (⟨C, es', M', r, _, hC, rfl, hrp, hM', hcmd, ⟨fun h9 => by rw [hb50] at h9; exact absurd h9 (by decide), fun h9 => by rw [hb50] at h9; exact absurd h9 (by decide)⟩, (hv.kp [1, 1] 2 2)⟩)
 refine uG (.bool false) rfl (ex_seql rfl rfl rfl (qF hb50)) (uA rfl ?_)
 refine uW k25 (cF rfl ?_)
 refine sK fun _ k57 => sK fun _ k58 => rL ?_
 by_cases hb59 : name = ([83, 68, 73, 70, 70] : List UInt8)
 ·refine uG (.bool true) rfl (ex_seql rfl rfl rfl (qT hb59)) (uA rfl ?_)
  refine uW k58 (cT rfl ?_)
  refine kS (tK k57 ?_)
  refine cT rfl (sK fun _ k60 => ?_)
  refine rL (uL (.agg #[vP v, .slice aa args.length ac]) rfl (lM 1 c1wd73 hv rfl rfl rfl rfl) ?_)
  refine uM rfl (uM rfl ?_)
  replace hv := hv.front 3 rfl
  simp only [eS, eZ] at hv
  replace hv := hv.front 3 rfl
  simp only [eS, eZ] at hv
  refine xC cAcallable41 rfl ((csetCombined B _ _ v t m s p wb va vc sv clk es M hM hO aa ac args name aa ac args hra (by omega) (by omega) hv).mono ?_) rfl
  rintro e w61 ⟨C, oa, oc, out, ec, hC, rfl, hoko, hro, hcmb, hv⟩
  refine ⟨_, rfl, ?_⟩
  have hol := hcmb.len hO
  refine uM rfl (uE rfl ?_)
  refine uE rfl (uA rfl ?_)
  refine uA rfl (uW k60 ?_)
  refine sK fun _ k62 => rL (uM rfl ?_)
  refine uM rfl ?_
  refine xC c2callable43 rfl ((respStrsR C _ _ oa oc out (hro.more (Base.Le.refl _) (fun _ h => h)) (by omega) hv).mono ?_) rfl
  rintro e w67 ⟨D63, da64, dc65, hD63, rfl, hrp66o, hrp66, hv⟩
  refine ⟨_, rfl, ?_⟩
  simp only [zP, po]
  refine xC c1callable42 rfl ((viewDone D63 _ _ ec 5 0 ([] : List UInt8) (.slice da64 out.length dc65) rfl rfl hv).mono ?_) rfl
  rintro e w68 ⟨xr, hxr, rfl, hv⟩
  refine ⟨_, rfl, ?_⟩
  rcases hxr with ⟨hec0, rfl⟩ | ⟨hec0, s69, rfl⟩
  ·refine xS 2 rfl hv rssz28 rfl (by exact ⟨rfl, rfl, rfl, rfl, trivial⟩) (fun w70 hv => ?_)
   simp only [zS, zO, sp] at hv
   refine uW k62 (rR ?_)
   refine bZ (tR ?_)
   refine bC 2 rswd28 hv rfl rfl rfl rfl (⟨D63, es, M, (rStrs out), _, (hC.trans hD63), rfl, (rpAt_strs hrp66o (hrp66.more (Base.Le.refl _) (fun _ h => h))), hM.more (hC.trans hD63), ⟨hO, fun _ => rfl⟩, ⟨fun h9 => by rw [hb59] at h9; exact absurd h9 (by decide), fun h9 => ⟨rfl, out, ec, by rw [h9] at hcmb; exact hcmb, .inl ⟨by omega, rfl⟩⟩⟩, (hv.kp [1, 1] 2 2)⟩)
  refine xS 2 rfl hv rssz28 rfl (by exact ⟨rfl, rfl, rfl, rfl, trivial⟩) (fun w71 hv => ?_)
  simp only [zS, zO, sp] at hv
  refine uW k62 (rR ?_)
  refine bZ (tR ?_)
  refine bC 2 rswd28 hv rfl rfl rfl rfl (⟨D63, es, M, (.mk 1 s69 0 []), _, (hC.trans hD63), rfl, rpAt_leaf, hM.more (hC.trans hD63), ⟨hO, fun _ => rfl⟩, ⟨fun h9 => by rw [hb59] at h9; exact absurd h9 (by decide), fun h9 => ⟨rfl, out, ec, by rw [h9] at hcmb; exact hcmb, .inr ⟨by omega, rfl⟩⟩⟩, (hv.kp [1, 1] 2 2)⟩)
 refine uG (.bool false) rfl (ex_seql rfl rfl rfl (qF hb59)) (uA rfl ?_)
 refine uW k58 (cF rfl ?_)
 refine sK fun _ k72 => rL ?_
 by_cases hb73 : name = ([83, 73, 78, 84, 69, 82] : List UInt8)
 ·refine uG (.bool true) rfl (ex_seql rfl rfl rfl (qT hb73)) (uA rfl ?_)
  refine uW k72 (cT rfl ?_)
  refine kS (tK k57 ?_)
  refine cT rfl (sK fun _ k74 => ?_)
  refine rL (uL (.agg #[vP v, .slice aa args.length ac]) rfl (lM 1 c1wd73 hv rfl rfl rfl rfl) ?_)
  refine uM rfl (uM rfl ?_)
  replace hv := hv.front 3 rfl
  simp only [eS, eZ] at hv
  replace hv := hv.front 3 rfl
  simp only [eS, eZ] at hv
  refine xC cAcallable41 rfl ((csetCombined B _ _ v t m s p wb va vc sv clk es M hM hO aa ac args name aa ac args hra (by omega) (by omega) hv).mono ?_) rfl
  rintro e w75 ⟨C, oa, oc, out, ec, hC, rfl, hoko, hro, hcmb, hv⟩
  refine ⟨_, rfl, ?_⟩
  have hol := hcmb.len hO
  refine uM rfl (uE rfl ?_)
  refine uE rfl (uA rfl ?_)
  refine uA rfl (uW k74 ?_)
  refine sK fun _ k76 => rL (uM rfl ?_)
  refine uM rfl ?_
  refine xC c2callable43 rfl ((respStrsR C _ _ oa oc out (hro.more (Base.Le.refl _) (fun _ h => h)) (by omega) hv).mono ?_) rfl
  rintro e w81 ⟨D77, da78, dc79, hD77, rfl, hrp80o, hrp80, hv⟩
  refine ⟨_, rfl, ?_⟩
  simp only [zP, po]
  refine xC c1callable42 rfl ((viewDone D77 _ _ ec 5 0 ([] : List UInt8) (.slice da78 out.length dc79) rfl rfl hv).mono ?_) rfl
  rintro e w82 ⟨xr, hxr, rfl, hv⟩
  refine ⟨_, rfl, ?_⟩
  rcases hxr with ⟨hec0, rfl⟩ | ⟨hec0, s83, rfl⟩
  ·refine xS 2 rfl hv rssz28 rfl (by exact ⟨rfl, rfl, rfl, rfl, trivial⟩) (fun w84 hv => ?_)
   simp only [zS, zO, sp] at hv
   refine uW k76 (rR ?_)
   refine bZ (tR ?_)
   refine bC 2 rswd28 hv rfl rfl rfl rfl (⟨D77, es, M, (rStrs out), _, (hC.trans hD77), rfl, (rpAt_strs hrp80o (hrp80.more (Base.Le.refl _) (fun _ h => h))), hM.more (hC.trans hD77), ⟨hO, fun _ => rfl⟩, ⟨fun h9 => by rw [hb73] at h9; exact absurd h9 (by decide), fun h9 => ⟨rfl, out, ec, by rw [h9] at hcmb; exact hcmb, .inl ⟨by omega, rfl⟩⟩⟩, (hv.kp [1, 1] 2 2)⟩)
  refine xS 2 rfl hv rssz28 rfl (by exact ⟨rfl, rfl, rfl, rfl, trivial⟩) (fun w85 hv => ?_)
  simp only [zS, zO, sp] at hv
  refine uW k76 (rR ?_)
  refine bZ (tR ?_)
  refine bC 2 rswd28 hv rfl rfl rfl rfl (⟨D77, es, M, (.mk 1 s83 0 []), _, (hC.trans hD77), rfl, rpAt_leaf, hM.more (hC.trans hD77), ⟨hO, fun _ => rfl⟩, ⟨fun h9 => by rw [hb73] at h9; exact absurd h9 (by decide), fun h9 => ⟨rfl, out, ec, by rw [h9] at hcmb; exact hcmb, .inr ⟨by omega, rfl⟩⟩⟩, (hv.kp [1, 1] 2 2)⟩)
 refine uG (.bool false) rfl (ex_seql rfl rfl rfl (qF hb73)) (uA rfl ?_)
 refine uW k72 (cF rfl ?_)
 refine rL ?_
 by_cases hb86 : name = ([83, 85, 78, 73, 79, 78] : List UInt8)
 ·refine uG (.bool true) rfl (ex_seql rfl rfl rfl (qT hb86)) (uA rfl ?_)
  refine uW k57 (cT rfl ?_)
  refine sK fun _ k87 => rL (uL (.agg #[vP v, .slice aa args.length ac]) rfl (lM 1 c1wd73 hv rfl rfl rfl rfl) ?_)
  refine uM rfl (uM rfl ?_)
  replace hv := hv.front 3 rfl
  simp only [eS, eZ] at hv
  replace hv := hv.front 3 rfl
  simp only [eS, eZ] at hv
  refine xC cAcallable41 rfl ((csetCombined B _ _ v t m s p wb va vc sv clk es M hM hO aa ac args name aa ac args hra (by omega) (by omega) hv).mono ?_) rfl
  rintro e w88 ⟨C, oa, oc, out, ec, hC, rfl, hoko, hro, hcmb, hv⟩
  refine ⟨_, rfl, ?_⟩
  have hol := hcmb.len hO
  refine uM rfl (uE rfl ?_)
  refine uE rfl (uA rfl ?_)
  refine uA rfl (uW k87 ?_)
  refine sK fun _ k89 => rL (uM rfl ?_)
  refine uM rfl ?_
  refine xC c2callable43 rfl ((respStrsR C _ _ oa oc out (hro.more (Base.Le.refl _) (fun _ h => h)) (by omega) hv).mono ?_) rfl
  rintro e w94 ⟨D90, da91, dc92, hD90, rfl, hrp93o, hrp93, hv⟩
  refine ⟨_, rfl, ?_⟩
  simp only [zP, po]
  refine xC c1callable42 rfl ((viewDone D90 _ _ ec 5 0 ([] : List UInt8) (.slice da91 out.length dc92) rfl rfl hv).mono ?_) rfl
  rintro e w95 ⟨xr, hxr, rfl, hv⟩
  refine ⟨_, rfl, ?_⟩
  rcases hxr with ⟨hec0, rfl⟩ | ⟨hec0, s96, rfl⟩
  ·refine xS 2 rfl hv rssz28 rfl (by exact ⟨rfl, rfl, rfl, rfl, trivial⟩) (fun w97 hv => ?_)
   simp only [zS, zO, sp] at hv
   refine uW k89 (rR ?_)
   refine bZ (tR ?_)
   refine bC 2 rswd28 hv rfl rfl rfl rfl (⟨D90, es, M, (rStrs out), _, (hC.trans hD90), rfl, (rpAt_strs hrp93o (hrp93.more (Base.Le.refl _) (fun _ h => h))), hM.more (hC.trans hD90), ⟨hO, fun _ => rfl⟩, ⟨fun h9 => by rw [hb86] at h9; exact absurd h9 (by decide), fun h9 => ⟨rfl, out, ec, by rw [h9] at hcmb; exact hcmb, .inl ⟨by omega, rfl⟩⟩⟩, (hv.kp [1, 1] 2 2)⟩)
  refine xS 2 rfl hv rssz28 rfl (by exact ⟨rfl, rfl, rfl, rfl, trivial⟩) (fun w98 hv => ?_)
  simp only [zS, zO, sp] at hv
  refine uW k89 (rR ?_)
  refine bZ (tR ?_)
  refine bC 2 rswd28 hv rfl rfl rfl rfl (⟨D90, es, M, (.mk 1 s96 0 []), _, (hC.trans hD90), rfl, rpAt_leaf, hM.more (hC.trans hD90), ⟨hO, fun _ => rfl⟩, ⟨fun h9 => by rw [hb86] at h9; exact absurd h9 (by decide), fun h9 => ⟨rfl, out, ec, by rw [h9] at hcmb; exact hcmb, .inr ⟨by omega, rfl⟩⟩⟩, (hv.kp [1, 1] 2 2)⟩)
 refine uG (.bool false) rfl (ex_seql rfl rfl rfl (qF hb86)) (uA rfl ?_)
 refine uW k57 (cF rfl ?_)
 refine sK fun _ k99 => sK fun _ k100 => rL ?_
 by_cases hb101 : name = ([83, 68, 73, 70, 70, 83, 84, 79, 82, 69] : List UInt8)
 ·refine uG (.bool true) rfl (ex_seql rfl rfl rfl (qT hb101)) ?_
  subst hb101
  refine uA rfl (uW k100 ?_)
  refine cT rfl (kS ?_)
  refine tK k99 (cT rfl ?_)
  refine sK fun _ k102 => rW mixed [8] [0,1,2,3,4,5,6,7,8,9,10,11,12,13] 107 rfl (by kernel_rfl) hv ?_
  simp only [qm, opAt]
  refine dL (.agg #[vP v, .slice aa args.length ac]) rfl (fun hv => ex_load rfl rfl (lM 1 c1wd73 hv rfl rfl rfl rfl)) (dM (vS [83, 68, 73, 70, 70, 83, 84, 79, 82, 69]) rfl ?_)
  refine dM (vS [83, 68, 73, 70, 70, 83, 84, 79, 82, 69]) rfl ?_
  simp only [zP, po]
  refine dG (vI 10) rfl (ex_lenStr (l := ([83, 68, 73, 70, 70, 83, 84, 79, 82, 69] : List UInt8)) Tryz.underlying9 rfl rfl) (dG (vI 5) rfl (ex_sub rfl rfl rfl (i64_in (by omega))) ?_)
  refine dG (vS [83, 68, 73, 70, 70]) rfl (ex_slice (hi' := some (vI ((5 : Nat) : Int))) rfl rfl rfl (congrArg some rfl) rfl (run_sshT (l := ([83, 68, 73, 70, 70, 83, 84, 79, 82, 69] : List UInt8)) (j := 5) Tryz.underlying9 (by decide) _)) ?_
  simp only [zP, po]
  refine dM (.slice aa args.length ac) rfl (dG (.slice a3 ((args.drop 1).length) c3) rfl (ex_slice (lo' := some (vI ((1 : Nat) : Int))) rfl rfl (congrArg some rfl) rfl rfl ((run_fromAny Tryz.underlying22 s9es22 (by omega)).trans (by rw [ha3, hd1]))) ?_)
  refine dS rfl fun w103 hv => ?_
  replace hv := hv.front 3 rfl
  simp only [eS, eZ] at hv
  replace hv := hv.front 3 rfl
  simp only [eS, eZ] at hv
  refine mC cAcallable41 rfl ((csetCombined B _ _ v t m s p wb va vc sv clk es M hM hO aa ac args ([83, 68, 73, 70, 70] : List UInt8) a3 c3 (args.drop 1) hr3 (by omega) (by have := hcs (.inl rfl); omega) hv).mono ?_) rfl
  rintro e w104 ⟨C, oa, oc, out, ec, hC, rfl, hoko, hro, hcmb, hv⟩
  have hol := hcmb.len hO
  refine ⟨_, rfl, dW hv ?_⟩
  simp only [zP, po]
  refine dM (.tuple #[.slice oa out.length oc, vI ec]) rfl (dG (.slice oa out.length oc) rfl (ex_extract rfl rfl rfl) ?_)
  refine dG (vI ec) rfl (ex_extract rfl rfl rfl) ?_
  simp only [zP, po]
  refine dA (.slice oa out.length oc) rfl (dA (vI ec) rfl ?_)
  refine dE fun w105 hv => ?_
  simp only [zP, po]
  refine tK k102 (sK fun _ k106 => ?_)
  refine sK fun _ k107 => rL (uM rfl ?_)
  by_cases hb108 : ec ≠ 0
  ·refine uG (.bool true) rfl (ex_neq rfl rfl rfl (qT hb108)) (uW k107 ?_)
   refine cT rfl (sK fun _ k109 => ?_)
   refine rL (uM rfl ?_)
   refine xC rscallable24 rfl ((viewWrong C _ _ ec hv).mono ?_) rfl
   rintro e w111 ⟨s110, rfl, hv⟩
   refine ⟨_, rfl, ?_⟩
   refine xS 2 rfl hv rssz28 rfl (by exact ⟨rfl, rfl, rfl, rfl, trivial⟩) (fun w112 hv => ?_)
   simp only [zS, zO, sp] at hv
   refine uW k109 (rR ?_)
   refine tR (bZ ?_)
   refine tR (bC 2 rswd28 hv rfl rfl rfl rfl ?_)
   exact ⟨C, es, M, (.mk 1 s110 0 []), _, hC, rfl, rpAt_leaf, hM.more hC, ⟨hO, fun _ => rfl⟩, ⟨fun h9 => absurd h9 (by decide), fun h9 => absurd h9 (by decide)⟩, (hv.kp [1, 1] 2 2)⟩
  refine uG (.bool false) rfl (ex_neq rfl rfl rfl (qF hb108)) (uW k107 ?_)
  refine cF rfl (kS ?_)
  refine tK k106 (sK fun _ k113 => ?_)
  obtain ⟨ab, ao, had, hrdkey⟩ := text_reads hra hkey
  subst had
  refine rW mixed [6, 9, 10, 11] [0,1,2,3,4,5,7,8,6,9,10,11] 107 rfl (by kernel_rfl) hv ?_
  simp only [qm, opAt]
  refine dL (.agg #[vP v, .slice (some ⟨ab, ao, none⟩) args.length ac]) rfl (fun hv => ex_load rfl rfl (lM 3 c1wd73 hv rfl rfl rfl rfl)) (dM (.slice (some ⟨ab, ao, none⟩) args.length ac) rfl ?_)
  refine dG (.pointer (some ⟨ab, ao + 0, none⟩)) rfl (ex_index rfl rfl rfl (run_idx1 (k := 0) Tryz.underlying22 s9es22 (by omega))) ?_
  simp only [zP, po]
  refine dL _ rfl (fun hv => ex_load rfl rfl (run_load1 s9na9 (hrdkey _ _ _ hC no_res hv 0 _ rfl))) (dG (.agg #[vI 0, .bool false, vI 0, vI 0, vS [], vN, vN, vN]) rfl (ex_buildN (vs := #[]) rfl (by simp only [List.map_toArray, List.map_nil]) (by kernel_rfl)) ?_)
  refine dM (.slice oa out.length oc) rfl ?_
  simp only [zP, po]
  refine dM (.slice oa out.length oc) rfl (dG (vI (out.length : Int)) rfl (ex_len0 Tryz.underlying22 rfl rfl) ?_)
  refine dS rfl fun w114 hv => ?_
  replace hv := hv.front 1 rfl
  simp only [eS, eZ] at hv
  replace hv := hv.front 1 rfl
  simp only [eS, eZ] at hv
  refine mC c1callable44 rfl ((csetKeep C _ _ v t m s p wb va vc sv clk es M (hM.more hC) hO (some ⟨ab, ao, none⟩) ac args.length key zver0 _ _ _ (zver0_at _) oa oc out hro hoko (by omega) hv).mono ?_) rfl
  rintro e w115 ⟨E, es', M', e2, hE, rfl, hM', hkp, hv⟩
  refine ⟨_, rfl, dW hv ?_⟩
  simp only [zP, po]
  refine dS rfl fun w116 hv => mC c1callable45 rfl ((respInt E _ _ (out.length : Int) hv).mono ?_) rfl
  rintro e w117 ⟨rfl, hv⟩
  refine ⟨_, rfl, dW hv ?_⟩
  refine dS rfl fun w118 hv => mC c1callable42 rfl ((viewDone E _ _ e2 2 (out.length : Int) ([] : List UInt8) (vN) rfl rfl hv).mono ?_) rfl
  rintro e w119 ⟨xr, hxr, rfl, hv⟩
  rcases hxr with ⟨hec0, rfl⟩ | ⟨hec0, s120, rfl⟩
  ·refine ⟨_, rfl, dW hv ?_⟩
   refine dS rfl fun w121 hv => mS 2 rfl hv rssz28 rfl (by exact ⟨rfl, rfl, rfl, rfl, trivial⟩) (fun w122 hv => ?_)
   simp only [zS, zO, sp] at hv
   refine dW hv (dE fun w123 hv => ?_)
   simp only [zP, po]
   refine tK k113 (rR ?_)
   refine bZ (tR ?_)
   refine bC 2 rswd28 hv rfl rfl rfl rfl (⟨E, es', M', (.mk 2 ([] : List UInt8) (out.length : Int) []), _, (hC.trans hE), rfl, rpAt_leaf, hM'.more (Base.Le.refl _), DoneR.keep (r0 := rInt (out.length : Int)) hO hkp (.inl ⟨by omega, rfl⟩) isF_int, ⟨fun h9 => absurd h9 (by decide), fun h9 => absurd h9 (by decide)⟩, (hv.kp [1, 1] 2 2)⟩)
  refine ⟨_, rfl, dW hv ?_⟩
  refine dS rfl fun w124 hv => mS 2 rfl hv rssz28 rfl (by exact ⟨rfl, rfl, rfl, rfl, trivial⟩) (fun w125 hv => ?_)
  simp only [zS, zO, sp] at hv
  refine dW hv (dE fun w126 hv => ?_)
  simp only [zP, po]
  refine tK k113 (rR ?_)
  refine bZ (tR ?_)
  refine bC 2 rswd28 hv rfl rfl rfl rfl (⟨E, es', M', (.mk 1 s120 0 []), _, (hC.trans hE), rfl, rpAt_leaf, hM'.more (Base.Le.refl _), DoneR.keep (r0 := rInt (out.length : Int)) hO hkp (.inr ⟨by omega, rfl⟩) isF_int, ⟨fun h9 => absurd h9 (by decide), fun h9 => absurd h9 (by decide)⟩, (hv.kp [1, 1] 2 2)⟩)
 refine uG (.bool false) rfl (ex_seql rfl rfl rfl (qF hb101)) (uA rfl ?_)
 refine uW k100 (cF rfl ?_)
 refine sK fun _ k127 => rL ?_
 by_cases hb128 : name = ([83, 73, 78, 84, 69, 82, 83, 84, 79, 82, 69] : List UInt8)
 ·refine uG (.bool true) rfl (ex_seql rfl rfl rfl (qT hb128)) ?_
  subst hb128
  refine uA rfl (uW k127 ?_)
  refine cT rfl (kS ?_)
  refine tK k99 (cT rfl ?_)
  refine sK fun _ k129 => rW mixed [8] [0,1,2,3,4,5,6,7,8,9,10,11,12,13] 107 rfl (by kernel_rfl) hv ?_
  simp only [qm, opAt]
  refine dL (.agg #[vP v, .slice aa args.length ac]) rfl (fun hv => ex_load rfl rfl (lM 1 c1wd73 hv rfl rfl rfl rfl)) (dM (vS [83, 73, 78, 84, 69, 82, 83, 84, 79, 82, 69]) rfl ?_)
  refine dM (vS [83, 73, 78, 84, 69, 82, 83, 84, 79, 82, 69]) rfl ?_
  simp only [zP, po]
  refine dG (vI 11) rfl (ex_lenStr (l := ([83, 73, 78, 84, 69, 82, 83, 84, 79, 82, 69] : List UInt8)) Tryz.underlying9 rfl rfl) (dG (vI 6) rfl (ex_sub rfl rfl rfl (i64_in (by omega))) ?_)
  refine dG (vS [83, 73, 78, 84, 69, 82]) rfl (ex_slice (hi' := some (vI ((6 : Nat) : Int))) rfl rfl rfl (congrArg some rfl) rfl (run_sshT (l := ([83, 73, 78, 84, 69, 82, 83, 84, 79, 82, 69] : List UInt8)) (j := 6) Tryz.underlying9 (by decide) _)) ?_
  simp only [zP, po]
  refine dM (.slice aa args.length ac) rfl (dG (.slice a3 ((args.drop 1).length) c3) rfl (ex_slice (lo' := some (vI ((1 : Nat) : Int))) rfl rfl (congrArg some rfl) rfl rfl ((run_fromAny Tryz.underlying22 s9es22 (by omega)).trans (by rw [ha3, hd1]))) ?_)
  refine dS rfl fun w130 hv => ?_
  replace hv := hv.front 3 rfl
  simp only [eS, eZ] at hv
  replace hv := hv.front 3 rfl
  simp only [eS, eZ] at hv
  refine mC cAcallable41 rfl ((csetCombined B _ _ v t m s p wb va vc sv clk es M hM hO aa ac args ([83, 73, 78, 84, 69, 82] : List UInt8) a3 c3 (args.drop 1) hr3 (by omega) (by have := hcs (.inr (.inl rfl)); omega) hv).mono ?_) rfl
  rintro e w131 ⟨C, oa, oc, out, ec, hC, rfl, hoko, hro, hcmb, hv⟩
  have hol := hcmb.len hO
  refine ⟨_, rfl, dW hv ?_⟩
  simp only [zP, po]
  refine dM (.tuple #[.slice oa out.length oc, vI ec]) rfl (dG (.slice oa out.length oc) rfl (ex_extract rfl rfl rfl) ?_)
  refine dG (vI ec) rfl (ex_extract rfl rfl rfl) ?_
  simp only [zP, po]
  refine dA (.slice oa out.length oc) rfl (dA (vI ec) rfl ?_)
  refine dE fun w132 hv => ?_
  simp only [zP, po]
  refine tK k129 (sK fun _ k133 => ?_)
  refine sK fun _ k134 => rL (uM rfl ?_)
  by_cases hb135 : ec ≠ 0
  ·refine uG (.bool true) rfl (ex_neq rfl rfl rfl (qT hb135)) (uW k134 ?_)
   refine cT rfl (sK fun _ k136 => ?_)
   refine rL (uM rfl ?_)
   refine xC rscallable24 rfl ((viewWrong C _ _ ec hv).mono ?_) rfl
   rintro e w138 ⟨s137, rfl, hv⟩
   refine ⟨_, rfl, ?_⟩
   refine xS 2 rfl hv rssz28 rfl (by exact ⟨rfl, rfl, rfl, rfl, trivial⟩) (fun w139 hv => ?_)
   simp only [zS, zO, sp] at hv
   refine uW k136 (rR ?_)
   refine tR (bZ ?_)
   refine tR (bC 2 rswd28 hv rfl rfl rfl rfl ?_)
   exact ⟨C, es, M, (.mk 1 s137 0 []), _, hC, rfl, rpAt_leaf, hM.more hC, ⟨hO, fun _ => rfl⟩, ⟨fun h9 => absurd h9 (by decide), fun h9 => absurd h9 (by decide)⟩, (hv.kp [1, 1] 2 2)⟩
  refine uG (.bool false) rfl (ex_neq rfl rfl rfl (qF hb135)) (uW k134 ?_)
  refine cF rfl (kS ?_)
  refine tK k133 (sK fun _ k140 => ?_)
  obtain ⟨ab, ao, had, hrdkey⟩ := text_reads hra hkey
  subst had
  refine rW mixed [6, 9, 10, 11] [0,1,2,3,4,5,7,8,6,9,10,11] 107 rfl (by kernel_rfl) hv ?_
  simp only [qm, opAt]
  refine dL (.agg #[vP v, .slice (some ⟨ab, ao, none⟩) args.length ac]) rfl (fun hv => ex_load rfl rfl (lM 3 c1wd73 hv rfl rfl rfl rfl)) (dM (.slice (some ⟨ab, ao, none⟩) args.length ac) rfl ?_)
  refine dG (.pointer (some ⟨ab, ao + 0, none⟩)) rfl (ex_index rfl rfl rfl (run_idx1 (k := 0) Tryz.underlying22 s9es22 (by omega))) ?_
  simp only [zP, po]
  refine dL _ rfl (fun hv => ex_load rfl rfl (run_load1 s9na9 (hrdkey _ _ _ hC no_res hv 0 _ rfl))) (dG (.agg #[vI 0, .bool false, vI 0, vI 0, vS [], vN, vN, vN]) rfl (ex_buildN (vs := #[]) rfl (by simp only [List.map_toArray, List.map_nil]) (by kernel_rfl)) ?_)
  refine dM (.slice oa out.length oc) rfl ?_
  simp only [zP, po]
  refine dM (.slice oa out.length oc) rfl (dG (vI (out.length : Int)) rfl (ex_len0 Tryz.underlying22 rfl rfl) ?_)
  refine dS rfl fun w141 hv => ?_
  replace hv := hv.front 1 rfl
  simp only [eS, eZ] at hv
  replace hv := hv.front 1 rfl
  simp only [eS, eZ] at hv
  refine mC c1callable44 rfl ((csetKeep C _ _ v t m s p wb va vc sv clk es M (hM.more hC) hO (some ⟨ab, ao, none⟩) ac args.length key zver0 _ _ _ (zver0_at _) oa oc out hro hoko (by omega) hv).mono ?_) rfl
  rintro e w142 ⟨E, es', M', e2, hE, rfl, hM', hkp, hv⟩
  refine ⟨_, rfl, dW hv ?_⟩
  simp only [zP, po]
  refine dS rfl fun w143 hv => mC c1callable45 rfl ((respInt E _ _ (out.length : Int) hv).mono ?_) rfl
  rintro e w144 ⟨rfl, hv⟩
  refine ⟨_, rfl, dW hv ?_⟩
  refine dS rfl fun w145 hv => mC c1callable42 rfl ((viewDone E _ _ e2 2 (out.length : Int) ([] : List UInt8) (vN) rfl rfl hv).mono ?_) rfl
  rintro e w146 ⟨xr, hxr, rfl, hv⟩
  rcases hxr with ⟨hec0, rfl⟩ | ⟨hec0, s147, rfl⟩
  ·refine ⟨_, rfl, dW hv ?_⟩
   refine dS rfl fun w148 hv => mS 2 rfl hv rssz28 rfl (by exact ⟨rfl, rfl, rfl, rfl, trivial⟩) (fun w149 hv => ?_)
   simp only [zS, zO, sp] at hv
   refine dW hv (dE fun w150 hv => ?_)
   simp only [zP, po]
   refine tK k140 (rR ?_)
   refine bZ (tR ?_)
   refine bC 2 rswd28 hv rfl rfl rfl rfl (⟨E, es', M', (.mk 2 ([] : List UInt8) (out.length : Int) []), _, (hC.trans hE), rfl, rpAt_leaf, hM'.more (Base.Le.refl _), DoneR.keep (r0 := rInt (out.length : Int)) hO hkp (.inl ⟨by omega, rfl⟩) isF_int, ⟨fun h9 => absurd h9 (by decide), fun h9 => absurd h9 (by decide)⟩, (hv.kp [1, 1] 2 2)⟩)
  refine ⟨_, rfl, dW hv ?_⟩
  refine dS rfl fun w151 hv => mS 2 rfl hv rssz28 rfl (by exact ⟨rfl, rfl, rfl, rfl, trivial⟩) (fun w152 hv => ?_)
  simp only [zS, zO, sp] at hv
  refine dW hv (dE fun w153 hv => ?_)
  simp only [zP, po]
  refine tK k140 (rR ?_)
  refine bZ (tR ?_)
  refine bC 2 rswd28 hv rfl rfl rfl rfl (⟨E, es', M', (.mk 1 s147 0 []), _, (hC.trans hE), rfl, rpAt_leaf, hM'.more (Base.Le.refl _), DoneR.keep (r0 := rInt (out.length : Int)) hO hkp (.inr ⟨by omega, rfl⟩) isF_int, ⟨fun h9 => absurd h9 (by decide), fun h9 => absurd h9 (by decide)⟩, (hv.kp [1, 1] 2 2)⟩)
 refine uG (.bool false) rfl (ex_seql rfl rfl rfl (qF hb128)) (uA rfl ?_)
 refine uW k127 (cF rfl ?_)
 refine rL ?_
 by_cases hb154 : name = ([83, 85, 78, 73, 79, 78, 83, 84, 79, 82, 69] : List UInt8)
 ·refine uG (.bool true) rfl (ex_seql rfl rfl rfl (qT hb154)) ?_
  subst hb154
  refine uA rfl (uW k99 ?_)
  refine cT rfl (sK fun _ k155 => ?_)
  refine rW mixed [8] [0,1,2,3,4,5,6,7,8,9,10,11,12,13] 107 rfl (by kernel_rfl) hv ?_
  simp only [qm, opAt]
  refine dL (.agg #[vP v, .slice aa args.length ac]) rfl (fun hv => ex_load rfl rfl (lM 1 c1wd73 hv rfl rfl rfl rfl)) (dM (vS [83, 85, 78, 73, 79, 78, 83, 84, 79, 82, 69]) rfl ?_)
  refine dM (vS [83, 85, 78, 73, 79, 78, 83, 84, 79, 82, 69]) rfl ?_
  simp only [zP, po]
  refine dG (vI 11) rfl (ex_lenStr (l := ([83, 85, 78, 73, 79, 78, 83, 84, 79, 82, 69] : List UInt8)) Tryz.underlying9 rfl rfl) (dG (vI 6) rfl (ex_sub rfl rfl rfl (i64_in (by omega))) ?_)
  refine dG (vS [83, 85, 78, 73, 79, 78]) rfl (ex_slice (hi' := some (vI ((6 : Nat) : Int))) rfl rfl rfl (congrArg some rfl) rfl (run_sshT (l := ([83, 85, 78, 73, 79, 78, 83, 84, 79, 82, 69] : List UInt8)) (j := 6) Tryz.underlying9 (by decide) _)) ?_
  simp only [zP, po]
  refine dM (.slice aa args.length ac) rfl (dG (.slice a3 ((args.drop 1).length) c3) rfl (ex_slice (lo' := some (vI ((1 : Nat) : Int))) rfl rfl (congrArg some rfl) rfl rfl ((run_fromAny Tryz.underlying22 s9es22 (by omega)).trans (by rw [ha3, hd1]))) ?_)
  refine dS rfl fun w156 hv => ?_
  replace hv := hv.front 3 rfl
  simp only [eS, eZ] at hv
  replace hv := hv.front 3 rfl
  simp only [eS, eZ] at hv
  refine mC cAcallable41 rfl ((csetCombined B _ _ v t m s p wb va vc sv clk es M hM hO aa ac args ([83, 85, 78, 73, 79, 78] : List UInt8) a3 c3 (args.drop 1) hr3 (by omega) (by have := hcs (.inr (.inr rfl)); omega) hv).mono ?_) rfl
  rintro e w157 ⟨C, oa, oc, out, ec, hC, rfl, hoko, hro, hcmb, hv⟩
  have hol := hcmb.len hO
  refine ⟨_, rfl, dW hv ?_⟩
  simp only [zP, po]
  refine dM (.tuple #[.slice oa out.length oc, vI ec]) rfl (dG (.slice oa out.length oc) rfl (ex_extract rfl rfl rfl) ?_)
  refine dG (vI ec) rfl (ex_extract rfl rfl rfl) ?_
  simp only [zP, po]
  refine dA (.slice oa out.length oc) rfl (dA (vI ec) rfl ?_)
  refine dE fun w158 hv => ?_
  simp only [zP, po]
  refine tK k155 (sK fun _ k159 => ?_)
  refine sK fun _ k160 => rL (uM rfl ?_)
  by_cases hb161 : ec ≠ 0
  ·refine uG (.bool true) rfl (ex_neq rfl rfl rfl (qT hb161)) (uW k160 ?_)
   refine cT rfl (sK fun _ k162 => ?_)
   refine rL (uM rfl ?_)
   refine xC rscallable24 rfl ((viewWrong C _ _ ec hv).mono ?_) rfl
   rintro e w164 ⟨s163, rfl, hv⟩
   refine ⟨_, rfl, ?_⟩
   refine xS 2 rfl hv rssz28 rfl (by exact ⟨rfl, rfl, rfl, rfl, trivial⟩) (fun w165 hv => ?_)
   simp only [zS, zO, sp] at hv
   refine uW k162 (rR ?_)
   refine tR (bZ ?_)
   refine tR (bC 2 rswd28 hv rfl rfl rfl rfl ?_)
   exact ⟨C, es, M, (.mk 1 s163 0 []), _, hC, rfl, rpAt_leaf, hM.more hC, ⟨hO, fun _ => rfl⟩, ⟨fun h9 => absurd h9 (by decide), fun h9 => absurd h9 (by decide)⟩, (hv.kp [1, 1] 2 2)⟩
  refine uG (.bool false) rfl (ex_neq rfl rfl rfl (qF hb161)) (uW k160 ?_)
  refine cF rfl (kS ?_)
  refine tK k159 (sK fun _ k166 => ?_)
  obtain ⟨ab, ao, had, hrdkey⟩ := text_reads hra hkey
  subst had
  refine rW mixed [6, 9, 10, 11] [0,1,2,3,4,5,7,8,6,9,10,11] 107 rfl (by kernel_rfl) hv ?_
  simp only [qm, opAt]
  refine dL (.agg #[vP v, .slice (some ⟨ab, ao, none⟩) args.length ac]) rfl (fun hv => ex_load rfl rfl (lM 3 c1wd73 hv rfl rfl rfl rfl)) (dM (.slice (some ⟨ab, ao, none⟩) args.length ac) rfl ?_)
  refine dG (.pointer (some ⟨ab, ao + 0, none⟩)) rfl (ex_index rfl rfl rfl (run_idx1 (k := 0) Tryz.underlying22 s9es22 (by omega))) ?_
  simp only [zP, po]
  refine dL _ rfl (fun hv => ex_load rfl rfl (run_load1 s9na9 (hrdkey _ _ _ hC no_res hv 0 _ rfl))) (dG (.agg #[vI 0, .bool false, vI 0, vI 0, vS [], vN, vN, vN]) rfl (ex_buildN (vs := #[]) rfl (by simp only [List.map_toArray, List.map_nil]) (by kernel_rfl)) ?_)
  refine dM (.slice oa out.length oc) rfl ?_
  simp only [zP, po]
  refine dM (.slice oa out.length oc) rfl (dG (vI (out.length : Int)) rfl (ex_len0 Tryz.underlying22 rfl rfl) ?_)
  refine dS rfl fun w167 hv => ?_
  replace hv := hv.front 1 rfl
  simp only [eS, eZ] at hv
  replace hv := hv.front 1 rfl
  simp only [eS, eZ] at hv
  refine mC c1callable44 rfl ((csetKeep C _ _ v t m s p wb va vc sv clk es M (hM.more hC) hO (some ⟨ab, ao, none⟩) ac args.length key zver0 _ _ _ (zver0_at _) oa oc out hro hoko (by omega) hv).mono ?_) rfl
  rintro e w168 ⟨E, es', M', e2, hE, rfl, hM', hkp, hv⟩
  refine ⟨_, rfl, dW hv ?_⟩
  simp only [zP, po]
  refine dS rfl fun w169 hv => mC c1callable45 rfl ((respInt E _ _ (out.length : Int) hv).mono ?_) rfl
  rintro e w170 ⟨rfl, hv⟩
  refine ⟨_, rfl, dW hv ?_⟩
  refine dS rfl fun w171 hv => mC c1callable42 rfl ((viewDone E _ _ e2 2 (out.length : Int) ([] : List UInt8) (vN) rfl rfl hv).mono ?_) rfl
  rintro e w172 ⟨xr, hxr, rfl, hv⟩
  rcases hxr with ⟨hec0, rfl⟩ | ⟨hec0, s173, rfl⟩
  ·refine ⟨_, rfl, dW hv ?_⟩
   refine dS rfl fun w174 hv => mS 2 rfl hv rssz28 rfl (by exact ⟨rfl, rfl, rfl, rfl, trivial⟩) (fun w175 hv => ?_)
   simp only [zS, zO, sp] at hv
   refine dW hv (dE fun w176 hv => ?_)
   simp only [zP, po]
   refine tK k166 (rR ?_)
   refine bZ (tR ?_)
   refine bC 2 rswd28 hv rfl rfl rfl rfl (⟨E, es', M', (.mk 2 ([] : List UInt8) (out.length : Int) []), _, (hC.trans hE), rfl, rpAt_leaf, hM'.more (Base.Le.refl _), DoneR.keep (r0 := rInt (out.length : Int)) hO hkp (.inl ⟨by omega, rfl⟩) isF_int, ⟨fun h9 => absurd h9 (by decide), fun h9 => absurd h9 (by decide)⟩, (hv.kp [1, 1] 2 2)⟩)
  refine ⟨_, rfl, dW hv ?_⟩
  refine dS rfl fun w177 hv => mS 2 rfl hv rssz28 rfl (by exact ⟨rfl, rfl, rfl, rfl, trivial⟩) (fun w178 hv => ?_)
  simp only [zS, zO, sp] at hv
  refine dW hv (dE fun w179 hv => ?_)
  simp only [zP, po]
  refine tK k166 (rR ?_)
  refine bZ (tR ?_)
  refine bC 2 rswd28 hv rfl rfl rfl rfl (⟨E, es', M', (.mk 1 s173 0 []), _, (hC.trans hE), rfl, rpAt_leaf, hM'.more (Base.Le.refl _), DoneR.keep (r0 := rInt (out.length : Int)) hO hkp (.inr ⟨by omega, rfl⟩) isF_int, ⟨fun h9 => absurd h9 (by decide), fun h9 => absurd h9 (by decide)⟩, (hv.kp [1, 1] 2 2)⟩)
 refine uG (.bool false) rfl (ex_seql rfl rfl rfl (qF hb154)) (uA rfl ?_)
 refine uW k99 (cF rfl ?_)
 refine sK fun _ k180 => rL ?_
 by_cases hb181 : name = ([83, 73, 78, 84, 69, 82, 67, 65, 82, 68] : List UInt8)
 ·refine uG (.bool true) rfl (ex_seql rfl rfl rfl (qT hb181)) (uA rfl ?_)
  refine uW k180 (cT rfl ?_)
  refine sK fun _ k182 => rW mixed [3, 4] [0,1,2,3,4] 107 rfl (by kernel_rfl) hv ?_
  simp only [qm, opAt]
  refine dL (.agg #[vP v, .slice aa args.length ac]) rfl (fun hv => ex_load rfl rfl (lM 1 c1wd73 hv rfl rfl rfl rfl)) (dM (.slice aa args.length ac) rfl ?_)
  refine dG (.slice a3 ((args.drop 1).length) c3) rfl (ex_slice (lo' := some (vI ((1 : Nat) : Int))) rfl rfl (congrArg some rfl) rfl rfl ((run_fromAny Tryz.underlying22 s9es22 (by omega)).trans (by rw [ha3, hd1]))) ?_
  simp only [zP, po]
  refine dS rfl fun w183 hv => ?_
  replace hv := hv.front 3 rfl
  simp only [eS, eZ] at hv
  replace hv := hv.front 3 rfl
  simp only [eS, eZ] at hv
  refine mC cAcallable46 rfl ((csetCommon B _ _ v t m s p wb va vc sv clk es M hM hO aa ac args hra hoka (by omega) key hkey a3 c3 (args.drop 1) ok3 hr3 (by omega) hxd hN hv).mono ?_) rfl
  rintro e w184 ⟨C, r, cs, hC, rfl, hrp, -, hv⟩
  have hcmd : CmdR M M r := ⟨hO, fun _ => rfl⟩
  obtain ⟨rk, rs, rn, rv, rfl⟩ := rp_parts hrp
  refine ⟨_, rfl, dW hv ?_⟩
  refine dS rfl fun w185 hv => mS 2 rfl hv rssz28 rfl (by exact ⟨rfl, rfl, rfl, hrp.lv.2, trivial⟩) (fun w186 hv => ?_)
  simp only [zS, zO, sp] at hv
  refine dW hv (dE fun w187 hv => ?_)
  simp only [zP, po]
  refine tK k182 (rR ?_)
  refine bZ (tR ?_)
  refine bC 2 rswd28 hv rfl rfl rfl rfl (⟨C, es, M, r, _, hC, rfl, hrp, hM.more hC, hcmd, ⟨fun h9 => by rw [hb181] at h9; exact absurd h9 (by decide), fun h9 => by rw [hb181] at h9; exact absurd h9 (by decide)⟩, (hv.kp [1, 1] 2 2)⟩)
 refine uG (.bool false) rfl (ex_seql rfl rfl rfl (qF hb181)) (uA rfl ?_)
 refine uW k180 (cF rfl ?_)
 refine sK fun _ k188 => rL ?_
 by_cases hb189 : name = ([83, 77, 79, 86, 69] : List UInt8)
 ·refine uG (.bool true) rfl (ex_seql rfl rfl rfl (qT hb189)) (uA rfl ?_)
  refine uW k188 (cT rfl ?_)
  refine sK fun _ k190 => ?_
  have hal3 := hc3 hb189
  obtain ⟨ab, ao, had, hrdkey⟩ := text_reads hra hkey
  subst had
  obtain ⟨k1, hk1⟩ : ∃ x, args[1]? = some x := ⟨_, List.getElem?_eq_getElem (show 1 < args.length by omega)⟩
  obtain ⟨b9, o9, had9, hrdk1⟩ := text_reads hra hk1
  cases had9
  obtain ⟨k2, hk2⟩ : ∃ x, args[2]? = some x := ⟨_, List.getElem?_eq_getElem (show 2 < args.length by omega)⟩
  obtain ⟨b9, o9, had9, hrdk2⟩ := text_reads hra hk2
  cases had9
  refine rW mixed [10, 11] [0,1,2,3,4,5,6,7,8,9,10,11] 107 rfl (by kernel_rfl) hv ?_
  simp only [qm, opAt]
  refine dL (.agg #[vP v, .slice (some ⟨ab, ao, none⟩) args.length ac]) rfl (fun hv => ex_load rfl rfl (lM 1 c1wd73 hv rfl rfl rfl rfl)) (dM (.slice (some ⟨ab, ao, none⟩) args.length ac) rfl ?_)
  refine dG (.pointer (some ⟨ab, ao + 0, none⟩)) rfl (ex_index rfl rfl rfl (run_idx1 (k := 0) Tryz.underlying22 s9es22 (by omega))) ?_
  simp only [zP, po]
  refine dL _ rfl (fun hv => ex_load rfl rfl (run_load1 s9na9 (hrdkey _ _ _ (Base.Le.refl _) no_res hv 0 _ rfl))) (dM (.slice (some ⟨ab, ao, none⟩) args.length ac) rfl ?_)
  refine dG (.pointer (some ⟨ab, ao + 1, none⟩)) rfl (ex_index rfl rfl rfl (run_idx1 (k := 1) Tryz.underlying22 s9es22 (by omega))) ?_
  simp only [zP, po]
  refine dL _ rfl (fun hv => ex_load rfl rfl (run_load1 s9na9 (hrdk1 _ _ _ (Base.Le.refl _) no_res hv 0 _ rfl))) (dM (.slice (some ⟨ab, ao, none⟩) args.length ac) rfl ?_)
  refine dG (.pointer (some ⟨ab, ao + 2, none⟩)) rfl (ex_index rfl rfl rfl (run_idx1 (k := 2) Tryz.underlying22 s9es22 (by omega))) ?_
  simp only [zP, po]
  refine dL _ rfl (fun hv => ex_load rfl rfl (run_load1 s9na9 (hrdk2 _ _ _ (Base.Le.refl _) no_res hv 0 _ rfl))) (dS rfl fun w191 hv => ?_)
  replace hv := hv.front 3 rfl
  simp only [eS, eZ] at hv
  replace hv := hv.front 3 rfl
  simp only [eS, eZ] at hv
  refine mC cAcallable47 rfl ((csetMove B _ _ v t m s p wb va vc sv clk es M hM hO (some ⟨ab, ao, none⟩) ac args key k1 k2 hv).mono ?_) rfl
  rintro e w192 ⟨C, es', M', r, cs, hC, rfl, hrp, hM', hO', hrel, hv⟩
  have hcmd : CmdR M M' r := hrel.cmd hO
  obtain ⟨rk, rs, rn, rv, rfl⟩ := rp_parts hrp
  refine ⟨_, rfl, dW hv ?_⟩
  refine dS rfl fun w193 hv => mS 2 rfl hv rssz28 rfl (by exact ⟨rfl, rfl, rfl, hrp.lv.2, trivial⟩) (fun w194 hv => ?_)
  simp only [zS, zO, sp] at hv
  refine dW hv (dE fun w195 hv => ?_)
  simp only [zP, po]
  refine tK k190 (rR ?_)
  refine bZ (tR ?_)
  refine bC 2 rswd28 hv rfl rfl rfl rfl (⟨C, es', M', r, _, hC, rfl, hrp, hM', hcmd, ⟨fun h9 => by rw [hb189] at h9; exact absurd h9 (by decide), fun h9 => by rw [hb189] at h9; exact absurd h9 (by decide)⟩, (hv.kp [1, 1] 2 2)⟩)
 refine uG (.bool false) rfl (ex_seql rfl rfl rfl (qF hb189)) (uA rfl ?_)
 refine uW k188 (cF rfl ?_)
 refine sK fun _ k196 => rL ?_
 by_cases hb197 : name = ([83, 80, 79, 80] : List UInt8)
 ·refine uG (.bool true) rfl (ex_seql rfl rfl rfl (qT hb197)) (uA rfl ?_)
  refine uW k196 (cT rfl ?_)
  refine sK fun _ k198 => rW mixed [3, 4] [0,1,2,3,4] 107 rfl (by kernel_rfl) hv ?_
  simp only [qm, opAt]
  refine dL (.agg #[vP v, .slice aa args.length ac]) rfl (fun hv => ex_load rfl rfl (lM 1 c1wd73 hv rfl rfl rfl rfl)) (dM (.slice aa args.length ac) rfl ?_)
  refine dG (.slice a3 ((args.drop 1).length) c3) rfl (ex_slice (lo' := some (vI ((1 : Nat) : Int))) rfl rfl (congrArg some rfl) rfl rfl ((run_fromAny Tryz.underlying22 s9es22 (by omega)).trans (by rw [ha3, hd1]))) ?_
  simp only [zP, po]
  refine dS rfl fun w199 hv => ?_
  replace hv := hv.front 3 rfl
  simp only [eS, eZ] at hv
  replace hv := hv.front 3 rfl
  simp only [eS, eZ] at hv
  refine mC cAcallable48 rfl ((csetPop B _ _ v t m s p wb va vc sv clk es M hM hO aa ac args hra hoka (by omega) key hkey a3 c3 (args.drop 1) ok3 hr3 (by omega) hN hv).mono ?_) rfl
  rintro e w200 ⟨C, es', M', r, cs, hC, rfl, hrp, hM', hcm, hv⟩
  have hcmd : CmdR M M' r := hcm
  obtain ⟨rk, rs, rn, rv, rfl⟩ := rp_parts hrp
  refine ⟨_, rfl, dW hv ?_⟩
  refine dS rfl fun w201 hv => mS 2 rfl hv rssz28 rfl (by exact ⟨rfl, rfl, rfl, hrp.lv.2, trivial⟩) (fun w202 hv => ?_)
  simp only [zS, zO, sp] at hv
  refine dW hv (dE fun w203 hv => ?_)
  simp only [zP, po]
  refine tK k198 (rR ?_)
  refine bZ (tR ?_)
  refine bC 2 rswd28 hv rfl rfl rfl rfl (⟨C, es', M', r, _, hC, rfl, hrp, hM', hcmd, ⟨fun h9 => by rw [hb197] at h9; exact absurd h9 (by decide), fun h9 => by rw [hb197] at h9; exact absurd h9 (by decide)⟩, (hv.kp [1, 1] 2 2)⟩)
 refine uG (.bool false) rfl (ex_seql rfl rfl rfl (qF hb197)) (uA rfl ?_)
 refine uW k196 (cF rfl ?_)
 refine kS (bN ?_)
 refine tK k7 (sK fun _ k204 => ?_)
 refine rW mixed [3, 4] [0,1,2,3,4] 107 rfl (by kernel_rfl) hv ?_
 simp only [qm, opAt]
 refine dL (.agg #[vP v, .slice aa args.length ac]) rfl (fun hv => ex_load rfl rfl (lM 1 c1wd73 hv rfl rfl rfl rfl)) (dM (.slice aa args.length ac) rfl ?_)
 refine dG (.slice a3 ((args.drop 1).length) c3) rfl (ex_slice (lo' := some (vI ((1 : Nat) : Int))) rfl rfl (congrArg some rfl) rfl rfl ((run_fromAny Tryz.underlying22 s9es22 (by omega)).trans (by rw [ha3, hd1]))) ?_
 simp only [zP, po]
 refine dS rfl fun w205 hv => ?_
 replace hv := hv.front 3 rfl
 simp only [eS, eZ] at hv
 replace hv := hv.front 3 rfl
 simp only [eS, eZ] at hv
 refine mC cAcallable49 rfl ((csetScan B _ _ v t m s p wb va vc sv clk es M hM hO aa ac args hra hoka (by omega) key hkey a3 c3 (args.drop 1) ok3 hr3 (by omega) hxd (hsm.imp (fun h9 x hx => h9 x (List.mem_of_mem_drop hx)) id) hN hv).mono ?_) rfl
 rintro e w206 ⟨C, es', M', r, cs, hC, rfl, hrp, hM', hcm, hv⟩
 have hcmd : CmdR M M' r := hcm
 obtain ⟨rk, rs, rn, rv, rfl⟩ := rp_parts hrp
 refine ⟨_, rfl, dW hv ?_⟩
 refine dS rfl fun w207 hv => mS 2 rfl hv rssz28 rfl (by exact ⟨rfl, rfl, rfl, hrp.lv.2, trivial⟩) (fun w208 hv => ?_)
 simp only [zS, zO, sp] at hv
 refine dW hv (dE fun w209 hv => ?_)
 simp only [zP, po]
 refine tK k204 (rR ?_)
 refine bC 2 rswd28 hv rfl rfl rfl rfl (⟨C, es', M', r, _, hC, rfl, hrp, hM', hcmd, ⟨fun h9 => absurd h9 hb11, fun h9 => absurd h9 hb59⟩, (hv.kp [1, 1] 2 2)⟩)
abbrev GRow := List UInt8 × Int × Int
def gRows : List GRow := [([83, 65, 68, 68], 2, (-1)), ([83, 67, 65, 82, 68], 1, 1), ([83, 68, 73, 70, 70], 1, (-1)), ([83, 68, 73, 70, 70, 83, 84, 79, 82, 69], 2, (-1)), ([83, 73, 78, 84, 69, 82], 1, (-1)), ([83, 73, 78, 84, 69, 82, 67, 65, 82, 68], 2, (-1)), ([83, 73, 78, 84, 69, 82, 83, 84, 79, 82, 69], 2, (-1)), ([83, 73, 83, 77, 69, 77, 66, 69, 82], 2, 2), ([83, 77, 69, 77, 66, 69, 82, 83], 1, 1), ([83, 77, 73, 83, 77, 69, 77, 66, 69, 82], 2, (-1)), ([83, 77, 79, 86, 69], 3, 3), ([83, 80, 79, 80], 1, 2), ([83, 82, 69, 77], 2, (-1)), ([83, 83, 67, 65, 78], 2, (-1)), ([83, 85, 78, 73, 79, 78], 1, (-1)), ([83, 85, 78, 73, 79, 78, 83, 84, 79, 82, 69], 2, (-1))]
def gNames : List (List UInt8) := gRows.map (·.1)
abbrev gRowF (x : GRow) : List Value := [strV x.1, vI x.2.1, vI x.2.2]
theorem gRow_reads {B : Base} {l : List GRow} {ad : Option Addr} {i : Nat} {x : GRow} (hr : RdV B [] ad (l.flatMap gRowF)) (hx : l[i]? = some x) : ∃ b off, ad = some ⟨b, off, none⟩ ∧ Reads B [] b (off + i * 3) (gRowF x) := rowk_reads (k := 3) (fun _ => rfl) (by decide) hr hx
theorem gRows_len : gRows.length = 16 := rfl
theorem gNames_len : gNames.length = 16 := rfl
theorem gRows_inj : ∀ x ∈ gRows, ∀ y ∈ gRows, x.1 = y.1 → x = y := by decide
theorem gRowsC (B : Base) (H : List Res) (w : World) (hv : Inv B H w) :
  Calls Tryz.prog 25 #[] w fun e w' => ∃ C ra rc, B.Le C ∧ e = .returned (.slice ra gRows.length rc) ∧ RdV C [] ra (gRows.flatMap gRowF) ∧ Inv C H w' := by
 refine cW Tryz.func25 rfl Tryz.ntmps25 ?_
 simp only [al]
 refine sK fun _ k1 => rL (uA rfl ?_)
 refine uW k1 (sK fun _ k2 => ?_)
 refine rL (uG (.agg #[vS [83, 65, 68, 68], vI 2, vI (-1)]) rfl (ex_buildN (vs := #[(0, vS [83, 65, 68, 68]), (1, vI 2), (2, vI (-1))]) rfl (by simp only [List.map_toArray, List.map_cons, List.map_nil]; rfl) (by kernel_rfl)) ?_)
 refine uG (.agg #[vS [83, 67, 65, 82, 68], vI 1, vI 1]) rfl (ex_buildN (vs := #[(0, vS [83, 67, 65, 82, 68]), (1, vI 1), (2, vI 1)]) rfl (by simp only [List.map_toArray, List.map_cons, List.map_nil]; rfl) (by kernel_rfl)) ?_
 refine uG (.agg #[vS [83, 68, 73, 70, 70], vI 1, vI (-1)]) rfl (ex_buildN (vs := #[(0, vS [83, 68, 73, 70, 70]), (1, vI 1), (2, vI (-1))]) rfl (by simp only [List.map_toArray, List.map_cons, List.map_nil]; rfl) (by kernel_rfl)) ?_
 refine uG (.agg #[vS [83, 68, 73, 70, 70, 83, 84, 79, 82, 69], vI 2, vI (-1)]) rfl (ex_buildN (vs := #[(0, vS [83, 68, 73, 70, 70, 83, 84, 79, 82, 69]), (1, vI 2), (2, vI (-1))]) rfl (by simp only [List.map_toArray, List.map_cons, List.map_nil]; rfl) (by kernel_rfl)) ?_
 refine uG (.agg #[vS [83, 73, 78, 84, 69, 82], vI 1, vI (-1)]) rfl (ex_buildN (vs := #[(0, vS [83, 73, 78, 84, 69, 82]), (1, vI 1), (2, vI (-1))]) rfl (by simp only [List.map_toArray, List.map_cons, List.map_nil]; rfl) (by kernel_rfl)) ?_
 refine uG (.agg #[vS [83, 73, 78, 84, 69, 82, 67, 65, 82, 68], vI 2, vI (-1)]) rfl (ex_buildN (vs := #[(0, vS [83, 73, 78, 84, 69, 82, 67, 65, 82, 68]), (1, vI 2), (2, vI (-1))]) rfl (by simp only [List.map_toArray, List.map_cons, List.map_nil]; rfl) (by kernel_rfl)) ?_
 refine uG (.agg #[vS [83, 73, 78, 84, 69, 82, 83, 84, 79, 82, 69], vI 2, vI (-1)]) rfl (ex_buildN (vs := #[(0, vS [83, 73, 78, 84, 69, 82, 83, 84, 79, 82, 69]), (1, vI 2), (2, vI (-1))]) rfl (by simp only [List.map_toArray, List.map_cons, List.map_nil]; rfl) (by kernel_rfl)) ?_
 refine uG (.agg #[vS [83, 73, 83, 77, 69, 77, 66, 69, 82], vI 2, vI 2]) rfl (ex_buildN (vs := #[(0, vS [83, 73, 83, 77, 69, 77, 66, 69, 82]), (1, vI 2), (2, vI 2)]) rfl (by simp only [List.map_toArray, List.map_cons, List.map_nil]; rfl) (by kernel_rfl)) ?_
 refine uG (.agg #[vS [83, 77, 69, 77, 66, 69, 82, 83], vI 1, vI 1]) rfl (ex_buildN (vs := #[(0, vS [83, 77, 69, 77, 66, 69, 82, 83]), (1, vI 1), (2, vI 1)]) rfl (by simp only [List.map_toArray, List.map_cons, List.map_nil]; rfl) (by kernel_rfl)) ?_
 refine uG (.agg #[vS [83, 77, 73, 83, 77, 69, 77, 66, 69, 82], vI 2, vI (-1)]) rfl (ex_buildN (vs := #[(0, vS [83, 77, 73, 83, 77, 69, 77, 66, 69, 82]), (1, vI 2), (2, vI (-1))]) rfl (by simp only [List.map_toArray, List.map_cons, List.map_nil]; rfl) (by kernel_rfl)) ?_
 refine uG (.agg #[vS [83, 77, 79, 86, 69], vI 3, vI 3]) rfl (ex_buildN (vs := #[(0, vS [83, 77, 79, 86, 69]), (1, vI 3), (2, vI 3)]) rfl (by simp only [List.map_toArray, List.map_cons, List.map_nil]; rfl) (by kernel_rfl)) ?_
 refine uG (.agg #[vS [83, 80, 79, 80], vI 1, vI 2]) rfl (ex_buildN (vs := #[(0, vS [83, 80, 79, 80]), (1, vI 1), (2, vI 2)]) rfl (by simp only [List.map_toArray, List.map_cons, List.map_nil]; rfl) (by kernel_rfl)) ?_
 refine uG (.agg #[vS [83, 82, 69, 77], vI 2, vI (-1)]) rfl (ex_buildN (vs := #[(0, vS [83, 82, 69, 77]), (1, vI 2), (2, vI (-1))]) rfl (by simp only [List.map_toArray, List.map_cons, List.map_nil]; rfl) (by kernel_rfl)) ?_
 refine uG (.agg #[vS [83, 83, 67, 65, 78], vI 2, vI (-1)]) rfl (ex_buildN (vs := #[(0, vS [83, 83, 67, 65, 78]), (1, vI 2), (2, vI (-1))]) rfl (by simp only [List.map_toArray, List.map_cons, List.map_nil]; rfl) (by kernel_rfl)) ?_
 refine uG (.agg #[vS [83, 85, 78, 73, 79, 78], vI 1, vI (-1)]) rfl (ex_buildN (vs := #[(0, vS [83, 85, 78, 73, 79, 78]), (1, vI 1), (2, vI (-1))]) rfl (by simp only [List.map_toArray, List.map_cons, List.map_nil]; rfl) (by kernel_rfl)) ?_
 refine uG (.agg #[vS [83, 85, 78, 73, 79, 78, 83, 84, 79, 82, 69], vI 2, vI (-1)]) rfl (ex_buildN (vs := #[(0, vS [83, 85, 78, 73, 79, 78, 83, 84, 79, 82, 69]), (1, vI 2), (2, vI (-1))]) rfl (by simp only [List.map_toArray, List.map_cons, List.map_nil]; rfl) (by kernel_rfl)) ?_
 refine sl_rowN (pv := #[(0, .agg #[vS [83, 65, 68, 68], vI 2, vI (-1)]), (1, .agg #[vS [83, 67, 65, 82, 68], vI 1, vI 1]), (2, .agg #[vS [83, 68, 73, 70, 70], vI 1, vI (-1)]), (3, .agg #[vS [83, 68, 73, 70, 70, 83, 84, 79, 82, 69], vI 2, vI (-1)]), (4, .agg #[vS [83, 73, 78, 84, 69, 82], vI 1, vI (-1)]), (5, .agg #[vS [83, 73, 78, 84, 69, 82, 67, 65, 82, 68], vI 2, vI (-1)]), (6, .agg #[vS [83, 73, 78, 84, 69, 82, 83, 84, 79, 82, 69], vI 2, vI (-1)]), (7, .agg #[vS [83, 73, 83, 77, 69, 77, 66, 69, 82], vI 2, vI 2]), (8, .agg #[vS [83, 77, 69, 77, 66, 69, 82, 83], vI 1, vI 1]), (9, .agg #[vS [83, 77, 73, 83, 77, 69, 77, 66, 69, 82], vI 2, vI (-1)]), (10, .agg #[vS [83, 77, 79, 86, 69], vI 3, vI 3]), (11, .agg #[vS [83, 80, 79, 80], vI 1, vI 2]), (12, .agg #[vS [83, 82, 69, 77], vI 2, vI (-1)]), (13, .agg #[vS [83, 83, 67, 65, 78], vI 2, vI (-1)]), (14, .agg #[vS [83, 85, 78, 73, 79, 78], vI 1, vI (-1)]), (15, .agg #[vS [83, 85, 78, 73, 79, 78, 83, 84, 79, 82, 69], vI 2, vI (-1)])]) (L := [vS [83, 65, 68, 68], vI 2, vI (-1), vS [83, 67, 65, 82, 68], vI 1, vI 1, vS [83, 68, 73, 70, 70], vI 1, vI (-1), vS [83, 68, 73, 70, 70, 83, 84, 79, 82, 69], vI 2, vI (-1), vS [83, 73, 78, 84, 69, 82], vI 1, vI (-1), vS [83, 73, 78, 84, 69, 82, 67, 65, 82, 68], vI 2, vI (-1), vS [83, 73, 78, 84, 69, 82, 83, 84, 79, 82, 69], vI 2, vI (-1), vS [83, 73, 83, 77, 69, 77, 66, 69, 82], vI 2, vI 2, vS [83, 77, 69, 77, 66, 69, 82, 83], vI 1, vI 1, vS [83, 77, 73, 83, 77, 69, 77, 66, 69, 82], vI 2, vI (-1), vS [83, 77, 79, 86, 69], vI 3, vI 3, vS [83, 80, 79, 80], vI 1, vI 2, vS [83, 82, 69, 77], vI 2, vI (-1), vS [83, 83, 67, 65, 78], vI 2, vI (-1), vS [83, 85, 78, 73, 79, 78], vI 1, vI (-1), vS [83, 85, 78, 73, 79, 78, 83, 84, 79, 82, 69], vI 2, vI (-1)]) (e := 71) tV (wn rfl) rfl (by simp only [List.map_toArray, List.map_cons, List.map_nil]; rfl) hv (fun w => by kernel_rfl) (fun b3 w4 hv => ?_)
 refine uA rfl (uW k2 ?_)
 refine rR (bR rfl rfl ?_)
 obtain ⟨C, hC, hv, hr, -, -⟩ := (hv.cellRow (n := 16) (c := 16) (size := 3) rfl (by decide) (by decide)).rowBy
 exact ⟨C, _, _, hC, rfl, hr, hv⟩
theorem gBcallable25 : Callable Tryz.prog 25 := cb Tryz.func25 (by kernel_rfl)
theorem gBmk9 : (Tryz.prog.info? 9).map (fun i => (i.zero, i.size, i.bytes)) = some (some (vS []), 1, 16) := by kernel_rfl
theorem gBel22 : Elem Tryz.prog 22 9 (vS []) 1 16 := elem_of Tryz.underlying22 gBmk9 (by rfl) (by decide)
theorem gBes68 (w : World) : (sizeOf (Tryz.prog.elem 68)).run Tryz.prog w = .ok 3 w := by kernel_rfl
theorem gBwd71 : Wide Tryz.prog 71 3 := wide_of (fun w => by kernel_rfl) (by kernel_rfl)
theorem gBal71 : AL Tryz.prog 71 [vS [], vI 0, vI 0] := fun w => by kernel_rfl
theorem gBsz71 : (Tryz.prog.info? 71).map (·.size) = some 3 := by kernel_rfl
theorem gBfa71_0 : FA Tryz.prog 71 0 0 := fun w b o => by kernel_rfl
theorem gNamesC (B : Base) (H : List Res) (w : World) (hv : Inv B H w) :
  Calls Tryz.prog 13 #[] w fun e w' => ∃ C na nc, B.Le C ∧ e = .returned (.slice na gNames.length nc) ∧ RdV C [] na (textCells gNames) ∧ SliceOk na gNames.length nc ∧ Inv C H w' := by
 refine cW Tryz.func13 rfl Tryz.ntmps13 ?_
 simp only [al]
 refine sK fun _ k1 => rL (uA rfl ?_)
 refine uW k1 (sK fun _ k2 => ?_)
 refine rL (xC gBcallable25 rfl ((gRowsC B _ _ hv).mono ?_) rfl)
 rintro e w3 ⟨C, ra, rc, hC, rfl, hrr, hv⟩
 refine ⟨_, rfl, uA rfl ?_⟩
 refine uW k2 (sK fun _ k4 => ?_)
 have hrl := gRows_len
 refine rL (uM rfl ?_)
 refine uG (vI (gRows.length : Int)) rfl (ex_len0 Tryz.underlying68 rfl rfl) ?_
 refine sl_makeRow (cap := gRows.length) tV (wn rfl) rfl rfl rfl gBel22 (by unfold maxLen; omega) (by omega) hv (fun b5 w6 hv => ?_)
 refine uA rfl (uW k4 ?_)
 refine sK fun _ k7 => sK fun _ k8 => rL (uM rfl ?_)
 refine uG (vI (gRows.length : Int)) rfl (ex_len0 Tryz.underlying68 rfl rfl) (uM rfl ?_)
 refine uW k8 (bB ?_)
 gi_loopw [2, 11] (fun x2 x11 wr => ∃ (i : Nat) (na : Option Addr) (nc : Nat), x2 = .slice na i nc ∧ x11 = vI i ∧ i ≤ gRows.length ∧ Inv C (Res.row 9 1 (.slice na i nc) i (textCells (gNames.take i)) :: H) wr) (fun x2 x11 _ => gRows.length - (intOf x11).toNat)
 case atStart => exact ⟨0, _, _, rfl, rfl, Nat.zero_le _, hv⟩
 case round =>
  obtain ⟨i, na, nc, rfl, rfl, hi, hv⟩ := hrel
  refine sK fun _ k10 => rL ?_
  by_cases hb11 : (i : Int) < (gRows.length : Int)
  ·refine uG (.bool true) rfl (ex_lss rfl rfl rfl (qT hb11)) (uW k10 ?_)
   refine sK fun _ k12 => cT rfl (kS ?_)
   refine tK k12 (sK fun _ k13 => ?_)
   refine bB (sK fun _ k14 => ?_)
   have hrl := gRows_len
   obtain ⟨x, hx⟩ : ∃ x, gRows[i]? = some x := ⟨_, List.getElem?_eq_getElem (show i < gRows.length by omega)⟩
   have hxm := List.mem_of_getElem? hx
   obtain ⟨rb, ro, had, hrdx⟩ := gRow_reads hrr hx
   subst had
   refine rL (uG (.pointer (some ⟨rb, ro + i * 3, none⟩)) rfl (ex_index rfl rfl rfl (run_idx (k := i) Tryz.underlying68 gBes68 (by omega))) ?_)
   refine uL (.agg #[vS x.1, vI x.2.1, vI x.2.2]) rfl (run_loadR (cs := [vS x.1, vI x.2.1, vI x.2.2]) gBwd71 (Reads.mid (pre := []) (mid := [vS x.1, vI x.2.1, vI x.2.2]) (post := []) hrdx _ _ _ (Base.Le.refl _) no_res hv)) ?_
   refine sl_alloc tV (wn rfl) rfl hv gBal71 (fun b15 w16 hv => ?_)
   simp only [zP, po]
   refine xS 0 rfl hv gBsz71 rfl (by exact ⟨rfl, rfl, rfl, trivial⟩) (fun w17 hv => ?_)
   simp only [zO, sp] at hv
   refine uW k14 (rL ?_)
   refine uM rfl ?_
   refine uF (vP b15) rfl (gBfa71_0 _ _ _) ?_
   refine uL _ rfl (run_load1 s9na9 (hv.load 0 0 rfl rfl)) ?_
   refine sl_rowOne (v := vS x.1) tV (wn rfl) rfl rfl hv gBel22 rfl (fun b18 w19 hv => ?_)
   replace hv := hv.front 2 rfl
   simp only [eS, eZ] at hv
   refine sl_append (news := [vS x.1]) tV (wn rfl) rfl rfl rfl gBel22 hv (ok_full (by omega)) rfl (rd_all (hv.get 1 rfl)) (by intro u hu; simp only [List.mem_cons, List.not_mem_nil, or_false] at hu; rcases hu with rfl <;> rfl) (by unfold maxLen; omega) (by omega) (fun rv20 w23 hv => ?_)
   obtain ⟨ra21, rc22, rfl⟩ := row_slice hv.head
   refine uA rfl (uZ ?_)
   refine bN (tK k13 ?_)
   refine rL (uG (vI ((i + 1 : Nat) : Int)) rfl (ex_add rfl rfl rfl (by rw [i64_in (by omega)]; omega)) ?_)
   refine uM rfl (uZ ?_)
   refine then_normal ?_
   go_roundw
   case rel => exact ⟨i + 1, _, _, rfl, rfl, by omega, by rw [take_next (show gNames[i]? = some x.1 by unfold gNames; rw [List.getElem?_map, hx]; rfl), ← text_snoc]; exact (hv.kp [] 1 2)⟩
   case measure => show gRows.length - (((i + 1 : Nat) : Int)).toNat < gRows.length - ((i : Int)).toNat; omega
  refine uG (.bool false) rfl (ex_lss rfl rfl rfl (qF hb11)) (uW k10 ?_)
  refine sK fun _ k24 => cF rfl (xE ?_)
  refine tX (tX ?_)
  refine bH (tK k7 ?_)
  refine sK fun _ k25 => rL (uM rfl ?_)
  refine uA rfl (uW k25 ?_)
  refine rR (bR rfl rfl ?_)
  obtain rfl : i = gRows.length := by omega
  obtain ⟨D, hD, hv, hro, hoko, -⟩ := (hv).rowBy
  rw [show gNames.take gRows.length = gNames from rfl] at hro
  exact ⟨D, na, nc, hC.trans hD, rfl, hro, hoko, hv⟩
abbrev GX := DoS
def GArgs (name : List UInt8) (n : Nat) : Prop := ∃ x ∈ gRows, x.1 = name ∧ x.2.1 ≤ (n : Int) ∧ (0 ≤ x.2.2 → (n : Int) ≤ x.2.2)
theorem gRows_one : ∀ x ∈ gRows, 1 ≤ x.2.1 := by decide
theorem gRows_sism : ∀ x ∈ gRows, x.1 = nSISM → 2 ≤ x.2.1 := by decide
theorem gRows_store : ∀ x ∈ gRows, x.1 = nSDIFFS ∨ x.1 = nSINTERS ∨ x.1 = nSUNIONS → 2 ≤ x.2.1 := by decide
theorem gRows_move : ∀ x ∈ gRows, x.1 = nSMOVE → 3 ≤ x.2.1 := by decide
theorem gDoAll (B : Base) (H : List Res) (w : World) (v t m s p wb : Nat) (va : Option Addr) (vc : Nat) (sv : Value) (clk : Int) (es : List (List UInt8 × Value)) (M : List (List UInt8 × Ver)) (hM : VM B es M) (hO : OkM M) (aa : Option Addr) (ac : Nat) (args : List (List UInt8)) (hra : RdV B [] aa (textCells args)) (hoka : SliceOk aa args.length ac) (hma : args.length ≤ 1000) (name : List UInt8) (hgr : GArgs name args.length) (hxl : ∀ x ∈ args, x.length ≤ 9223372036854775807) (hsm : (∀ x ∈ args, x.length ≤ 1000000) ∨ M = []) (hN : NumB B) (hv : Inv B (Res.cell v [.iface 62 (vP t)] 39 :: txR t m s p wb va vc sv clk es :: H) w) : Calls Tryz.prog 26 #[.agg #[vP v, .slice aa args.length ac], vS name] w fun e w' => ∃ C es' M' r cs, B.Le C ∧ e = .returned (.agg cs.toArray) ∧ RpAt C r cs ∧ VM C es' M' ∧ CmdR M M' r ∧ GX M clk name args M' r ∧ Inv C (Res.cell v [.iface 62 (vP t)] 39 :: txR t m s p wb va vc sv clk es' :: H) w' := by
 obtain ⟨x, hx, hxn, hx1, hx2⟩ := hgr
 have h1 := gRows_one x hx
 exact csetDoAll B H w v t m s p wb va vc sv clk es M hM hO aa ac args hra hoka hma name (by omega) (fun h => by have := gRows_sism x hx (hxn.trans h); omega) (fun h => by have := gRows_store x hx (by rw [hxn]; exact h); omega) (fun h => by have := gRows_move x hx (hxn.trans h); omega) hxl hsm hN hv
theorem gBal28 : AL Tryz.prog 28 [vI 0, vS [], vI 0, vN] := fun w => by kernel_rfl
theorem gBal4 : AL Tryz.prog 4 [.bool false] := fun w => by kernel_rfl
theorem gBfa71_1 : FA Tryz.prog 71 1 1 := fun w b o => by kernel_rfl
theorem gBcallable23 : Callable Tryz.prog 23 := cb Tryz.func23 (by kernel_rfl)
theorem gBrec23 (n : Nat) (x0 x1 : Value) (w : World) : CallsDIn Fence.wide n Tryz.prog 23 #[x0, x1] .returning w fun e u' w' => e = .returned (.tuple #[]) ∧ u' = .returning ∧ w' = w := by
 refine callsDIn_of_wpSIn Tryz.func23 rfl trivial fun c₀ cs hu => ?_
 apply wpSIn_seq
 apply wpSIn_region
 simp [wpOpsSIn, go_sem, recoverD, hu, Tryz.ntmps23, Exit.thenS]
 refine wpSIn_cond (t := false) (by simp [Act.eval, Array.replicate]) ?_
 simp only [Bool.false_eq_true, if_false]
 refine wpSIn_of_wpIn rfl (wpIn_skip ?_)
 cases c₀
 simp_all [bodyPostS, results, Tryz.results23]
theorem gBfa71_2 : FA Tryz.prog 71 2 2 := fun w b o => by kernel_rfl
theorem gBcallable26 : Callable Tryz.prog 26 := cb Tryz.func26 (by kernel_rfl)
theorem gDo (B : Base) (H : List Res) (w : World) (v t m s p wb : Nat) (va : Option Addr) (vc : Nat) (sv : Value) (clk : Int) (es : List (List UInt8 × Value)) (M : List (List UInt8 × Ver)) (hM : VM B es M) (hO : OkM M) (aa : Option Addr) (ac : Nat) (args : List (List UInt8)) (hra : RdV B [] aa (textCells args)) (hoka : SliceOk aa args.length ac) (hma : args.length ≤ 1000) (name : List UInt8) (hxl : ∀ x ∈ args, x.length ≤ 9223372036854775807) (hsm : (∀ x ∈ args, x.length ≤ 1000000) ∨ M = []) (hN : NumB B) (hv : Inv B (Res.cell v [.iface 62 (vP t)] 39 :: txR t m s p wb va vc sv clk es :: H) w) :
  Calls Tryz.prog 11 #[vP v, vS name, .slice aa args.length ac] w fun e w' => ∃ C es' M' r cs ok, B.Le C ∧ e = .returned (.tuple #[.agg cs.toArray, .bool ok]) ∧ RpAt C r cs ∧ VM C es' M' ∧ CmdR M M' r ∧ (ok = true ↔ name ∈ gNames) ∧ (ok = false → M' = M ∧ r = rText []) ∧ (GArgs name args.length → GX M clk name args M' r) ∧ Inv C (Res.cell v [.iface 62 (vP t)] 39 :: txR t m s p wb va vc sv clk es' :: H) w' := by
 refine (callsIn_wide (n := 5)).1 (callsIn_of_wp_defers Tryz.func11 rfl trivial ?_)
 simp only [Tryz.ntmps11, List.size_toArray, List.length_cons, List.length_nil, Nat.reduceAdd, Nat.reduceSub, Array.replicate_succ, Array.replicate_zero, List.push_toArray, List.append_toArray, List.nil_append, List.cons_append]
 refine sK fun _ k1 => rL (sl_alloc tV (wn rfl) rfl hv gBal28 (fun b2 w3 hv => ?_))
 refine sl_alloc tV (wn rfl) rfl hv gBal4 (fun b4 w5 hv => ?_)
 refine uW k1 (sK fun _ k6 => ?_)
 refine rL (uG (.func (.func 23) #[] #[vP b2, vP b4]) rfl (ex_makeFunc (c' := #[vP b2, vP b4]) rfl (by simp only [List.map_toArray, List.map_nil]) (by simp only [List.map_toArray, List.map_cons, List.map_nil]; rfl)) ?_)
 refine wpi_defer tV rfl (wn rfl) rfl rfl (uW k6 ?_)
 refine sK fun _ k7 => sK fun _ k8 => rL (xC gBcallable25 rfl ((gRowsC B _ _ hv).mono ?_) rfl)
 rintro e w9 ⟨C, ra, rc, hC, rfl, hrr, hv⟩
 refine ⟨_, rfl, uG (vI (gRows.length : Int)) rfl (ex_len0 Tryz.underlying68 rfl rfl) ?_⟩
 refine uM rfl (uW k8 ?_)
 refine bB ?_
 gi_loopw [14] (fun x14 wr => ∃ (i : Nat), x14 = vI i ∧ i ≤ gRows.length ∧ (∀ (j : Nat) y, j < i → gRows[j]? = some y → y.1 ≠ name) ∧ Inv C (Res.cell b4 [.bool false] 4 :: Res.cell b2 [vI 0, vS [], vI 0, vN] 28 :: Res.cell v [.iface 62 (vP t)] 39 :: txR t m s p wb va vc sv clk es :: H) wr) (fun x14 _ => gRows.length - (intOf x14).toNat)
 case atStart => exact ⟨0, rfl, Nat.zero_le _, fun j y h => by omega, hv⟩
 case round =>
  obtain ⟨i, rfl, hi, hno, hv⟩ := hrel
  have hrl := gRows_len
  refine sK fun _ k11 => rL ?_
  by_cases hb12 : (i : Int) < (gRows.length : Int)
  ·refine uG (.bool true) rfl (ex_lss rfl rfl rfl (qT hb12)) (uW k11 ?_)
   refine sK fun _ k13 => cT rfl (kS ?_)
   refine tK k13 (sK fun _ k14 => ?_)
   refine bB (sK fun _ k15 => ?_)
   have hrl := gRows_len
   obtain ⟨x, hx⟩ : ∃ x, gRows[i]? = some x := ⟨_, List.getElem?_eq_getElem (show i < gRows.length by omega)⟩
   have hxm := List.mem_of_getElem? hx
   obtain ⟨rb, ro, had, hrdx⟩ := gRow_reads hrr hx
   subst had
   refine rL (uG (.pointer (some ⟨rb, ro + i * 3, none⟩)) rfl (ex_index rfl rfl rfl (run_idx (k := i) Tryz.underlying68 gBes68 (by omega))) ?_)
   refine uL (.agg #[vS x.1, vI x.2.1, vI x.2.2]) rfl (run_loadR (cs := [vS x.1, vI x.2.1, vI x.2.2]) gBwd71 (Reads.mid (pre := []) (mid := [vS x.1, vI x.2.1, vI x.2.2]) (post := []) hrdx _ _ _ (Base.Le.refl _) no_res hv)) ?_
   refine sl_alloc tV (wn rfl) rfl hv gBal71 (fun b16 w17 hv => ?_)
   simp only [zP, po]
   refine xS 0 rfl hv gBsz71 rfl (by exact ⟨rfl, rfl, rfl, trivial⟩) (fun w18 hv => ?_)
   simp only [zO, sp] at hv
   refine uW k15 (sK fun _ k19 => ?_)
   refine sK fun _ k20 => rL (uF (vP b16) rfl (gBfa71_0 _ _ _) ?_)
   refine uL _ rfl (run_load1 s9na9 (hv.load 0 0 rfl rfl)) (uM rfl ?_)
   by_cases hb21 : x.1 ≠ name
   ·refine uG (.bool true) rfl (ex_sneq rfl rfl rfl (qT hb21)) (uW k20 ?_)
    refine cT rfl (xE ?_)
    refine tX (bH ?_)
    refine tK k14 (rL ?_)
    refine uG (vI ((i + 1 : Nat) : Int)) rfl (ex_add rfl rfl rfl (by rw [i64_in (by omega)]; omega)) (uM rfl ?_)
    refine uZ (then_normal ?_)
    go_roundw
    case rel => exact ⟨i + 1, rfl, by omega, fun j y hj hy => (by
       rcases Nat.lt_or_ge j i with h | h
       ·exact hno j y h hy
       obtain rfl : j = i := by omega
       rw [hx] at hy; cases hy; exact hb21), (hv.kp [4, 4, 4, 4] 4 1)⟩
    case measure => show gRows.length - (((i + 1 : Nat) : Int)).toNat < gRows.length - ((i : Int)).toNat; omega
   refine uG (.bool false) rfl (ex_sneq rfl rfl rfl (qF hb21)) (uW k20 ?_)
   refine cF rfl (kS ?_)
   refine tK k19 (sK fun _ k22 => ?_)
   refine sK fun _ k23 => rL (uM rfl ?_)
   refine uG (vI (args.length : Int)) rfl (ex_len0 Tryz.underlying22 rfl rfl) (uA rfl ?_)
   refine uW k23 (sK fun _ k24 => ?_)
   refine rL (uM rfl ?_)
   refine uF (.pointer (some ⟨b16, 1, none⟩)) rfl (gBfa71_1 _ _ _) ?_
   refine uL _ rfl (run_load1 s2na3 (hv.load 0 1 rfl rfl)) ?_
   by_cases hb25 : (args.length : Int) < x.2.1
   ·refine uG (.bool true) rfl (ex_lss rfl rfl rfl (qT hb25)) (uM rfl ?_)
    iterate 9 refine uP rfl ?_
    refine uK rfl (uW k24 ?_)
    refine cT rfl (sK fun _ k26 => ?_)
    refine rL (xC rscallable24 rfl ((viewWrong C _ _ 43 hv).mono ?_) rfl)
    rintro e w28 ⟨s27, rfl, hv⟩
    refine ⟨_, rfl, ?_⟩
    refine xS 2 rfl hv rssz28 rfl (by exact ⟨rfl, rfl, rfl, rfl, trivial⟩) (fun w29 hv => ?_)
    simp only [zS, zO, sp] at hv
    refine xV 1 (.bool true) rfl hv v8sz4 rfl rfl (fun w30 hv => ?_)
    simp only [zS, zO, sp] at hv
    refine uW k26 (rR ?_)
    refine tR (bZ ?_)
    refine tR (tR ?_)
    refine bZ (tR ?_)
    refine leave_rec gBcallable23 (gBrec23 _ _ _ _) (res_cells2 rfl rfl (lM 2 rswd28 hv rfl rfl rfl rfl) rfl (run_load1 s2na4 (hv.load 1 0 rfl rfl))) ?_
    have hmem : name ∈ gNames := by rw [← (show x.1 = name from Classical.byContradiction fun h9 => hb21 h9)]; exact List.mem_map_of_mem hxm
    exact ⟨C, es, M, rFault s27, rpCells 1 s27 0 (vN), true, hC, rfl, rpAt_leaf, hM.more hC, ⟨hO, fun _ => rfl⟩, ⟨fun _ => hmem, fun _ => rfl⟩, fun h9 => (by cases h9), fun ⟨y9, hy9, hyn9, hg1, hg2⟩ => (by obtain rfl := gRows_inj y9 hy9 x hxm (by rw [hyn9]; exact (Classical.byContradiction fun h9 => hb21 h9 : x.1 = name).symm); omega), (hv.kp [4, 4] 2 3)⟩
   refine uG (.bool false) rfl (ex_lss rfl rfl rfl (qF hb25)) (uM rfl ?_)
   refine uF (.pointer (some ⟨b16, 2, none⟩)) rfl (gBfa71_2 _ _ _) ?_
   refine uL _ rfl (run_load1 s2na3 (hv.load 0 2 rfl rfl)) ?_
   by_cases hb31 : x.2.2 ≥ 0
   ·refine uG (.bool true) rfl (ex_geq rfl rfl rfl (qT hb31)) ?_
    refine uM rfl ?_
    refine uM rfl ?_
    refine uF (.pointer (some ⟨b16, 2, none⟩)) rfl (gBfa71_2 _ _ _) ?_
    refine uL _ rfl (run_load1 s2na3 (hv.load 0 2 rfl rfl)) ?_
    by_cases hb32 : (args.length : Int) > x.2.2
    ·refine uG (.bool true) rfl (ex_gtr rfl rfl rfl (qT hb32)) ?_
     refine uK rfl (uK rfl ?_)
     refine uW k24 (cT rfl ?_)
     refine sK fun _ k33 => rL (xC rscallable24 rfl ((viewWrong C _ _ 43 hv).mono ?_) rfl)
     rintro e w35 ⟨s34, rfl, hv⟩
     refine ⟨_, rfl, ?_⟩
     refine xS 2 rfl hv rssz28 rfl (by exact ⟨rfl, rfl, rfl, rfl, trivial⟩) (fun w36 hv => ?_)
     simp only [zS, zO, sp] at hv
     refine xV 1 (.bool true) rfl hv v8sz4 rfl rfl (fun w37 hv => ?_)
     simp only [zS, zO, sp] at hv
     refine uW k33 (rR ?_)
     refine tR (bZ ?_)
     refine tR (tR ?_)
     refine bZ (tR ?_)
     refine leave_rec gBcallable23 (gBrec23 _ _ _ _) (res_cells2 rfl rfl (lM 2 rswd28 hv rfl rfl rfl rfl) rfl (run_load1 s2na4 (hv.load 1 0 rfl rfl))) ?_
     have hmem : name ∈ gNames := by rw [← (show x.1 = name from Classical.byContradiction fun h9 => hb21 h9)]; exact List.mem_map_of_mem hxm
     exact ⟨C, es, M, rFault s34, rpCells 1 s34 0 (vN), true, hC, rfl, rpAt_leaf, hM.more hC, ⟨hO, fun _ => rfl⟩, ⟨fun _ => hmem, fun _ => rfl⟩, fun h9 => (by cases h9), fun ⟨y9, hy9, hyn9, hg1, hg2⟩ => (by obtain rfl := gRows_inj y9 hy9 x hxm (by rw [hyn9]; exact (Classical.byContradiction fun h9 => hb21 h9 : x.1 = name).symm); omega), (hv.kp [4, 4] 2 3)⟩
    refine uG (.bool false) rfl (ex_gtr rfl rfl rfl (qF hb32)) ?_
    refine uK rfl (uK rfl ?_)
    refine uW k24 (cF rfl ?_)
    refine kS (tK k22 ?_)
    refine sK fun _ k38 => ?_
    have hxn : x.1 = name := Classical.byContradiction fun h9 => hb21 h9
    refine rL (uM rfl ?_)
    refine uM rfl ?_
    refine uG (.agg #[vP v, .slice aa args.length ac]) rfl (ex_buildN (vs := #[(0, vP v), (1, .slice aa args.length ac)]) rfl (by simp only [List.map_toArray, List.map_cons, List.map_nil]; rfl) (by kernel_rfl)) (uM rfl ?_)
    replace hv := hv.front 4 rfl
    simp only [eS, eZ] at hv
    replace hv := hv.front 4 rfl
    simp only [eS, eZ] at hv
    refine xC gBcallable26 rfl ((gDoAll C _ _ v t m s p wb va vc sv clk es M (hM.more hC) hO aa ac args (hra.more hC (fun _ h => h)) hoka hma name ⟨x, hxm, hxn, by omega, fun h9 => by omega⟩ hxl hsm (hN.more hC) hv).mono ?_) rfl
    rintro e w39 ⟨D, es', M', r, cs, hD, rfl, hrp, hM', hcmd, hgx, hv⟩
    refine ⟨_, rfl, ?_⟩
    obtain ⟨rk, rs, rn, rv, rfl⟩ := rp_parts hrp
    refine xS 4 rfl hv rssz28 rfl (by exact ⟨rfl, rfl, rfl, hrp.lv.2, trivial⟩) (fun w40 hv => ?_)
    simp only [zS, zO, sp] at hv
    simp only [zP, po]
    refine xV 3 (.bool true) rfl hv v8sz4 rfl rfl (fun w41 hv => ?_)
    simp only [zS, zO, sp] at hv
    refine uW k38 (rR ?_)
    refine bZ (tR ?_)
    refine tR (bZ ?_)
    refine tR (leave_rec gBcallable23 (gBrec23 _ _ _ _) (res_cells2 rfl rfl (lM 4 rswd28 hv rfl rfl rfl rfl) rfl (run_load1 s2na4 (hv.load 3 0 rfl rfl))) ?_)
    have hmem : name ∈ gNames := by rw [← (show x.1 = name from Classical.byContradiction fun h9 => hb21 h9)]; exact List.mem_map_of_mem hxm
    exact ⟨D, es', M', r, _, true, (hC.trans hD), rfl, hrp, hM', hcmd, ⟨fun _ => hmem, fun _ => rfl⟩, fun h9 => (by cases h9), fun _ => hgx, (hv.kp [1, 1] 2 3)⟩
   refine uG (.bool false) rfl (ex_geq rfl rfl rfl (qF hb31)) ?_
   refine uM rfl ?_
   iterate 4 refine uP rfl ?_
   refine uK rfl (uK rfl ?_)
   refine uW k24 (cF rfl ?_)
   refine kS (tK k22 ?_)
   refine sK fun _ k42 => ?_
   have hxn : x.1 = name := Classical.byContradiction fun h9 => hb21 h9
   refine rL (uM rfl ?_)
   refine uM rfl ?_
   refine uG (.agg #[vP v, .slice aa args.length ac]) rfl (ex_buildN (vs := #[(0, vP v), (1, .slice aa args.length ac)]) rfl (by simp only [List.map_toArray, List.map_cons, List.map_nil]; rfl) (by kernel_rfl)) (uM rfl ?_)
   replace hv := hv.front 4 rfl
   simp only [eS, eZ] at hv
   replace hv := hv.front 4 rfl
   simp only [eS, eZ] at hv
   refine xC gBcallable26 rfl ((gDoAll C _ _ v t m s p wb va vc sv clk es M (hM.more hC) hO aa ac args (hra.more hC (fun _ h => h)) hoka hma name ⟨x, hxm, hxn, by omega, fun h9 => by omega⟩ hxl hsm (hN.more hC) hv).mono ?_) rfl
   rintro e w43 ⟨D, es', M', r, cs, hD, rfl, hrp, hM', hcmd, hgx, hv⟩
   refine ⟨_, rfl, ?_⟩
   obtain ⟨rk, rs, rn, rv, rfl⟩ := rp_parts hrp
   refine xS 4 rfl hv rssz28 rfl (by exact ⟨rfl, rfl, rfl, hrp.lv.2, trivial⟩) (fun w44 hv => ?_)
   simp only [zS, zO, sp] at hv
   simp only [zP, po]
   refine xV 3 (.bool true) rfl hv v8sz4 rfl rfl (fun w45 hv => ?_)
   simp only [zS, zO, sp] at hv
   refine uW k42 (rR ?_)
   refine bZ (tR ?_)
   refine tR (bZ ?_)
   refine tR (leave_rec gBcallable23 (gBrec23 _ _ _ _) (res_cells2 rfl rfl (lM 4 rswd28 hv rfl rfl rfl rfl) rfl (run_load1 s2na4 (hv.load 3 0 rfl rfl))) ?_)
   have hmem : name ∈ gNames := by rw [← (show x.1 = name from Classical.byContradiction fun h9 => hb21 h9)]; exact List.mem_map_of_mem hxm
   exact ⟨D, es', M', r, _, true, (hC.trans hD), rfl, hrp, hM', hcmd, ⟨fun _ => hmem, fun _ => rfl⟩, fun h9 => (by cases h9), fun _ => hgx, (hv.kp [1, 1] 2 3)⟩
  refine uG (.bool false) rfl (ex_lss rfl rfl rfl (qF hb12)) (uW k11 ?_)
  refine sK fun _ k46 => cF rfl (xE ?_)
  refine tX (tX ?_)
  refine bH (tK k7 ?_)
  refine sK fun _ k47 => rL (uG (.agg #[vI 0, vS [], vI 0, vN]) rfl (ex_buildN (vs := #[]) rfl (by simp only [List.map_toArray, List.map_nil]) (by kernel_rfl)) ?_)
  refine xS 1 rfl hv rssz28 rfl (by exact ⟨rfl, rfl, rfl, rfl, trivial⟩) (fun w48 hv => ?_)
  simp only [zS, zO, sp] at hv
  refine xV 0 (.bool false) rfl hv v8sz4 rfl rfl (fun w49 hv => ?_)
  simp only [zO, sp] at hv
  refine uW k47 (rR ?_)
  refine leave_rec gBcallable23 (gBrec23 _ _ _ _) (res_cells2 rfl rfl (lM 1 rswd28 hv rfl rfl rfl rfl) rfl (run_load1 s2na4 (hv.load 0 0 rfl rfl))) ?_
  have hmem : name ∉ gNames := fun h9 => by
   obtain ⟨y, hy, hyn⟩ := List.mem_map.1 h9
   obtain ⟨j, hj⟩ := List.mem_iff_getElem?.1 hy
   exact hno j y (by have := (List.getElem?_eq_some_iff.1 hj).1; omega) hj hyn
  exact ⟨C, es, M, rText [], rpCells 0 [] 0 (vN), false, hC, rfl, rpAt_leaf, hM.more hC, ⟨hO, fun _ => rfl⟩, ⟨fun h9 => (by cases h9), fun h9 => absurd h9 hmem⟩, fun _ => ⟨rfl, rfl⟩, fun ⟨y9, hy9, hyn9, _⟩ => absurd (hyn9 ▸ List.mem_map_of_mem hy9) hmem, (hv.kp [3, 3] 2 2)⟩
end Go.Proofs.YtoljdfjnannakaaGreatDoor
namespace Go.Pm
open Go.RowKit
section
variable {P : Program} {t e : TypeId} {w : World}
end
section
variable {P : Program} {ops : Array Oper} {Q : Exit → Act → World → Prop} {a : Act} {w : World} {o : Oper} {B : Base} {H : List Res} {t e u : TypeId} {x y : Operand} {size : Nat} {J : List Value → World → Prop} {vals : List Value}
end
end Go.Pm
namespace Go.Proofs.YtoljdfjnannakaaGreatDoor
open Go.RowKit Go.Pm
theorem viewNew (B : Base) (H : List Res) (w : World) (t : Nat) (hv : Inv B H w) :
  Calls Tryz.prog 22 #[.iface 62 (vP t)] w fun e w' => ∃ v, e = .returned (.tuple #[vP v, vI 0]) ∧ Inv B (Res.cell v [.iface 62 (vP t)] 39 :: H) w' := by
 refine cW Tryz.func22 rfl Tryz.ntmps22 ?_
 simp only [al]
 refine sK fun _ k1 => rL (uA rfl ?_)
 refine uA rfl (uW k1 ?_)
 refine sK fun _ k2 => sK fun _ k3 => rL (uM rfl ?_)
 refine uG (.bool false) rfl (ex_ifnil Tryz.underlying37 rfl rfl rfl) (uW k3 ?_)
 refine cF rfl (kS ?_)
 refine tK k2 (sK fun _ k4 => ?_)
 refine rL (uM rfl ?_)
 refine uG (.agg #[.iface 62 (vP t)]) rfl (ex_buildN (vs := #[(0, .iface 62 (vP t))]) rfl (by simp only [List.map_toArray, List.map_cons, List.map_nil]; rfl) (by kernel_rfl)) ?_
 refine sl_box (L := [.iface 62 (vP t)]) tV (wn rfl) rfl rfl hv (fun w => by kernel_rfl) (fun b5 w6 hv => ?_)
 refine uA rfl (uA rfl ?_)
 refine uW k4 (rR ?_)
 refine bodyPost_ret (results_tmp2 rfl _ _ _) rfl (⟨_, rfl, hv⟩)
theorem c7callable19 : Callable Tryz.prog 19 := cb Tryz.func19 (by kernel_rfl)
theorem c7callable18 : Callable Tryz.prog 18 := cb Tryz.func18 (by kernel_rfl)
theorem c7callable20 : Callable Tryz.prog 20 := cb Tryz.func20 (by kernel_rfl)
theorem c7callable21 : Callable Tryz.prog 21 := cb Tryz.func21 (by kernel_rfl)
theorem c7callable22 : Callable Tryz.prog 22 := cb Tryz.func22 (by kernel_rfl)
theorem lawOpened24 (B : Base) (H : List Res) (w : World) (now : Int) (h0 : 0 ≤ now) (h1 : now ≤ 1099511627776) (hv : Inv B H w) :
  Calls Tryz.prog 7 #[vI now] w fun e w' => ∃ v t m s p wb va vc sv, e = .returned (vP v) ∧ Inv B (Res.cell v [.iface 62 (vP t)] 39 :: txR t m s p wb va vc sv now [] :: H) w' := by
 refine cW Tryz.func7 rfl Tryz.ntmps7 ?_
 simp only [al]
 refine sK fun _ k1 => rL (uA rfl ?_)
 refine uW k1 (sK fun _ k2 => ?_)
 refine rL (xC c7callable19 rfl ((storeNew0 B _ _ hv).mono ?_) rfl)
 rintro e w3 ⟨s, p, rfl, hv⟩
 refine ⟨_, rfl, uG (.agg #[]) rfl (ex_buildN (vs := #[]) rfl (by simp only [List.map_toArray, List.map_nil]) (by kernel_rfl)) ?_⟩
 refine uG (.iface 60 (.agg #[])) rfl (ex_iface Tryz.underlying60 (fun _ h => by cases h) rfl rfl) ?_
 refine xC c7callable18 rfl ((txnNew0 B _ _ s 60 (.agg #[]) hv).mono ?_) rfl
 rintro e w4 ⟨m, rfl, hv⟩
 refine ⟨_, rfl, ?_⟩
 obtain ⟨sv, hsv⟩ : ∃ sv, sv = Value.iface 60 (.agg #[]) := ⟨_, rfl⟩
 rw [← hsv] at hv
 refine uM rfl (uE rfl ?_)
 refine uE rfl (uA rfl ?_)
 refine uA rfl (uW k2 ?_)
 refine sK fun _ k5 => sK fun _ k6 => rL (uM rfl ?_)
 refine uG (.bool false) rfl (ex_pisnil Tryz.underlying53 rfl rfl rfl rfl) (uW k6 ?_)
 refine cF rfl (kS ?_)
 refine tK k5 (sK fun _ k7 => ?_)
 refine rL (uM rfl ?_)
 refine uM rfl ?_
 refine xC c7callable20 rfl ((txnTick0 B _ _ m s sv now h0 h1 hv).mono ?_) rfl
 rintro e w8 ⟨r9, rfl, hv⟩
 refine ⟨_, rfl, uW k7 ?_⟩
 refine sK fun _ k9 => rL (uM rfl ?_)
 replace hv := hv.front 2 rfl
 simp only [eS, eZ] at hv
 replace hv := hv.front 2 rfl
 simp only [eS, eZ] at hv
 replace hv := hv.front 2 rfl
 simp only [eS, eZ] at hv
 refine xC c7callable21 rfl ((txnBegin B _ _ m s p sv now hv).mono ?_) rfl
 rintro e w10 ⟨t, wb, va, vc, rfl, hv⟩
 refine ⟨_, rfl, uM rfl ?_⟩
 refine uE rfl (uE rfl ?_)
 refine uA rfl (uA rfl ?_)
 refine uW k9 (sK fun _ k11 => ?_)
 refine sK fun _ k12 => rL (uM rfl ?_)
 refine uG (.bool false) rfl (ex_pisnil Tryz.underlying62 rfl rfl rfl rfl) (uW k12 ?_)
 refine cF rfl (kS ?_)
 refine tK k11 (sK fun _ k13 => ?_)
 refine rL (uM rfl ?_)
 refine uG (.iface 62 (vP t)) rfl (ex_iface Tryz.underlying62 (fun _ h => by cases h) rfl rfl) ?_
 refine xC c7callable22 rfl ((viewNew B _ _ t hv).mono ?_) rfl
 rintro e w14 ⟨v, rfl, hv⟩
 refine ⟨_, rfl, uM rfl ?_⟩
 refine uE rfl (uE rfl ?_)
 refine uA rfl (uA rfl ?_)
 refine uW k13 (sK fun _ k15 => ?_)
 refine rL (uM rfl ?_)
 refine uA rfl (uW k15 ?_)
 refine rR (bR rfl rfl ?_)
 exact ⟨v, t, m, s, p, wb, va, vc, sv, rfl, ((hv.front 1 rfl).front 1 rfl)⟩
theorem c7al28 : AL Tryz.prog 28 [vI 0, vS [], vI 0, vN] := fun w => by kernel_rfl
theorem ref20Str (B : Base) (H : List Res) (w : World) (s : List UInt8) (hv : Inv B H w) :
  Calls Tryz.prog 34 #[vS s] w fun e w' => e = .returned (.agg #[vI 3, vS s, vI 0, vN]) ∧ Inv B H w' := by
 refine cW Tryz.func34 rfl Tryz.ntmps34 ?_
 simp only [al]
 refine sK fun _ k1 => rL (sl_alloc tV (wn rfl) rfl hv c7al28 (fun b2 w3 hv => ?_))
 refine uW k1 (sK fun _ k4 => ?_)
 refine rL (uM rfl ?_)
 refine uG (.agg #[vI 3, vS s, vI 0, vN]) rfl (ex_buildN (vs := #[(0, vI 3), (1, vS s)]) rfl (by simp only [List.map_toArray, List.map_cons, List.map_nil]; rfl) (by kernel_rfl)) ?_
 refine xS 0 rfl hv rssz28 rfl (by exact ⟨rfl, rfl, rfl, rfl, trivial⟩) (fun w5 hv => ?_)
 simp only [zO, sp] at hv
 refine uW k4 (rR ?_)
 refine bC 0 rswd28 hv rfl rfl rfl rfl (⟨rfl, (hv.kp [] 0 1)⟩)
theorem c7callable34 : Callable Tryz.prog 34 := cb Tryz.func34 (by kernel_rfl)
theorem c7mk28 : (Tryz.prog.info? 28).map (fun i => (i.zero, i.size, i.bytes)) = some (some (.agg #[vI 0, vS [], vI 0, vN]), 4, 56) := by kernel_rfl
theorem c7el26 : Elem Tryz.prog 26 28 (.agg #[vI 0, vS [], vI 0, vN]) 4 56 := elem_of Tryz.underlying26 c7mk28 (by rfl) (by decide)
theorem ref20Strs (B : Base) (H : List Res) (w : World) (sa : Option Addr) (sc : Nat) (ss : List (List UInt8)) (hr : RdV B [] sa (textCells ss)) (hm : ss.length ≤ 1000000) (hv : Inv B H w) :
  Calls Tryz.prog 17 #[.slice sa ss.length sc] w fun e w' => ∃ C v, B.Le C ∧ e = .returned (.agg #[vI 5, vS (([] : List UInt8)), vI 0, v]) ∧ RpAt C (rStrs ss) (rpCells 5 [] 0 v) ∧ Inv C H w' := by
 refine cW Tryz.func17 rfl Tryz.ntmps17 ?_
 simp only [al]
 refine sK fun _ k1 => rL (sl_alloc tV (wn rfl) rfl hv c7al28 (fun b2 w3 hv => ?_))
 refine uW k1 (sK fun _ k4 => ?_)
 refine rL (uG (.agg #[vI 5, vS [], vI 0, vN]) rfl (ex_buildN (vs := #[(0, vI 5)]) rfl (by simp only [List.map_toArray, List.map_cons, List.map_nil]; rfl) (by kernel_rfl)) ?_)
 refine sl_alloc tV (wn rfl) rfl hv c7al28 (fun b5 w6 hv => ?_)
 refine xS 0 rfl hv rssz28 rfl (by exact ⟨rfl, rfl, rfl, rfl, trivial⟩) (fun w7 hv => ?_)
 simp only [zO, sp] at hv
 refine uW k4 (sK fun _ k8 => ?_)
 refine sK fun _ k9 => rL (uA rfl ?_)
 refine uW k9 (bB ?_)
 gi_loopw [4] (fun x4 wr => ∃ (i : Nat) (ra : Option Addr) (rc : Nat), x4 = vI i ∧ i ≤ ss.length ∧ Inv B (Res.row 28 4 (.slice ra i rc) i (strsCells (ss.take i)) :: Res.cell b5 [vI 5, vS [], vI 0, .slice ra i rc] 28 :: Res.cell b2 [vI 0, vS [], vI 0, vN] 28 :: H) wr) (fun x4 _ => ss.length - (intOf x4).toNat)
 case atStart => exact ⟨0, none, 0, rfl, Nat.zero_le _, (((hv.front 1 rfl).front 1 rfl)).rowNil 28 4⟩
 case round =>
  obtain ⟨i, ra, rc, rfl, hi, hv⟩ := hrel
  refine sK fun _ k11 => sK fun _ k12 => rL (uM rfl ?_)
  refine uM rfl ?_
  refine uG (vI (ss.length : Int)) rfl (ex_len0 Tryz.underlying22 rfl rfl) ?_
  by_cases hb13 : (i : Int) < (ss.length : Int)
  ·refine uG (.bool true) rfl (ex_lss rfl rfl rfl (qT hb13)) (uW k12 ?_)
   refine cT rfl (kS ?_)
   refine tK k11 (sK fun _ k14 => ?_)
   refine bB ?_
   obtain ⟨x, hx⟩ : ∃ x, ss[i]? = some x := ⟨_, List.getElem?_eq_getElem (show i < ss.length by omega)⟩
   obtain ⟨bb, bo, had, hrdx⟩ := text_reads hr hx
   subst had
   refine rW mixed [6, 7, 8, 10] [0,1,2,3,4,5,6,7,8,9,10] 23 rfl (by kernel_rfl) hv ?_
   simp only [qm, opAt]
   refine dG (.pointer (some ⟨b5, 3, none⟩)) rfl (ex_field rfl rfl (rtfa28_3 _ _ _)) (dF _ rfl (fun hv => ex_load rfl rfl (run_load1 rtna26 (hv.load 1 3 rfl rfl))) fun f15 hf15 => ?_)
   refine dM (.slice (some ⟨bb, bo, none⟩) ss.length sc) rfl ?_
   simp only [zP, po]
   refine dM (vI i) rfl (dG (.pointer (some ⟨bb, bo + i, none⟩)) rfl (ex_index rfl rfl rfl (run_idx1 (k := i) Tryz.underlying22 s9es22 (by omega))) ?_)
   refine dL _ rfl (fun hv => ex_load rfl rfl (run_load1 s9na9 (hrdx _ _ _ (Base.Le.refl _) no_res hv 0 _ rfl))) ?_
   simp only [zP, po]
   refine dS rfl fun w16 hv => mC c7callable34 rfl ((ref20Str B _ _ x hv).mono ?_) rfl
   rintro e w17 ⟨rfl, hv⟩
   refine ⟨_, rfl, dV hv (fC (fun ww hv => hf15 ww (ex_load rfl rfl (run_load1 rtna26 (hv.load 1 3 rfl rfl)))) fN) ?_⟩
   refine dS rfl fun w18 hv => mem_rowAgg (L := [vI 3, vS x, vI 0, vN]) rfl rfl rfl hv c7el26 rfl (by decide) (fun b19 w20 hv => ?_)
   refine dV hv (fC (fun ww hv => hf15 ww (ex_load rfl rfl (run_load1 rtna26 (hv.load 2 3 rfl rfl)))) fN) (dS rfl fun w21 hv => ?_)
   replace hv := hv.front 1 rfl
   simp only [eS, eZ] at hv
   refine mem_append (news := [vI 3, vS x, vI 0, vN]) rfl rfl rfl rfl c7el26 hv (ok_full (by omega)) rfl (rd_all (hv.get 1 rfl)) (by intro u hu; simp only [List.mem_cons, List.not_mem_nil, or_false] at hu; rcases hu with rfl | rfl | rfl | rfl <;> rfl) (by unfold maxLen; omega) (by omega) (fun rv22 w25 hv => ?_)
   obtain ⟨ra23, rc24, rfl⟩ := row_slice hv.head
   refine dV hv (fK rfl fN) ?_
   simp only [zP, po]
   refine dG (.pointer (some ⟨b5, 3, none⟩)) rfl (ex_field rfl rfl (rtfa28_3 _ _ _)) (dS rfl fun w26 hv => ?_)
   refine mV 2 (.slice ra23 (i + 1) rc24) rfl hv rtsz26 rfl rfl (fun w27 hv => ?_)
   simp only [zS, zO, sp] at hv
   refine dV hv (fK rfl fN) (dE fun w28 hv => ?_)
   simp only [zP, po]
   refine bN (tK k14 ?_)
   refine rL (uM rfl ?_)
   refine uG (vI ((i + 1 : Nat) : Int)) rfl (ex_add rfl rfl rfl (by rw [i64_in (by omega)]; omega)) (uA rfl ?_)
   refine uZ (then_normal ?_)
   go_roundw
   case rel => exact ⟨i + 1, _, _, rfl, by omega, by rw [strsCells_next hx]; exact (hv.kp [3, 3, 2] 3 1)⟩
   case measure => show ss.length - (((i + 1 : Nat) : Int)).toNat < ss.length - ((i : Int)).toNat; omega
  refine uG (.bool false) rfl (ex_lss rfl rfl rfl (qF hb13)) (uW k12 ?_)
  refine cF rfl (xE ?_)
  refine tX (tX ?_)
  refine bH (tK k8 ?_)
  refine sK fun _ k29 => rL (uL (.agg #[vI 5, vS [], vI 0, .slice ra i rc]) rfl (lM 1 rswd28 hv rfl rfl rfl rfl) ?_)
  refine xS 2 rfl hv rssz28 rfl (by exact ⟨rfl, rfl, rfl, rfl, trivial⟩) (fun w30 hv => ?_)
  simp only [zS, zO, sp] at hv
  refine uW k29 (rR ?_)
  refine bC 2 rswd28 hv rfl rfl rfl rfl ?_
  obtain rfl : i = ss.length := by omega
  obtain ⟨C, hC, hv, hro, hoko, -⟩ := ((hv.sub (sC _ (sD _ (sD _ (sR _)))))).rowBy
  rw [List.take_length] at hro
  exact ⟨C, _, hC, rfl, rpAt_of (l := ss.map rStr) ⟨ra, rc, by rw [List.length_map], by rw [List.length_map]; exact hoko, hro⟩ (strsCells_at ss), hv⟩
def SameR (B : Base) (r : Rp) : Prop := ∀ (H : List Res) (w : World) (cs cs' : List Value), RpAt B r cs → RpAt B r cs' → Inv B H w → Calls Tryz.prog 9 #[.agg cs.toArray, .agg cs'.toArray] w fun e w' => e = .returned (.bool true) ∧ Inv B H w'
theorem c7fa28_0 : FA Tryz.prog 28 0 0 := fun w b o => by kernel_rfl
theorem c7fa28_1 : FA Tryz.prog 28 1 1 := fun w b o => by kernel_rfl
theorem c7fa28_2 : FA Tryz.prog 28 2 2 := fun w b o => by kernel_rfl
theorem c7es26 (w : World) : (sizeOf (Tryz.prog.elem 26)).run Tryz.prog w = .ok 4 w := by kernel_rfl
theorem c7callable9 : Callable Tryz.prog 9 := cb Tryz.func9 (by kernel_rfl)
theorem refSameRp0 (B : Base) (H : List Res) (w : World) (k : Int) (s : List UInt8) (n : Int) (l : List Rp) (a a' : Option Addr) (c c' : Nat) (xs xs' : List Value) (hrd : RdV B [] a xs) (hrd' : RdV B [] a' xs') (hat : RpsAt B l xs) (hat' : RpsAt B l xs') (hl : l.length ≤ 1000000) (hIH : ∀ x ∈ l, SameR B x) (hv : Inv B H w) :
  Calls Tryz.prog 9 #[.agg #[vI k, vS s, vI n, .slice a l.length c], .agg #[vI k, vS s, vI n, .slice a' l.length c']] w fun e w' => e = .returned (.bool true) ∧ Inv B H w' := by
 refine cW Tryz.func9 rfl Tryz.ntmps9 ?_
 simp only [al]
 refine sK fun _ k1 => rL (sl_box (L := [vI k, vS s, vI n, .slice a l.length c]) tV (wn rfl) rfl rfl hv (fun w => by kernel_rfl) (fun b2 w3 hv => ?_))
 refine sl_box (L := [vI k, vS s, vI n, .slice a' l.length c']) tV (wn rfl) rfl rfl hv (fun w => by kernel_rfl) (fun b4 w5 hv => ?_)
 refine uA rfl (uW k1 ?_)
 refine sK fun _ k6 => sK fun _ k7 => rL (uF (vP b2) rfl (c7fa28_0 _ _ _) ?_)
 refine uL _ rfl (run_load1 s2na3 (hv.load 1 0 rfl rfl)) ?_
 refine uF (vP b4) rfl (c7fa28_0 _ _ _) ?_
 refine uL _ rfl (run_load1 s2na3 (hv.load 0 0 rfl rfl)) ?_
 refine uG (.bool false) rfl (ex_neq rfl rfl rfl (qF (fun h => h rfl))) (uM rfl ?_)
 refine uF (.pointer (some ⟨b2, 1, none⟩)) rfl (c7fa28_1 _ _ _) ?_
 refine uL _ rfl (run_load1 s9na9 (hv.load 1 1 rfl rfl)) ?_
 refine uF (.pointer (some ⟨b4, 1, none⟩)) rfl (c7fa28_1 _ _ _) ?_
 refine uL _ rfl (run_load1 s9na9 (hv.load 0 1 rfl rfl)) ?_
 refine uG (.bool false) rfl (ex_sneq rfl rfl rfl (qF (fun h => h rfl))) (uK rfl ?_)
 refine uM rfl ?_
 refine uF (.pointer (some ⟨b2, 2, none⟩)) rfl (c7fa28_2 _ _ _) ?_
 refine uL _ rfl (run_load1 s2na3 (hv.load 1 2 rfl rfl)) ?_
 refine uF (.pointer (some ⟨b4, 2, none⟩)) rfl (c7fa28_2 _ _ _) ?_
 refine uL _ rfl (run_load1 s2na3 (hv.load 0 2 rfl rfl)) ?_
 refine uG (.bool false) rfl (ex_neq rfl rfl rfl (qF (fun h => h rfl))) (uK rfl ?_)
 refine uM rfl ?_
 refine uF (.pointer (some ⟨b2, 3, none⟩)) rfl (rtfa28_3 _ _ _) ?_
 refine uL _ rfl (run_load1 rtna26 (hv.load 1 3 rfl rfl)) ?_
 refine uG (vI (l.length : Int)) rfl (ex_len0 Tryz.underlying26 rfl rfl) ?_
 refine uF (.pointer (some ⟨b4, 3, none⟩)) rfl (rtfa28_3 _ _ _) ?_
 refine uL _ rfl (run_load1 rtna26 (hv.load 0 3 rfl rfl)) ?_
 refine uG (vI (l.length : Int)) rfl (ex_len0 Tryz.underlying26 rfl rfl) ?_
 refine uG (.bool false) rfl (ex_neq rfl rfl rfl (qF (fun h => h rfl))) (uK rfl ?_)
 refine uW k7 (cF rfl ?_)
 refine kS (tK k6 ?_)
 refine sK fun _ k8 => sK fun _ k9 => rL (uA rfl ?_)
 refine uW k9 (bB ?_)
 gi_loopw [5] (fun x5 wr => ∃ (i : Nat), x5 = vI i ∧ i ≤ l.length ∧ Inv B (Res.cell b4 [vI k, vS s, vI n, .slice a' l.length c'] 28 :: Res.cell b2 [vI k, vS s, vI n, .slice a l.length c] 28 :: H) wr) (fun x5 _ => l.length - (intOf x5).toNat)
 case atStart => exact ⟨0, rfl, Nat.zero_le _, hv⟩
 case round =>
  obtain ⟨i, rfl, hi, hv⟩ := hrel
  refine sK fun _ k11 => sK fun _ k12 => rL (uM rfl ?_)
  refine uF (.pointer (some ⟨b2, 3, none⟩)) rfl (rtfa28_3 _ _ _) ?_
  refine uL _ rfl (run_load1 rtna26 (hv.load 1 3 rfl rfl)) ?_
  refine uG (vI (l.length : Int)) rfl (ex_len0 Tryz.underlying26 rfl rfl) ?_
  by_cases hb13 : (i : Int) < (l.length : Int)
  ·refine uG (.bool true) rfl (ex_lss rfl rfl rfl (qT hb13)) (uW k12 ?_)
   refine cT rfl (kS ?_)
   refine tK k11 (sK fun _ k14 => ?_)
   refine bB (sK fun _ k15 => ?_)
   obtain ⟨x, hx⟩ : ∃ x, l[i]? = some x := ⟨_, List.getElem?_eq_getElem (show i < l.length by omega)⟩
   obtain ⟨xk, xs, xn, xq⟩ := x
   obtain ⟨q1, o1, v1, y1, h1a, h1b, h1c, h1d⟩ := hat.reads hrd hx
   obtain ⟨q2, o2, v2, y2, h2a, h2b, h2c, h2d⟩ := hat'.reads hrd' hx
   subst h1a
   subst h2a
   have hq1 := rpAt_of (k := xk) (s := xs) (n := xn) h1b h1c
   have hq2 := rpAt_of (k := xk) (s := xs) (n := xn) h2b h2c
   refine rW mixed [10] [0,1,2,3,4,5,6,7,8,9,10,11] 53 rfl (by kernel_rfl) hv ?_
   simp only [qm, opAt]
   refine dG (.pointer (some ⟨b2, 3, none⟩)) rfl (ex_field rfl rfl (rtfa28_3 _ _ _)) (dL _ rfl (fun hv => ex_load rfl rfl (run_load1 rtna26 (hv.load 1 3 rfl rfl))) ?_)
   refine dM (vI i) rfl ?_
   simp only [zP, po]
   refine dG (.pointer (some ⟨q1, o1 + i * 4, none⟩)) rfl (ex_index rfl rfl rfl (run_idx (k := i) Tryz.underlying26 c7es26 (by omega))) (dL (.agg #[vI xk, vS xs, vI xn, v1]) rfl (fun hv => ex_load rfl rfl (run_loadR (cs := [vI xk, vS xs, vI xn, v1]) rswd28 (Reads.mid (pre := []) (mid := [vI xk, vS xs, vI xn, v1]) (post := []) h1d _ _ _ (Base.Le.refl _) no_res hv))) ?_)
   refine dG (.pointer (some ⟨b4, 3, none⟩)) rfl (ex_field rfl rfl (rtfa28_3 _ _ _)) ?_
   simp only [zP, po]
   refine dL _ rfl (fun hv => ex_load rfl rfl (run_load1 rtna26 (hv.load 0 3 rfl rfl))) (dM (vI i) rfl ?_)
   refine dG (.pointer (some ⟨q2, o2 + i * 4, none⟩)) rfl (ex_index rfl rfl rfl (run_idx (k := i) Tryz.underlying26 c7es26 (by omega))) ?_
   simp only [zP, po]
   refine dL (.agg #[vI xk, vS xs, vI xn, v2]) rfl (fun hv => ex_load rfl rfl (run_loadR (cs := [vI xk, vS xs, vI xn, v2]) rswd28 (Reads.mid (pre := []) (mid := [vI xk, vS xs, vI xn, v2]) (post := []) h2d _ _ _ (Base.Le.refl _) no_res hv))) (dS rfl fun w16 hv => ?_)
   refine mC c7callable9 rfl ((hIH _ (List.mem_of_getElem? hx) _ _ (rpCells xk xs xn v1) (rpCells xk xs xn v2) hq1 hq2 hv).mono ?_) rfl
   rintro e w17 ⟨rfl, hv⟩
   refine ⟨_, rfl, dW hv ?_⟩
   refine dG (.bool false) rfl (ex_not rfl rfl rfl) (dE fun w18 hv => ?_)
   simp only [zP, po]
   refine tK k15 (cF rfl ?_)
   refine kS (bN ?_)
   refine tK k14 (rL ?_)
   refine uM rfl ?_
   refine uG (vI ((i + 1 : Nat) : Int)) rfl (ex_add rfl rfl rfl (by rw [i64_in (by omega)]; omega)) (uA rfl ?_)
   refine uZ (then_normal ?_)
   go_roundw
   case rel => exact ⟨i + 1, rfl, by omega, hv⟩
   case measure => show l.length - (((i + 1 : Nat) : Int)).toNat < l.length - ((i : Int)).toNat; omega
  refine uG (.bool false) rfl (ex_lss rfl rfl rfl (qF hb13)) (uW k12 ?_)
  refine cF rfl (xE ?_)
  refine tX (tX ?_)
  refine bH (tK k8 ?_)
  refine sK fun _ k19 => rL (uA rfl ?_)
  refine uW k19 (rR ?_)
  refine bR rfl rfl (⟨rfl, (hv.kp [] 0 2)⟩)
theorem sameR_of {B : Base} {k : Int} {s : List UInt8} {n : Int} {l : List Rp} (hl : l.length ≤ 1000000) (h : ∀ x ∈ l, SameR B x) : SameR B (.mk k s n l) := fun H w cs cs' h1 h2 hv => by
 simp only [RpAt] at h1 h2
 obtain ⟨v, xs, rfl, ⟨a, c, rfl, -, hr⟩, hx⟩ := h1
 obtain ⟨v', xs', rfl, ⟨a', c', rfl, -, hr'⟩, hx'⟩ := h2
 exact refSameRp0 B H w k s n l a a' c c' xs xs' hr hr' hx hx' hl h hv
theorem sameR_leaf {B : Base} {k : Int} {s : List UInt8} {n : Int} : SameR B (.mk k s n []) := sameR_of (Nat.zero_le _) fun x h => by cases h
theorem sameR_strs {B : Base} {l : List (List UInt8)} (hl : l.length ≤ 1000000) : SameR B (rStrs l) := sameR_of (by rw [List.length_map]; exact hl) fun x h => by
 obtain ⟨y, -, rfl⟩ := List.mem_map.1 h
 exact sameR_leaf
end Go.Proofs.YtoljdfjnannakaaGreatDoor
