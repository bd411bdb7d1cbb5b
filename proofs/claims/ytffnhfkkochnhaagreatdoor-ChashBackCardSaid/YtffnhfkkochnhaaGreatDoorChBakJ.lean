/- chash: do, of every command. -/
import Derived.Test.YtffnhfkkochnhaaGreatDoorChBakB
import Derived.Test.YtffnhfkkochnhaaGreatDoorChBakI
import Derived.Test.YtffnhfkkochnhaaGreatDoorChBakE
import Derived.Test.YtffnhfkkochnhaaGreatDoorRows
import Derived.Test.YtffnhfkkochnhaaGreatDoorChBakG
import Derived.Test.YtffnhfkkochnhaaGreatDoorChBakF
set_option maxRecDepth 100000
set_option maxHeartbeats 16000000
set_option synthInstance.maxSize 4096
set_option synthInstance.maxHeartbeats 400000
namespace Go.Proofs.YtffnhfkkochnhaaGreatDoor
open Go.RowKit Go.Pm
def DoH (M : List (List UInt8 × Ver)) (clk : Int) (name : List UInt8) (args : List (List UInt8)) (M' : List (List UInt8 × Ver)) (r : Rp) : Prop :=
 (name = ([72, 83, 69, 84] : List UInt8) → ∃ k, args[0]? = some k ∧ HSetR M clk k (prsF (args.drop 1)) M' r) ∧ (name = ([72, 71, 69, 84, 65, 76, 76] : List UInt8) → ∃ k, args[0]? = some k ∧ HAllR M clk k M' r) ∧ (name = ([72, 68, 69, 76] : List UInt8) → ∃ k, args[0]? = some k ∧ HDelR M clk k (args.drop 1) M' r) ∧ (name = ([72, 73, 78, 67, 82, 66, 89] : List UInt8) → ∃ k f b, args[0]? = some k ∧ args[1]? = some f ∧ args[2]? = some b ∧ HIncR M clk k f b M' r)
theorem hAal28 : AL Tryz.prog 28 [vI 0, vS [], vI 0, vN] := fun w => by kernel_rfl
theorem hAcallable39 : Callable Tryz.prog 39 := cb Tryz.func39 (by kernel_rfl)
theorem hAcallable40 : Callable Tryz.prog 40 := cb Tryz.func40 (by kernel_rfl)
theorem hAal86 : AL Tryz.prog 86 [vI 0, .bool false, vI 0, vI 0, vS [], vN, vN, vN] := fun w => by kernel_rfl
theorem hAcallable42 : Callable Tryz.prog 42 := cb Tryz.func42 (by kernel_rfl)
theorem hAcallable45 : Callable Tryz.prog 45 := cb Tryz.func45 (by kernel_rfl)
theorem hAmk28 : (Tryz.prog.info? 28).map (fun i => (i.zero, i.size, i.bytes)) = some (some (.agg #[vI 0, vS [], vI 0, vN]), 4, 56) := by kernel_rfl
theorem hAel26 : Elem Tryz.prog 26 28 (.agg #[vI 0, vS [], vI 0, vN]) 4 56 := elem_of Tryz.underlying26 hAmk28 (by rfl) (by decide)
theorem hAcallable48 : Callable Tryz.prog 48 := cb Tryz.func48 (by kernel_rfl)
theorem hAcallable52 : Callable Tryz.prog 52 := cb Tryz.func52 (by kernel_rfl)
theorem hAcallable53 : Callable Tryz.prog 53 := cb Tryz.func53 (by kernel_rfl)
theorem chashDoAll (B : Base) (H : List Res) (w : World) (v t m s p wb : Nat) (va : Option Addr) (vc : Nat) (sv : Value) (clk : Int) (es : List (List UInt8 × Value)) (M : List (List UInt8 × Ver)) (hM : VM B es M) (hO : OkM M) (aa : Option Addr) (ac : Nat) (args : List (List UInt8)) (hra : RdV B [] aa (textCells args)) (hoka : SliceOk aa args.length ac) (hma : args.length ≤ 1000) (name : List UInt8) (hal : 1 ≤ args.length) (hc2 : name = ([72, 83, 69, 84, 78, 88] : List UInt8) ∨ name = ([72, 71, 69, 84] : List UInt8) ∨ name = ([72, 69, 88, 73, 83, 84, 83] : List UInt8) ∨ name = ([72, 83, 84, 82, 76, 69, 78] : List UInt8) → 2 ≤ args.length) (hc3 : name = ([72, 73, 78, 67, 82, 66, 89] : List UInt8) → 3 ≤ args.length) (hxl : ∀ x ∈ args, x.length ≤ 9223372036854775807) (hsm : (∀ x ∈ args, x.length ≤ 1000000) ∨ M = []) (hN : NumB B) (hv : Inv B (Res.cell v [.iface 63 (vP t)] 40 :: txR t m s p wb va vc sv clk es :: H) w) :
  Calls Tryz.prog 26 #[.agg #[vP v, .slice aa args.length ac], vS name] w fun e w' => ∃ C es' M' r cs, B.Le C ∧ e = .returned (.agg cs.toArray) ∧ RpAt C r cs ∧ VM C es' M' ∧ CmdR M M' r ∧ DoH M clk name args M' r ∧ Inv C (Res.cell v [.iface 63 (vP t)] 40 :: txR t m s p wb va vc sv clk es' :: H) w' := by
 obtain ⟨key, hkey⟩ : ∃ k, args[0]? = some k := ⟨_, List.getElem?_eq_getElem (show 0 < args.length by omega)⟩
 have hd1 : (args.drop 1).length = args.length - 1 := List.length_drop
 obtain ⟨a3, c3, ha3, ok3, hr3⟩ := sliced_fromV 1 hoka hra (textCells_len args) (show 1 ≤ args.length by omega) (by decide)
 rw [Nat.mul_one, tx_drop] at hr3
 rw [← hd1] at ok3
 have hxd : ∀ x ∈ args.drop 1, x.length ≤ 9223372036854775807 := fun x hx => hxl x (List.mem_of_mem_drop hx)
 refine cW Tryz.func26 rfl Tryz.ntmps26 ?_
 simp only [al]
 refine sK fun _ k1 => rL (sl_box (L := [vP v, .slice aa args.length ac]) tV (wn rfl) rfl rfl hv (fun w => by kernel_rfl) (fun b2 w3 hv => ?_))
 simp only [zP, po]
 refine sl_alloc tV (wn rfl) rfl hv hAal28 (fun b4 w5 hv => ?_)
 refine uW k1 (sK fun _ k6 => ?_)
 refine sK fun _ k7 => rL (uM rfl ?_)
 refine uW k7 (bB ?_)
 refine sK fun _ k8 => rL ?_
 by_cases hb9 : name = ([72, 83, 67, 65, 78] : List UInt8)
 ·refine uG (.bool true) rfl (ex_seql rfl rfl rfl (qT hb9)) (uA rfl ?_)
  refine uW k8 (cT rfl ?_)
  refine sK fun _ k10 => rW mixed [4, 5] [0,1,2,3,4,5] 172 rfl (by kernel_rfl) hv ?_
  simp only [qm, opAt]
  refine dL (.agg #[vP v, .slice aa args.length ac]) rfl (fun hv => ex_load rfl rfl (lM 1 h8wd74 hv rfl rfl rfl rfl)) (dG (.pointer (some ⟨b2, 1, none⟩)) rfl (ex_field rfl rfl (h8fa74_1 _ _ _)) ?_)
  refine dL _ rfl (fun hv => ex_load rfl rfl (run_load1 s1na22 (hv.load 1 1 rfl rfl))) ?_
  simp only [zP, po]
  refine dG (.slice a3 ((args.drop 1).length) c3) rfl (ex_slice (lo' := some (vI ((1 : Nat) : Int))) rfl rfl (congrArg some rfl) rfl rfl ((run_fromAny Tryz.underlying22 s9es22 (by omega)).trans (by rw [ha3, hd1]))) (dS rfl fun w11 hv => ?_)
  replace hv := hv.front 3 rfl
  simp only [eS, eZ] at hv
  replace hv := hv.front 3 rfl
  simp only [eS, eZ] at hv
  refine mC hAcallable39 rfl ((chashScan B _ _ v t m s p wb va vc sv clk es M hM hO aa ac args hra hoka (by omega) key hkey a3 c3 (args.drop 1) ok3 hr3 (by omega) hxd (hsm.imp (fun h9 x hx => h9 x (List.mem_of_mem_drop hx)) id) hN hv).mono ?_) rfl
  rintro e w12 ⟨D, es', M', r, cs, hD, rfl, hrpl, hM', hrel, hv⟩
  have hcmd : CmdR M M' r := hrel
  obtain ⟨rk, rs, rn, rv, rfl⟩ := rp_parts hrpl
  refine ⟨_, rfl, dW hv ?_⟩
  refine dS rfl fun w13 hv => mS 2 rfl hv rssz28 rfl (by exact ⟨rfl, rfl, rfl, hrpl.lv.2, trivial⟩) (fun w14 hv => ?_)
  simp only [zS, zO, sp] at hv
  refine dW hv (dE fun w15 hv => ?_)
  simp only [zP, po]
  refine tK k10 (rR ?_)
  refine bZ (tR ?_)
  refine bC 2 rswd28 hv rfl rfl rfl rfl (⟨D, es', M', r, _, hD, rfl, hrpl, hM', hcmd, ⟨fun h9 => by rw [hb9] at h9; exact absurd h9 (by decide), fun h9 => by rw [hb9] at h9; exact absurd h9 (by decide), fun h9 => by rw [hb9] at h9; exact absurd h9 (by decide), fun h9 => by rw [hb9] at h9; exact absurd h9 (by decide)⟩, (hv.kp [1, 1] 2 2)⟩)
 refine uG (.bool false) rfl (ex_seql rfl rfl rfl (qF hb9)) (uA rfl ?_)
 refine uW k8 (cF rfl ?_)
 refine sK fun _ k16 => rL ?_
 by_cases hb17 : name = ([72, 73, 78, 67, 82, 66, 89] : List UInt8)
 ·refine uG (.bool true) rfl (ex_seql rfl rfl rfl (qT hb17)) (uA rfl ?_)
  refine uW k16 (cT rfl ?_)
  refine sK fun _ k18 => ?_
  have hal3 := hc3 hb17
  obtain ⟨k1, hk1⟩ : ∃ x, args[1]? = some x := ⟨_, List.getElem?_eq_getElem (show 1 < args.length by omega)⟩
  obtain ⟨ab, ao, had, hrdk1⟩ := text_reads hra hk1
  subst had
  obtain ⟨k2, hk2⟩ : ∃ x, args[2]? = some x := ⟨_, List.getElem?_eq_getElem (show 2 < args.length by omega)⟩
  obtain ⟨b9, o9, had9, hrdk2⟩ := text_reads hra hk2
  cases had9
  refine rW mixed [9, 10] [0,1,2,3,4,5,6,7,8,9,10] 172 rfl (by kernel_rfl) hv ?_
  simp only [qm, opAt]
  refine dL (.agg #[vP v, .slice (some ⟨ab, ao, none⟩) args.length ac]) rfl (fun hv => ex_load rfl rfl (lM 1 h8wd74 hv rfl rfl rfl rfl)) (dG (.pointer (some ⟨b2, 1, none⟩)) rfl (ex_field rfl rfl (h8fa74_1 _ _ _)) ?_)
  refine dL _ rfl (fun hv => ex_load rfl rfl (run_load1 s1na22 (hv.load 1 1 rfl rfl))) ?_
  simp only [zP, po]
  refine dG (.pointer (some ⟨ab, ao + 1, none⟩)) rfl (ex_index rfl rfl rfl (run_idx1 (k := 1) Tryz.underlying22 s9es22 (by omega))) (dL _ rfl (fun hv => ex_load rfl rfl (run_load1 h1na9 (hrdk1 _ _ _ (Base.Le.refl _) no_res hv 0 _ rfl))) ?_)
  refine dG (.pointer (some ⟨b2, 1, none⟩)) rfl (ex_field rfl rfl (h8fa74_1 _ _ _)) ?_
  simp only [zP, po]
  refine dL _ rfl (fun hv => ex_load rfl rfl (run_load1 s1na22 (hv.load 1 1 rfl rfl))) (dG (.pointer (some ⟨ab, ao + 2, none⟩)) rfl (ex_index rfl rfl rfl (run_idx1 (k := 2) Tryz.underlying22 s9es22 (by omega))) ?_)
  refine dL _ rfl (fun hv => ex_load rfl rfl (run_load1 h1na9 (hrdk2 _ _ _ (Base.Le.refl _) no_res hv 0 _ rfl))) ?_
  simp only [zP, po]
  refine dS rfl fun w19 hv => ?_
  replace hv := hv.front 3 rfl
  simp only [eS, eZ] at hv
  replace hv := hv.front 3 rfl
  simp only [eS, eZ] at hv
  refine mC hAcallable40 rfl ((chashCount B _ _ v t m s p wb va vc sv clk es M hM hO (some ⟨ab, ao, none⟩) ac args hra hoka (by omega) key hkey k1 k2 hN hv).mono ?_) rfl
  rintro e w20 ⟨D, es', M', r, cs, hD, rfl, hrpl, hM', hrel, hv⟩
  have hcmd : CmdR M M' r := hrel.cmd hO
  obtain ⟨rk, rs, rn, rv, rfl⟩ := rp_parts hrpl
  refine ⟨_, rfl, dW hv ?_⟩
  refine dS rfl fun w21 hv => mS 2 rfl hv rssz28 rfl (by exact ⟨rfl, rfl, rfl, hrpl.lv.2, trivial⟩) (fun w22 hv => ?_)
  simp only [zS, zO, sp] at hv
  refine dW hv (dE fun w23 hv => ?_)
  simp only [zP, po]
  refine tK k18 (rR ?_)
  refine bZ (tR ?_)
  refine bC 2 rswd28 hv rfl rfl rfl rfl (⟨D, es', M', r, _, hD, rfl, hrpl, hM', hcmd, ⟨fun h9 => by rw [hb17] at h9; exact absurd h9 (by decide), fun h9 => by rw [hb17] at h9; exact absurd h9 (by decide), fun h9 => by rw [hb17] at h9; exact absurd h9 (by decide), fun _ => ⟨key, k1, k2, hkey, hk1, hk2, hrel⟩⟩, (hv.kp [1, 1] 2 2)⟩)
 refine uG (.bool false) rfl (ex_seql rfl rfl rfl (qF hb17)) (uA rfl ?_)
 refine uW k16 (cF rfl ?_)
 refine kS (bN ?_)
 refine tK k6 (sK fun _ k24 => ?_)
 have hal := (List.getElem?_eq_some_iff.1 hkey).1
 obtain ⟨ab, ao, had, hrdkey⟩ := text_reads hra hkey
 subst had
 refine rT mixed (fun az wz => ∃ (C : Base) (y : Ver) (yp yt yz : Value) (ec : Int) (b31 : Nat), (B.Le C) ∧ (ValAt C y.val yp yt yz) ∧ (OfI M clk key 2 y ec) ∧ az = { tmps := List.toArray (.agg #[vP v, .slice (some ⟨ab, ao, none⟩) args.length ac] :: vS name :: vP b2 :: undef :: vP b4 :: vP b31 :: vI ec :: undef :: undef :: undef :: undef :: undef :: undef :: undef :: undef :: undef :: undef :: undef :: undef :: undef :: vS name :: .bool false :: .bool false :: undef :: undef :: undef :: undef :: undef :: .bool false :: .bool false :: undef :: undef :: undef :: undef :: undef :: undef :: undef :: undef :: undef :: undef :: .tuple #[.agg #[vI y.stamp, .bool y.gone, vI y.expire, vI y.val.kind, vS y.val.text, yp, yt, yz], vI ec] :: vP b2 :: vP v :: .pointer (some ⟨b2, 1, none⟩) :: .slice (some ⟨ab, ao, none⟩) args.length ac :: .pointer (some ⟨ab, ao + 0, none⟩) :: vS key :: .tuple #[.agg #[vI y.stamp, .bool y.gone, vI y.expire, vI y.val.kind, vS y.val.text, yp, yt, yz], vI ec] :: .agg #[vI y.stamp, .bool y.gone, vI y.expire, vI y.val.kind, vS y.val.text, yp, yt, yz] :: vI ec :: undef :: undef :: undef :: undef :: undef :: undef :: undef :: undef :: undef :: undef :: undef :: undef :: undef :: undef :: undef :: undef :: undef :: undef :: undef :: undef :: undef :: undef :: undef :: undef :: undef :: undef :: undef :: undef :: undef :: undef :: undef :: undef :: undef :: undef :: undef :: undef :: undef :: undef :: undef :: undef :: undef :: undef :: undef :: undef :: undef :: undef :: undef :: undef :: undef :: undef :: undef :: undef :: undef :: undef :: undef :: undef :: undef :: undef :: undef :: undef :: undef :: undef :: undef :: undef :: undef :: undef :: undef :: undef :: undef :: undef :: undef :: undef :: undef :: undef :: undef :: undef :: undef :: undef :: undef :: undef :: undef :: undef :: undef :: undef :: undef :: undef :: undef :: undef :: undef :: undef :: undef :: undef :: undef :: undef :: undef :: undef :: undef :: undef :: undef :: undef :: undef :: undef :: undef :: undef :: undef :: undef :: undef :: undef :: undef :: undef :: undef :: undef :: undef :: undef :: undef :: undef :: undef :: undef :: undef :: undef :: undef :: undef :: []), defers := [] } ∧ Inv C (Res.cell b31 [vI y.stamp, .bool y.gone, vI y.expire, vI y.val.kind, vS y.val.text, yp, yt, yz] 86 :: Res.cell v [.iface 63 (vP t)] 40 :: txR t m s p wb va vc sv clk es :: Res.cell b4 [vI 0, vS [], vI 0, vN] 28 :: Res.cell b2 [vP v, .slice (some ⟨ab, ao, none⟩) args.length ac] 74 :: H) wz) [6, 10, 11] [0,1,2,3,4,5] [7,8,9,10,11,12] [6,7,8,9,11,12] 6 10 172 rfl (by kernel_rfl) hv ?_ ?_
 ·intro R2 l1 l2 hR2 hl1 hl2
  simp only [qm, opAt]
  refine tG (vP b2) rfl (ex_field rfl rfl (h8fa74_0 _ _ _)) (tF (vP v) rfl (fun hv => ex_load rfl rfl (run_load1 h8na24 (hv.load 1 0 rfl rfl))) fun f25 hf25 => ?_)
  simp only [zP, po]
  refine tG (.pointer (some ⟨b2, 1, none⟩)) rfl (ex_field rfl rfl (h8fa74_1 _ _ _)) (tF (.slice (some ⟨ab, ao, none⟩) args.length ac) rfl (fun hv => ex_load rfl rfl (run_load1 s1na22 (hv.load 1 1 rfl rfl))) fun f26 hf26 => ?_)
  simp only [zP, po]
  refine tG (.pointer (some ⟨ab, ao + 0, none⟩)) rfl (ex_index rfl rfl rfl (run_idx1 (k := 0) Tryz.underlying22 s9es22 (by omega))) (tF (vS key) rfl (fun hv => ex_load rfl rfl (run_load1 h1na9 (hrdkey _ _ _ (Base.Le.refl _) no_res hv 0 _ rfl))) fun f27 hf27 => ?_)
  simp only [zP, po]
  refine tB ?_ ?_
  ·rw [hl1]; clear hl1 hl2
   simp only [qm, opAt]
   refine dS rfl fun w28 hv => ?_
   replace hv := hv.front 3 rfl
   simp only [eS, eZ] at hv
   replace hv := hv.front 3 rfl
   simp only [eS, eZ] at hv
   refine mC h9callable41 rfl ((viewOf B _ _ v t m s p wb va vc sv clk es M key 2 (hM.more (Base.Le.refl _)) hv).mono ?_) rfl
   rintro e w29 ⟨C, y, yp, yt, yz, ec, hC, rfl, hyv, hof, hv⟩
   refine ⟨_, rfl, dV hv (fK rfl (fK rfl (fK rfl fN))) ?_⟩
   refine dM (.tuple #[.agg #[vI y.stamp, .bool y.gone, vI y.expire, vI y.val.kind, vS y.val.text, yp, yt, yz], vI ec]) rfl (dG (.agg #[vI y.stamp, .bool y.gone, vI y.expire, vI y.val.kind, vS y.val.text, yp, yt, yz]) rfl (ex_extract rfl rfl rfl) ?_)
   simp only [zP, po]
   refine dG (vI ec) rfl (ex_extract rfl rfl rfl) (dS rfl fun w30 hv => ?_)
   refine mem_alloc rfl rfl hv hAal86 (fun b31 w32 hv => ?_)
   refine dV hv (fC (fun ww hv => hf27 ww (ex_load rfl rfl (run_load1 h1na9 (hrdkey _ _ _ hC no_res hv 0 _ rfl)))) (fC (fun ww hv => hf26 ww (ex_load rfl rfl (run_load1 s1na22 (hv.load 4 1 rfl rfl)))) (fC (fun ww hv => hf25 ww (ex_load rfl rfl (run_load1 h8na24 (hv.load 4 0 rfl rfl)))) fN))) (dS rfl fun w33 hv => ?_)
   refine mS 0 rfl hv x0sz86 rfl (by exact ⟨rfl, rfl, rfl, rfl, rfl, hyv.p.one, hyv.t.one, hyv.z.one, trivial⟩) (fun w34 hv => ?_)
   simp only [zO, sp] at hv
   refine dV hv (fK rfl (fK rfl (fK rfl fN))) ?_
   simp only [zP, po]
   refine dA (vI ec) rfl (dE fun wz hv => ?_)
   simp only [zP, po]
   exact hR2 _ _ ⟨C, y, yp, yt, yz, ec, b31, hC, hyv, hof, rfl, (((((hv.front 4 rfl).front 4 rfl).front 4 rfl).front 4 rfl).front 4 rfl)⟩
  rw [hl2]; clear hl1 hl2
  simp only [qm, opAt]
  refine dS rfl fun w35 hv => mem_alloc rfl rfl hv hAal86 (fun b36 w37 hv => ?_)
  refine dV hv (fC (fun ww hv => hf27 ww (ex_load rfl rfl (run_load1 h1na9 (hrdkey _ _ _ (Base.Le.refl _) no_res hv 0 _ rfl)))) (fC (fun ww hv => hf26 ww (ex_load rfl rfl (run_load1 s1na22 (hv.load 2 1 rfl rfl)))) (fC (fun ww hv => hf25 ww (ex_load rfl rfl (run_load1 h8na24 (hv.load 2 0 rfl rfl)))) fN))) (dS rfl fun w38 hv => ?_)
  replace hv := hv.front 4 rfl
  simp only [eS, eZ] at hv
  replace hv := hv.front 4 rfl
  simp only [eS, eZ] at hv
  refine mC h9callable41 rfl ((viewOf B _ _ v t m s p wb va vc sv clk es M key 2 (hM.more (Base.Le.refl _)) hv).mono ?_) rfl
  rintro e w39 ⟨C, y, yp, yt, yz, ec, hC, rfl, hyv, hof, hv⟩
  refine ⟨_, rfl, dV hv (fK rfl (fK rfl (fK rfl fN))) ?_⟩
  refine dM (.tuple #[.agg #[vI y.stamp, .bool y.gone, vI y.expire, vI y.val.kind, vS y.val.text, yp, yt, yz], vI ec]) rfl ?_
  simp only [zP, po]
  refine dG (.agg #[vI y.stamp, .bool y.gone, vI y.expire, vI y.val.kind, vS y.val.text, yp, yt, yz]) rfl (ex_extract rfl rfl rfl) (dG (vI ec) rfl (ex_extract rfl rfl rfl) ?_)
  refine dS rfl fun w40 hv => mS 2 rfl hv x0sz86 rfl (by exact ⟨rfl, rfl, rfl, rfl, rfl, hyv.p.one, hyv.t.one, hyv.z.one, trivial⟩) (fun w41 hv => ?_)
  simp only [zS, zO, sp] at hv
  refine dV hv (fK rfl (fK rfl (fK rfl fN))) ?_
  simp only [zP, po]
  refine dA (vI ec) rfl (dE fun wz hv => ?_)
  simp only [zP, po]
  exact hR2 _ _ ⟨C, y, yp, yt, yz, ec, b36, hC, hyv, hof, rfl, (((((hv.front 4 rfl).front 4 rfl).front 3 rfl).front 3 rfl).front 4 rfl)⟩
 rintro _ w42 ⟨C, y, yp, yt, yz, ec, b31, hC, hyv, hof, rfl, hv⟩
 obtain ⟨pa, pc, sa, sc, za, zc, rfl, rfl, rfl, hokp, hrp, hoks, hrs, hokz, hrz⟩ := valAt_open hyv
 refine tK k24 (sK fun _ k43 => ?_)
 refine sK fun _ k44 => rL (uM rfl ?_)
 by_cases hb45 : ec ≠ 0
 ·refine uG (.bool true) rfl (ex_neq rfl rfl rfl (qT hb45)) (uW k44 ?_)
  refine cT rfl (sK fun _ k46 => ?_)
  refine rL (uM rfl ?_)
  refine xC rscallable24 rfl ((viewWrong C _ _ ec hv).mono ?_) rfl
  rintro e w48 ⟨s47, rfl, hv⟩
  refine ⟨_, rfl, ?_⟩
  simp only [zP, po]
  refine xS 3 rfl hv rssz28 rfl (by exact ⟨rfl, rfl, rfl, rfl, trivial⟩) (fun w49 hv => ?_)
  simp only [zS, zO, sp] at hv
  refine uW k46 (rR ?_)
  refine tR (bC 3 rswd28 hv rfl rfl rfl rfl ?_)
  exact ⟨C, es, M, (.mk 1 s47 0 []), _, hC, rfl, rpAt_leaf, hM.more hC, ⟨hO, fun _ => rfl⟩, ⟨fun _ => ⟨key, hkey, y, ec, hof, .inl ⟨hb45, rfl, rfl⟩⟩, fun _ => ⟨key, hkey, rfl, y, ec, hof, .inl ⟨hb45, rfl⟩⟩, fun _ => ⟨key, hkey, y, ec, hof, .inl ⟨hb45, rfl, rfl⟩⟩, fun h9 => absurd h9 hb17⟩, (hv.kp [2, 2] 2 3)⟩
 refine uG (.bool false) rfl (ex_neq rfl rfl rfl (qF hb45)) (uW k44 ?_)
 refine cF rfl (kS ?_)
 refine tK k43 (sK fun _ k50 => ?_)
 refine rW mixed [] [0,1,2,3,4,5,6,7] 172 rfl (by kernel_rfl) hv ?_
 simp only [qm, opAt]
 refine dG (.pointer (some ⟨b31, 3, none⟩)) rfl (ex_field rfl rfl (x2fa86_3 _ _ _)) (dG (.pointer (some ⟨b31, 5, none⟩)) rfl (ex_field rfl rfl (s1fa79_2 _ _ _)) ?_)
 refine dL _ rfl (fun hv => ex_load rfl rfl (run_load1 s1na76 (hv.load 0 5 rfl rfl))) ?_
 simp only [zP, po]
 refine dG (.pointer (some ⟨b2, 1, none⟩)) rfl (ex_field rfl rfl (h8fa74_1 _ _ _)) (dL _ rfl (fun hv => ex_load rfl rfl (run_load1 s1na22 (hv.load 4 1 rfl rfl))) ?_)
 refine dG (.slice a3 ((args.drop 1).length) c3) rfl (ex_slice (lo' := some (vI ((1 : Nat) : Int))) rfl rfl (congrArg some rfl) rfl rfl ((run_fromAny Tryz.underlying22 s9es22 (by omega)).trans (by rw [ha3, hd1]))) ?_
 simp only [zP, po]
 refine dA (.slice pa y.val.pairs.length pc) rfl (dA (.slice a3 ((args.drop 1).length) c3) rfl ?_)
 refine dE fun w51 hv => ?_
 simp only [zP, po]
 refine tK k50 (sK fun _ k52 => ?_)
 refine sK fun _ k53 => rL (uM rfl ?_)
 refine uW k53 (bB ?_)
 refine sK fun _ k54 => rL ?_
 by_cases hb55 : name = ([72, 83, 69, 84] : List UInt8)
 ·refine uG (.bool true) rfl (ex_seql rfl rfl rfl (qT hb55)) (uA rfl ?_)
  refine uW k54 (cT rfl ?_)
  refine sK fun _ k56 => rL (uL (.agg #[vP v, .slice (some ⟨ab, ao, none⟩) args.length ac]) rfl (lM 4 h8wd74 hv rfl rfl rfl rfl) ?_)
  refine uL (.agg #[vI y.stamp, .bool y.gone, vI y.expire, vI y.val.kind, vS y.val.text, .slice pa y.val.pairs.length pc, .slice sa y.val.texts.length sc, .slice za y.val.zset.length zc]) rfl (lM 0 x0wd86 hv rfl rfl rfl rfl) (uM rfl ?_)
  replace hv := hv.front 2 rfl
  simp only [eS, eZ] at hv
  replace hv := hv.front 2 rfl
  simp only [eS, eZ] at hv
  refine xC hAcallable42 rfl ((chashSet C _ _ v t m s p wb va vc sv clk es M (hM.more hC) (some ⟨ab, ao, none⟩) ac args (hra.more hC (fun _ h => h)) hoka (by omega) key hkey y pa pc _ _ hyv hokp hrp (hO.hsorted hof) a3 c3 (args.drop 1) (hr3.more hC (fun _ h => h)) (by omega) hv).mono ?_) rfl
  rintro e w57 ⟨D, es', M', r, cs, hD, rfl, hrpl, hM', hrel, hv⟩
  refine ⟨_, rfl, ?_⟩
  have hcmd : CmdR M M' r := hrel.cmd hO
  obtain ⟨rk, rs, rn, rv, rfl⟩ := rp_parts hrpl
  simp only [zP, po]
  refine xS 3 rfl hv rssz28 rfl (by exact ⟨rfl, rfl, rfl, hrpl.lv.2, trivial⟩) (fun w58 hv => ?_)
  simp only [zS, zO, sp] at hv
  refine uW k56 (rR ?_)
  refine bZ (tR ?_)
  refine bC 3 rswd28 hv rfl rfl rfl rfl (⟨D, es', M', r, _, (hC.trans hD), rfl, hrpl, hM', hcmd, ⟨fun _ => ⟨key, hkey, y, ec, hof, .inr ⟨by omega, hrel⟩⟩, fun h9 => by rw [hb55] at h9; exact absurd h9 (by decide), fun h9 => by rw [hb55] at h9; exact absurd h9 (by decide), fun h9 => by rw [hb55] at h9; exact absurd h9 (by decide)⟩, (hv.kp [1, 1] 2 3)⟩)
 refine uG (.bool false) rfl (ex_seql rfl rfl rfl (qF hb55)) (uA rfl ?_)
 refine uW k54 (cF rfl ?_)
 refine sK fun _ k59 => rL ?_
 by_cases hb60 : name = ([72, 83, 69, 84, 78, 88] : List UInt8)
 ·refine uG (.bool true) rfl (ex_seql rfl rfl rfl (qT hb60)) (uA rfl ?_)
  refine uW k59 (cT rfl ?_)
  refine sK fun _ k61 => sK fun _ k62 => ?_
  have hal2 := hc2 (.inl hb60)
  obtain ⟨x, hx⟩ : ∃ x, (args.drop 1)[0]? = some x := ⟨_, List.getElem?_eq_getElem (show 0 < (args.drop 1).length by omega)⟩
  obtain ⟨xb, xo, had, hrdx⟩ := text_reads hr3 hx
  subst had
  refine rL (uM rfl ?_)
  refine uM rfl ?_
  refine uG (.pointer (some ⟨xb, xo + 0, none⟩)) rfl (ex_index rfl rfl rfl (run_idx1 (k := 0) Tryz.underlying22 s9es22 (by omega))) ?_
  refine uL _ rfl (run_load1 h1na9 (hrdx _ _ _ hC no_res hv 0 _ rfl)) ?_
  refine xC h7callable43 rfl ((hashGet C _ _ pa pc y.val.pairs x [] (fun r9 h9 => absurd h9 List.not_mem_nil) (hrp.rdW []) (hO.hsorted hof) hyv.pm hv).mono ?_) rfl
  rintro e w63 ⟨rfl, hv⟩
  refine ⟨_, rfl, uM rfl ?_⟩
  refine uE rfl (uE rfl ?_)
  refine uA rfl (uA rfl ?_)
  refine uW k62 (sK fun _ k64 => ?_)
  refine rL (uM rfl ?_)
  refine uW k64 (wpIn_cond_split (t := ((getH y.val.pairs x).isSome)) rfl (fun hc65 => ?_) (fun hc65 => ?_))
  ·refine sK fun _ k66 => rL (xC h8callable44 rfl ((respInt C _ _ 0 hv).mono ?_) rfl)
   rintro e w67 ⟨rfl, hv⟩
   refine ⟨_, rfl, ?_⟩
   simp only [zP, po]
   refine xS 3 rfl hv rssz28 rfl (by exact ⟨rfl, rfl, rfl, rfl, trivial⟩) (fun w68 hv => ?_)
   simp only [zS, zO, sp] at hv
   refine uW k66 (rR ?_)
   refine tR (bZ ?_)
   refine tR (bC 3 rswd28 hv rfl rfl rfl rfl ?_)
   exact ⟨C, es, M, (.mk 2 ([] : List UInt8) 0 []), _, hC, rfl, rpAt_leaf, hM.more hC, ⟨hO, fun _ => rfl⟩, ⟨fun h9 => by rw [hb60] at h9; exact absurd h9 (by decide), fun h9 => by rw [hb60] at h9; exact absurd h9 (by decide), fun h9 => by rw [hb60] at h9; exact absurd h9 (by decide), fun h9 => by rw [hb60] at h9; exact absurd h9 (by decide)⟩, (hv.kp [2, 2] 2 3)⟩
  refine kS (tK k61 ?_)
  refine sK fun _ k69 => rL (uL (.agg #[vP v, .slice (some ⟨ab, ao, none⟩) args.length ac]) rfl (lM 4 h8wd74 hv rfl rfl rfl rfl) ?_)
  refine uL (.agg #[vI y.stamp, .bool y.gone, vI y.expire, vI y.val.kind, vS y.val.text, .slice pa y.val.pairs.length pc, .slice sa y.val.texts.length sc, .slice za y.val.zset.length zc]) rfl (lM 0 x0wd86 hv rfl rfl rfl rfl) (uM rfl ?_)
  replace hv := hv.front 2 rfl
  simp only [eS, eZ] at hv
  replace hv := hv.front 2 rfl
  simp only [eS, eZ] at hv
  refine xC hAcallable42 rfl ((chashSet C _ _ v t m s p wb va vc sv clk es M (hM.more hC) (some ⟨ab, ao, none⟩) ac args (hra.more hC (fun _ h => h)) hoka (by omega) key hkey y pa pc _ _ hyv hokp hrp (hO.hsorted hof) (some ⟨xb, xo, none⟩) c3 (args.drop 1) (hr3.more hC (fun _ h => h)) (by omega) hv).mono ?_) rfl
  rintro e w70 ⟨D, es', M', r, cs, hD, rfl, hrpl, hM', hrel, hv⟩
  refine ⟨_, rfl, ?_⟩
  have hcmd : CmdR M M' r := hrel.cmd hO
  obtain ⟨rk, rs, rn, rv, rfl⟩ := rp_parts hrpl
  simp only [zP, po]
  refine xS 3 rfl hv rssz28 rfl (by exact ⟨rfl, rfl, rfl, hrpl.lv.2, trivial⟩) (fun w71 hv => ?_)
  simp only [zS, zO, sp] at hv
  refine uW k69 (rR ?_)
  refine bZ (tR ?_)
  refine bC 3 rswd28 hv rfl rfl rfl rfl (⟨D, es', M', r, _, (hC.trans hD), rfl, hrpl, hM', hcmd, ⟨fun h9 => by rw [hb60] at h9; exact absurd h9 (by decide), fun h9 => by rw [hb60] at h9; exact absurd h9 (by decide), fun h9 => by rw [hb60] at h9; exact absurd h9 (by decide), fun h9 => by rw [hb60] at h9; exact absurd h9 (by decide)⟩, (hv.kp [1, 1] 2 3)⟩)
 refine uG (.bool false) rfl (ex_seql rfl rfl rfl (qF hb60)) (uA rfl ?_)
 refine uW k59 (cF rfl ?_)
 refine sK fun _ k72 => rL ?_
 by_cases hb73 : name = ([72, 68, 69, 76] : List UInt8)
 ·refine uG (.bool true) rfl (ex_seql rfl rfl rfl (qT hb73)) (uA rfl ?_)
  refine uW k72 (cT rfl ?_)
  refine sK fun _ k74 => rL (uM rfl ?_)
  refine uM rfl ?_
  refine xC hAcallable45 rfl ((hashDel C _ _ pa pc y.val.pairs hrp hyv.pm (hO.hsorted hof) a3 c3 (args.drop 1) (hr3.more hC (fun _ h => h)) (by omega) hv).mono ?_) rfl
  rintro e w75 ⟨D, oa, oc, out, hD, rfl, hoko, hro, hout, hv⟩
  refine ⟨_, rfl, uM rfl ?_⟩
  refine uE rfl (uE rfl ?_)
  refine uA rfl (uA rfl ?_)
  refine uW k74 (sK fun _ k76 => ?_)
  refine sK fun _ k77 => rL (uM rfl ?_)
  by_cases hb78 : ((y.val.pairs.length : Int) - (out.length : Int)) = 0
  ·refine uG (.bool true) rfl (ex_eql rfl rfl rfl (qT hb78)) (uW k77 ?_)
   refine cT rfl (sK fun _ k79 => ?_)
   refine rL (xC h8callable44 rfl ((respInt D _ _ 0 hv).mono ?_) rfl)
   rintro e w80 ⟨rfl, hv⟩
   refine ⟨_, rfl, ?_⟩
   simp only [zP, po]
   refine xS 3 rfl hv rssz28 rfl (by exact ⟨rfl, rfl, rfl, rfl, trivial⟩) (fun w81 hv => ?_)
   simp only [zS, zO, sp] at hv
   refine uW k79 (rR ?_)
   refine tR (bZ ?_)
   refine tR (bC 3 rswd28 hv rfl rfl rfl rfl ?_)
   exact ⟨D, es, M, (.mk 2 ([] : List UInt8) 0 []), _, (hC.trans hD), rfl, rpAt_leaf, hM.more (hC.trans hD), ⟨hO, fun _ => rfl⟩, ⟨fun h9 => by rw [hb73] at h9; exact absurd h9 (by decide), fun h9 => by rw [hb73] at h9; exact absurd h9 (by decide), fun _ => ⟨key, hkey, y, ec, hof, .inr ⟨by omega, _, rfl, .inl ⟨by rw [← hout]; exact hb78, rfl, rfl⟩⟩⟩, fun h9 => by rw [hb73] at h9; exact absurd h9 (by decide)⟩, (hv.kp [2, 2] 2 3)⟩
  refine uG (.bool false) rfl (ex_eql rfl rfl rfl (qF hb78)) (uW k77 ?_)
  refine cF rfl (kS ?_)
  refine tK k76 (sK fun _ k82 => ?_)
  refine rL (uL (.agg #[vP v, .slice (some ⟨ab, ao, none⟩) args.length ac]) rfl (lM 4 h8wd74 hv rfl rfl rfl rfl) ?_)
  refine uL (.agg #[vI y.stamp, .bool y.gone, vI y.expire, vI y.val.kind, vS y.val.text, .slice pa y.val.pairs.length pc, .slice sa y.val.texts.length sc, .slice za y.val.zset.length zc]) rfl (lM 0 x0wd86 hv rfl rfl rfl rfl) (uM rfl ?_)
  replace hv := hv.front 2 rfl
  simp only [eS, eZ] at hv
  replace hv := hv.front 2 rfl
  simp only [eS, eZ] at hv
  refine xC h8callable47 rfl ((chashKeep D _ _ v t m s p wb va vc sv clk es M (hM.more (hC.trans hD)) (some ⟨ab, ao, none⟩) ac args (hra.more (hC.trans hD) (fun _ h => h)) hoka (by omega) key hkey y pa pc _ _ (hyv.more hD) oa oc out (hro.more (Base.Le.refl _) (fun _ h => h)) hoko (by rw [hout]; exact Nat.le_trans delH_len hyv.pm) hv).mono ?_) rfl
  rintro e w83 ⟨G, es', M', e3, hG, rfl, hM', hkp, hv⟩
  refine ⟨_, rfl, uM rfl ?_⟩
  refine xC h8callable44 rfl ((respInt G _ _ ((y.val.pairs.length : Int) - (out.length : Int)) hv).mono ?_) rfl
  rintro e w84 ⟨rfl, hv⟩
  refine ⟨_, rfl, ?_⟩
  simp only [zP, po]
  refine xC h8callable46 rfl ((viewDone G _ _ e3 2 ((y.val.pairs.length : Int) - (out.length : Int)) ([] : List UInt8) (vN) rfl rfl hv).mono ?_) rfl
  rintro e w85 ⟨xr, hxr, rfl, hv⟩
  refine ⟨_, rfl, ?_⟩
  rcases hxr with ⟨hec0, rfl⟩ | ⟨hec0, s86, rfl⟩
  ·simp only [zP, po]
   refine xS 3 rfl hv rssz28 rfl (by exact ⟨rfl, rfl, rfl, rfl, trivial⟩) (fun w87 hv => ?_)
   simp only [zS, zO, sp] at hv
   refine uW k82 (rR ?_)
   refine bZ (tR ?_)
   refine bC 3 rswd28 hv rfl rfl rfl rfl (⟨G, es', M', (.mk 2 ([] : List UInt8) ((y.val.pairs.length : Int) - (out.length : Int)) []), _, ((hC.trans hD).trans hG), rfl, rpAt_leaf, hM'.more (Base.Le.refl _), DoneR.keep (r0 := rInt ((y.val.pairs.length : Int) - (out.length : Int))) hO hkp (.inl ⟨by omega, rfl⟩) isF_int, ⟨fun h9 => by rw [hb73] at h9; exact absurd h9 (by decide), fun h9 => by rw [hb73] at h9; exact absurd h9 (by decide), fun _ => ⟨key, hkey, y, ec, hof, .inr ⟨by omega, ((y.val.pairs.length : Int) - (out.length : Int)), by rw [hout], .inr ⟨hb78, e3, by rw [← hout]; exact hkp, .inl ⟨by omega, rfl⟩⟩⟩⟩, fun h9 => by rw [hb73] at h9; exact absurd h9 (by decide)⟩, (hv.kp [1, 1] 2 3)⟩)
  simp only [zP, po]
  refine xS 3 rfl hv rssz28 rfl (by exact ⟨rfl, rfl, rfl, rfl, trivial⟩) (fun w88 hv => ?_)
  simp only [zS, zO, sp] at hv
  refine uW k82 (rR ?_)
  refine bZ (tR ?_)
  refine bC 3 rswd28 hv rfl rfl rfl rfl (⟨G, es', M', (.mk 1 s86 0 []), _, ((hC.trans hD).trans hG), rfl, rpAt_leaf, hM'.more (Base.Le.refl _), DoneR.keep (r0 := rInt ((y.val.pairs.length : Int) - (out.length : Int))) hO hkp (.inr ⟨by omega, rfl⟩) isF_int, ⟨fun h9 => by rw [hb73] at h9; exact absurd h9 (by decide), fun h9 => by rw [hb73] at h9; exact absurd h9 (by decide), fun _ => ⟨key, hkey, y, ec, hof, .inr ⟨by omega, ((y.val.pairs.length : Int) - (out.length : Int)), by rw [hout], .inr ⟨hb78, e3, by rw [← hout]; exact hkp, .inr ⟨by omega, rfl⟩⟩⟩⟩, fun h9 => by rw [hb73] at h9; exact absurd h9 (by decide)⟩, (hv.kp [1, 1] 2 3)⟩)
 refine uG (.bool false) rfl (ex_seql rfl rfl rfl (qF hb73)) (uA rfl ?_)
 refine uW k72 (cF rfl ?_)
 refine sK fun _ k89 => rL ?_
 by_cases hb90 : name = ([72, 77, 71, 69, 84] : List UInt8)
 ·refine uG (.bool true) rfl (ex_seql rfl rfl rfl (qT hb90)) (uA rfl ?_)
  refine uW k89 (cT rfl ?_)
  refine sK fun _ k91 => rL (uM rfl ?_)
  refine uG (vI (((args.drop 1).length) : Int)) rfl (ex_len0 Tryz.underlying22 rfl rfl) ?_
  refine sl_makeRow (cap := ((args.drop 1).length)) tV (wn rfl) rfl rfl rfl hAel26 (by unfold maxLen; omega) (by omega) hv (fun b92 w93 hv => ?_)
  refine uA rfl (uW k91 ?_)
  refine sK fun _ k94 => sK fun _ k95 => rL (uM rfl ?_)
  refine uG (vI (((args.drop 1).length) : Int)) rfl (ex_len0 Tryz.underlying22 rfl rfl) (uM rfl ?_)
  refine uW k95 (bB ?_)
  gi_loopw [108, 13] (fun x108 x13 wr => ∃ (i : Nat) (ls : List Leaf) (ra : Option Addr) (rc : Nat), x108 = vI i ∧ x13 = .slice ra ls.length rc ∧ i ≤ (args.drop 1).length ∧ ls.length = i ∧ Inv C (Res.row 28 4 (.slice ra ls.length rc) ls.length (ls.flatMap leafN) :: Res.cell b31 [vI y.stamp, .bool y.gone, vI y.expire, vI y.val.kind, vS y.val.text, .slice pa y.val.pairs.length pc, .slice sa y.val.texts.length sc, .slice za y.val.zset.length zc] 86 :: Res.cell v [.iface 63 (vP t)] 40 :: txR t m s p wb va vc sv clk es :: Res.cell b4 [vI 0, vS [], vI 0, vN] 28 :: Res.cell b2 [vP v, .slice (some ⟨ab, ao, none⟩) args.length ac] 74 :: H) wr) (fun x108 x13 _ => (args.drop 1).length - (intOf x108).toNat)
  case atStart => exact ⟨0, [], _, _, rfl, rfl, Nat.zero_le _, rfl, ((((((hv.front 5 rfl).front 5 rfl).front 5 rfl).front 5 rfl).front 5 rfl).front 5 rfl)⟩
  case round =>
   obtain ⟨i, ls, ra, rc, rfl, rfl, hi, hll, hv⟩ := hrel
   refine sK fun _ k97 => rL ?_
   by_cases hb98 : (i : Int) < (((args.drop 1).length) : Int)
   ·refine uG (.bool true) rfl (ex_lss rfl rfl rfl (qT hb98)) (uW k97 ?_)
    refine sK fun _ k99 => cT rfl (kS ?_)
    refine tK k99 (sK fun _ k100 => ?_)
    refine bB (sK fun _ k101 => ?_)
    obtain ⟨x, hx⟩ : ∃ x, (args.drop 1)[i]? = some x := ⟨_, List.getElem?_eq_getElem (show i < (args.drop 1).length by omega)⟩
    obtain ⟨xb, xo, had, hrdx⟩ := text_reads hr3 hx
    subst had
    refine rL (uG (.pointer (some ⟨xb, xo + i, none⟩)) rfl (ex_index rfl rfl rfl (run_idx1 (k := i) Tryz.underlying22 s9es22 (by omega))) ?_)
    refine uL _ rfl (run_load1 h1na9 (hrdx _ _ _ hC no_res hv 0 _ rfl)) (uA rfl ?_)
    refine uW k101 (rL ?_)
    refine uM rfl (uM rfl ?_)
    refine uM rfl ?_
    refine xC hAcallable48 rfl ((chashText C _ _ pa pc y.val.pairs hrp hyv.pm (hO.hsorted hof) x hv).mono ?_) rfl
    rintro e w102 ⟨lf, rfl, hv⟩
    refine ⟨_, rfl, ?_⟩
    simp only [zP, po]
    refine sl_rowAgg (L := [vI lf.k, vS lf.s, vI lf.n, vN]) tV (wn rfl) rfl rfl hv hAel26 rfl (by decide) (fun b103 w104 hv => ?_)
    simp only [zP, po]
    replace hv := hv.front 1 rfl
    simp only [eS, eZ] at hv
    refine sl_append (news := [vI lf.k, vS lf.s, vI lf.n, vN]) tV (wn rfl) rfl rfl rfl hAel26 hv (ok_full (by omega)) rfl (rd_all (hv.get 1 rfl)) (by intro u hu; simp only [List.mem_cons, List.not_mem_nil, or_false] at hu; rcases hu with rfl | rfl | rfl | rfl <;> rfl) (by unfold maxLen; omega) (by omega) (fun rv105 w108 hv => ?_)
    obtain ⟨ra106, rc107, rfl⟩ := row_slice hv.head
    refine uA rfl (uZ ?_)
    refine bN (tK k100 ?_)
    refine rL (uG (vI ((i + 1 : Nat) : Int)) rfl (ex_add rfl rfl rfl (by rw [i64_in (by omega)]; omega)) ?_)
    refine uM rfl (uZ ?_)
    refine then_normal ?_
    simp only [vP, vI, vS, vN]
    go_roundw
    case rel => exact ⟨i + 1, ls ++ [lf], _, _, rfl, by rw [List.length_append, List.length_singleton], by omega, by rw [List.length_append, List.length_singleton, hll], by rw [List.length_append, List.length_singleton, List.flatMap_append]; exact (hv.kp [6, 6, 6, 6, 6, 5] 6 1)⟩
    case measure => show (args.drop 1).length - (((i + 1 : Nat) : Int)).toNat < (args.drop 1).length - ((i : Int)).toNat; omega
   refine uG (.bool false) rfl (ex_lss rfl rfl rfl (qF hb98)) (uW k97 ?_)
   refine sK fun _ k109 => cF rfl (xE ?_)
   refine tX (tX ?_)
   refine bH (tK k94 ?_)
   refine sK fun _ k110 => rL (uM rfl ?_)
   obtain ⟨E, hE, hv, hre, hoke, -⟩ := hv.rowBy
   refine xC h9callable49 rfl ((respList E _ _ ra ls.length rc _ (rList (ls.map leafR)) hoke hre (.inl ⟨ls, rfl, rfl, rfl⟩) (by omega) hv).mono ?_) rfl
   rintro e w114 ⟨J111, lw112, hJ111, rfl, hrw113, hv⟩
   refine ⟨_, rfl, ?_⟩
   simp only [zP, po]
   refine xS 3 rfl hv rssz28 rfl (by exact ⟨rfl, rfl, rfl, hrw113.lv.2, trivial⟩) (fun w115 hv => ?_)
   simp only [zS, zO, sp] at hv
   refine uW k110 (rR ?_)
   refine bZ (tR ?_)
   refine bC 3 rswd28 hv rfl rfl rfl rfl (⟨J111, es, M, rList (ls.map leafR), _, ((hC.trans hE).trans hJ111), rfl, (hrw113.more (Base.Le.refl _)), hM.more ((hC.trans hE).trans hJ111), ⟨hO, fun _ => rfl⟩, ⟨fun h9 => by rw [hb90] at h9; exact absurd h9 (by decide), fun h9 => by rw [hb90] at h9; exact absurd h9 (by decide), fun h9 => by rw [hb90] at h9; exact absurd h9 (by decide), fun h9 => by rw [hb90] at h9; exact absurd h9 (by decide)⟩, (hv.kp [2, 2] 2 3)⟩)
 refine uG (.bool false) rfl (ex_seql rfl rfl rfl (qF hb90)) (uA rfl ?_)
 refine uW k89 (cF rfl ?_)
 refine sK fun _ k116 => rL ?_
 by_cases hb117 : name = ([72, 71, 69, 84] : List UInt8)
 ·refine uG (.bool true) rfl (ex_seql rfl rfl rfl (qT hb117)) (uA rfl ?_)
  refine uW k116 (cT rfl ?_)
  refine sK fun _ k118 => ?_
  have hal2 := hc2 (.inr (.inl hb117))
  obtain ⟨x, hx⟩ : ∃ x, (args.drop 1)[0]? = some x := ⟨_, List.getElem?_eq_getElem (show 0 < (args.drop 1).length by omega)⟩
  obtain ⟨xb, xo, had, hrdx⟩ := text_reads hr3 hx
  subst had
  refine rL (uM rfl ?_)
  refine uM rfl ?_
  refine uG (.pointer (some ⟨xb, xo + 0, none⟩)) rfl (ex_index rfl rfl rfl (run_idx1 (k := 0) Tryz.underlying22 s9es22 (by omega))) ?_
  refine uL _ rfl (run_load1 h1na9 (hrdx _ _ _ hC no_res hv 0 _ rfl)) ?_
  refine xC hAcallable48 rfl ((chashText C _ _ pa pc y.val.pairs hrp hyv.pm (hO.hsorted hof) x hv).mono ?_) rfl
  rintro e w119 ⟨lf, rfl, hv⟩
  refine ⟨_, rfl, ?_⟩
  simp only [zP, po]
  refine xS 3 rfl hv rssz28 rfl (by exact ⟨rfl, rfl, rfl, rfl, trivial⟩) (fun w120 hv => ?_)
  simp only [zS, zO, sp] at hv
  refine uW k118 (rR ?_)
  refine bZ (tR ?_)
  refine bC 3 rswd28 hv rfl rfl rfl rfl (⟨C, es, M, (.mk lf.k lf.s lf.n []), _, hC, rfl, rpAt_leaf, hM.more hC, ⟨hO, fun _ => rfl⟩, ⟨fun h9 => by rw [hb117] at h9; exact absurd h9 (by decide), fun h9 => by rw [hb117] at h9; exact absurd h9 (by decide), fun h9 => by rw [hb117] at h9; exact absurd h9 (by decide), fun h9 => by rw [hb117] at h9; exact absurd h9 (by decide)⟩, (hv.kp [2, 2] 2 3)⟩)
 refine uG (.bool false) rfl (ex_seql rfl rfl rfl (qF hb117)) (uA rfl ?_)
 refine uW k116 (cF rfl ?_)
 refine sK fun _ k121 => rL ?_
 by_cases hb122 : name = ([72, 69, 88, 73, 83, 84, 83] : List UInt8)
 ·refine uG (.bool true) rfl (ex_seql rfl rfl rfl (qT hb122)) (uA rfl ?_)
  refine uW k121 (cT rfl ?_)
  refine sK fun _ k123 => sK fun _ k124 => ?_
  have hal2 := hc2 (.inr (.inr (.inl hb122)))
  obtain ⟨x, hx⟩ : ∃ x, (args.drop 1)[0]? = some x := ⟨_, List.getElem?_eq_getElem (show 0 < (args.drop 1).length by omega)⟩
  obtain ⟨xb, xo, had, hrdx⟩ := text_reads hr3 hx
  subst had
  refine rL (uM rfl ?_)
  refine uM rfl ?_
  refine uG (.pointer (some ⟨xb, xo + 0, none⟩)) rfl (ex_index rfl rfl rfl (run_idx1 (k := 0) Tryz.underlying22 s9es22 (by omega))) ?_
  refine uL _ rfl (run_load1 h1na9 (hrdx _ _ _ hC no_res hv 0 _ rfl)) ?_
  refine xC h7callable43 rfl ((hashGet C _ _ pa pc y.val.pairs x [] (fun r9 h9 => absurd h9 List.not_mem_nil) (hrp.rdW []) (hO.hsorted hof) hyv.pm hv).mono ?_) rfl
  rintro e w125 ⟨rfl, hv⟩
  refine ⟨_, rfl, uM rfl ?_⟩
  refine uE rfl (uE rfl ?_)
  refine uA rfl (uA rfl ?_)
  refine uW k124 (sK fun _ k126 => ?_)
  refine rL (uM rfl ?_)
  refine uW k126 (wpIn_cond_split (t := ((getH y.val.pairs x).isSome)) rfl (fun hc127 => ?_) (fun hc127 => ?_))
  ·refine sK fun _ k128 => rL (xC h8callable44 rfl ((respInt C _ _ 1 hv).mono ?_) rfl)
   rintro e w129 ⟨rfl, hv⟩
   refine ⟨_, rfl, ?_⟩
   simp only [zP, po]
   refine xS 3 rfl hv rssz28 rfl (by exact ⟨rfl, rfl, rfl, rfl, trivial⟩) (fun w130 hv => ?_)
   simp only [zS, zO, sp] at hv
   refine uW k128 (rR ?_)
   refine tR (bZ ?_)
   refine tR (bC 3 rswd28 hv rfl rfl rfl rfl ?_)
   exact ⟨C, es, M, (.mk 2 ([] : List UInt8) 1 []), _, hC, rfl, rpAt_leaf, hM.more hC, ⟨hO, fun _ => rfl⟩, ⟨fun h9 => by rw [hb122] at h9; exact absurd h9 (by decide), fun h9 => by rw [hb122] at h9; exact absurd h9 (by decide), fun h9 => by rw [hb122] at h9; exact absurd h9 (by decide), fun h9 => by rw [hb122] at h9; exact absurd h9 (by decide)⟩, (hv.kp [2, 2] 2 3)⟩
  refine kS (tK k123 ?_)
  refine sK fun _ k131 => rL (xC h8callable44 rfl ((respInt C _ _ 0 hv).mono ?_) rfl)
  rintro e w132 ⟨rfl, hv⟩
  refine ⟨_, rfl, ?_⟩
  simp only [zP, po]
  refine xS 3 rfl hv rssz28 rfl (by exact ⟨rfl, rfl, rfl, rfl, trivial⟩) (fun w133 hv => ?_)
  simp only [zS, zO, sp] at hv
  refine uW k131 (rR ?_)
  refine bZ (tR ?_)
  refine bC 3 rswd28 hv rfl rfl rfl rfl (⟨C, es, M, (.mk 2 ([] : List UInt8) 0 []), _, hC, rfl, rpAt_leaf, hM.more hC, ⟨hO, fun _ => rfl⟩, ⟨fun h9 => by rw [hb122] at h9; exact absurd h9 (by decide), fun h9 => by rw [hb122] at h9; exact absurd h9 (by decide), fun h9 => by rw [hb122] at h9; exact absurd h9 (by decide), fun h9 => by rw [hb122] at h9; exact absurd h9 (by decide)⟩, (hv.kp [2, 2] 2 3)⟩)
 refine uG (.bool false) rfl (ex_seql rfl rfl rfl (qF hb122)) (uA rfl ?_)
 refine uW k121 (cF rfl ?_)
 refine sK fun _ k134 => rL ?_
 by_cases hb135 : name = ([72, 83, 84, 82, 76, 69, 78] : List UInt8)
 ·refine uG (.bool true) rfl (ex_seql rfl rfl rfl (qT hb135)) (uA rfl ?_)
  refine uW k134 (cT rfl ?_)
  refine sK fun _ k136 => ?_
  have hal2 := hc2 (.inr (.inr (.inr (hb135))))
  obtain ⟨x, hx⟩ : ∃ x, (args.drop 1)[0]? = some x := ⟨_, List.getElem?_eq_getElem (show 0 < (args.drop 1).length by omega)⟩
  obtain ⟨xb, xo, had, hrdx⟩ := text_reads hr3 hx
  subst had
  refine rL (uM rfl ?_)
  refine uM rfl ?_
  refine uG (.pointer (some ⟨xb, xo + 0, none⟩)) rfl (ex_index rfl rfl rfl (run_idx1 (k := 0) Tryz.underlying22 s9es22 (by omega))) ?_
  refine uL _ rfl (run_load1 h1na9 (hrdx _ _ _ hC no_res hv 0 _ rfl)) ?_
  refine xC h7callable43 rfl ((hashGet C _ _ pa pc y.val.pairs x [] (fun r9 h9 => absurd h9 List.not_mem_nil) (hrp.rdW []) (hO.hsorted hof) hyv.pm hv).mono ?_) rfl
  rintro e w137 ⟨rfl, hv⟩
  refine ⟨_, rfl, uM rfl ?_⟩
  refine uE rfl (uE rfl ?_)
  refine uA rfl (uA rfl ?_)
  refine uW k136 (sK fun _ k138 => ?_)
  refine rL (uM rfl ?_)
  refine uG (vI (((getH y.val.pairs x).getD []).length : Int)) rfl (ex_lenStr Tryz.underlying9 rfl rfl) ?_
  refine xC h8callable44 rfl ((respInt C _ _ (((getH y.val.pairs x).getD []).length : Int) hv).mono ?_) rfl
  rintro e w139 ⟨rfl, hv⟩
  refine ⟨_, rfl, ?_⟩
  simp only [zP, po]
  refine xS 3 rfl hv rssz28 rfl (by exact ⟨rfl, rfl, rfl, rfl, trivial⟩) (fun w140 hv => ?_)
  simp only [zS, zO, sp] at hv
  refine uW k138 (rR ?_)
  refine bZ (tR ?_)
  refine bC 3 rswd28 hv rfl rfl rfl rfl (⟨C, es, M, (.mk 2 ([] : List UInt8) (((getH y.val.pairs x).getD []).length : Int) []), _, hC, rfl, rpAt_leaf, hM.more hC, ⟨hO, fun _ => rfl⟩, ⟨fun h9 => by rw [hb135] at h9; exact absurd h9 (by decide), fun h9 => by rw [hb135] at h9; exact absurd h9 (by decide), fun h9 => by rw [hb135] at h9; exact absurd h9 (by decide), fun h9 => by rw [hb135] at h9; exact absurd h9 (by decide)⟩, (hv.kp [2, 2] 2 3)⟩)
 refine uG (.bool false) rfl (ex_seql rfl rfl rfl (qF hb135)) (uA rfl ?_)
 refine uW k134 (cF rfl ?_)
 refine sK fun _ k141 => rL ?_
 by_cases hb142 : name = ([72, 71, 69, 84, 65, 76, 76] : List UInt8)
 ·refine uG (.bool true) rfl (ex_seql rfl rfl rfl (qT hb142)) (uA rfl ?_)
  refine uW k141 (cT rfl ?_)
  refine sK fun _ k143 => rL (uM rfl ?_)
  refine xC h9callable51 rfl ((chashFlat C _ _ pa pc y.val.pairs hrp hyv.pm hv).mono ?_) rfl
  rintro e w144 ⟨F, oa, oc, out, hF, rfl, hoko, hro, hout, hv⟩
  refine ⟨_, rfl, ?_⟩
  have hol : out.length ≤ 1000000 := by rw [hout, flatH_len]; have := (hashOk_iff.1 (hO.hash hof)).1; omega
  simp only [zP, po]
  refine xC h9callable50 rfl ((respStrsR F _ _ oa oc out (hro.more (Base.Le.refl _) (fun _ h => h)) (hol) hv).mono ?_) rfl
  rintro e w149 ⟨D145, da146, dc147, hD145, rfl, hrp148o, hrp148, hv⟩
  refine ⟨_, rfl, ?_⟩
  simp only [zP, po]
  refine xS 3 rfl hv rssz28 rfl (by exact ⟨rfl, rfl, rfl, rfl, trivial⟩) (fun w150 hv => ?_)
  simp only [zS, zO, sp] at hv
  refine uW k143 (rR ?_)
  refine bZ (tR ?_)
  refine bC 3 rswd28 hv rfl rfl rfl rfl (⟨D145, es, M, (rStrs out), _, ((hC.trans hF).trans hD145), rfl, (rpAt_strs hrp148o (hrp148.more (Base.Le.refl _) (fun _ h => h))), hM.more ((hC.trans hF).trans hD145), ⟨hO, fun _ => rfl⟩, ⟨fun h9 => by rw [hb142] at h9; exact absurd h9 (by decide), fun _ => ⟨key, hkey, rfl, y, ec, hof, .inr ⟨by omega, by rw [hout]⟩⟩, fun h9 => by rw [hb142] at h9; exact absurd h9 (by decide), fun h9 => by rw [hb142] at h9; exact absurd h9 (by decide)⟩, (hv.kp [2, 2] 2 3)⟩)
 refine uG (.bool false) rfl (ex_seql rfl rfl rfl (qF hb142)) (uA rfl ?_)
 refine uW k141 (cF rfl ?_)
 refine sK fun _ k151 => rL ?_
 by_cases hb152 : name = ([72, 75, 69, 89, 83] : List UInt8)
 ·refine uG (.bool true) rfl (ex_seql rfl rfl rfl (qT hb152)) (uA rfl ?_)
  refine uW k151 (cT rfl ?_)
  refine sK fun _ k153 => rL (uM rfl ?_)
  refine xC hAcallable52 rfl ((hashFields C _ _ pa pc y.val.pairs hrp hyv.pm hv).mono ?_) rfl
  rintro e w154 ⟨F, oa, oc, out, hF, rfl, hoko, hro, hout, hv⟩
  refine ⟨_, rfl, ?_⟩
  have hol : out.length ≤ 1000000 := by rw [hout, List.length_map]; have := (hashOk_iff.1 (hO.hash hof)).1; omega
  simp only [zP, po]
  refine xC h9callable50 rfl ((respStrsR F _ _ oa oc out (hro.more (Base.Le.refl _) (fun _ h => h)) (hol) hv).mono ?_) rfl
  rintro e w159 ⟨D155, da156, dc157, hD155, rfl, hrp158o, hrp158, hv⟩
  refine ⟨_, rfl, ?_⟩
  simp only [zP, po]
  refine xS 3 rfl hv rssz28 rfl (by exact ⟨rfl, rfl, rfl, rfl, trivial⟩) (fun w160 hv => ?_)
  simp only [zS, zO, sp] at hv
  refine uW k153 (rR ?_)
  refine bZ (tR ?_)
  refine bC 3 rswd28 hv rfl rfl rfl rfl (⟨D155, es, M, (rStrs out), _, ((hC.trans hF).trans hD155), rfl, (rpAt_strs hrp158o (hrp158.more (Base.Le.refl _) (fun _ h => h))), hM.more ((hC.trans hF).trans hD155), ⟨hO, fun _ => rfl⟩, ⟨fun h9 => by rw [hb152] at h9; exact absurd h9 (by decide), fun h9 => by rw [hb152] at h9; exact absurd h9 (by decide), fun h9 => by rw [hb152] at h9; exact absurd h9 (by decide), fun h9 => by rw [hb152] at h9; exact absurd h9 (by decide)⟩, (hv.kp [2, 2] 2 3)⟩)
 refine uG (.bool false) rfl (ex_seql rfl rfl rfl (qF hb152)) (uA rfl ?_)
 refine uW k151 (cF rfl ?_)
 refine sK fun _ k161 => rL ?_
 by_cases hb162 : name = ([72, 86, 65, 76, 83] : List UInt8)
 ·refine uG (.bool true) rfl (ex_seql rfl rfl rfl (qT hb162)) (uA rfl ?_)
  refine uW k161 (cT rfl ?_)
  refine sK fun _ k163 => rL (uM rfl ?_)
  refine xC hAcallable53 rfl ((hashTexts C _ _ pa pc y.val.pairs hrp hyv.pm hv).mono ?_) rfl
  rintro e w164 ⟨F, oa, oc, out, hF, rfl, hoko, hro, hout, hv⟩
  refine ⟨_, rfl, ?_⟩
  have hol : out.length ≤ 1000000 := by rw [hout, List.length_map]; have := (hashOk_iff.1 (hO.hash hof)).1; omega
  simp only [zP, po]
  refine xC h9callable50 rfl ((respStrsR F _ _ oa oc out (hro.more (Base.Le.refl _) (fun _ h => h)) (hol) hv).mono ?_) rfl
  rintro e w169 ⟨D165, da166, dc167, hD165, rfl, hrp168o, hrp168, hv⟩
  refine ⟨_, rfl, ?_⟩
  simp only [zP, po]
  refine xS 3 rfl hv rssz28 rfl (by exact ⟨rfl, rfl, rfl, rfl, trivial⟩) (fun w170 hv => ?_)
  simp only [zS, zO, sp] at hv
  refine uW k163 (rR ?_)
  refine bZ (tR ?_)
  refine bC 3 rswd28 hv rfl rfl rfl rfl (⟨D165, es, M, (rStrs out), _, ((hC.trans hF).trans hD165), rfl, (rpAt_strs hrp168o (hrp168.more (Base.Le.refl _) (fun _ h => h))), hM.more ((hC.trans hF).trans hD165), ⟨hO, fun _ => rfl⟩, ⟨fun h9 => by rw [hb162] at h9; exact absurd h9 (by decide), fun h9 => by rw [hb162] at h9; exact absurd h9 (by decide), fun h9 => by rw [hb162] at h9; exact absurd h9 (by decide), fun h9 => by rw [hb162] at h9; exact absurd h9 (by decide)⟩, (hv.kp [2, 2] 2 3)⟩)
 refine uG (.bool false) rfl (ex_seql rfl rfl rfl (qF hb162)) (uA rfl ?_)
 refine uW k161 (cF rfl ?_)
 refine kS (bN ?_)
 refine tK k52 (sK fun _ k171 => ?_)
 refine rL (uM rfl ?_)
 refine uG (vI (y.val.pairs.length : Int)) rfl (ex_len0 Tryz.underlying76 rfl rfl) ?_
 refine xC h8callable44 rfl ((respInt C _ _ (y.val.pairs.length : Int) hv).mono ?_) rfl
 rintro e w172 ⟨rfl, hv⟩
 refine ⟨_, rfl, ?_⟩
 simp only [zP, po]
 refine xS 3 rfl hv rssz28 rfl (by exact ⟨rfl, rfl, rfl, rfl, trivial⟩) (fun w173 hv => ?_)
 simp only [zS, zO, sp] at hv
 refine uW k171 (rR ?_)
 refine bC 3 rswd28 hv rfl rfl rfl rfl (⟨C, es, M, (.mk 2 ([] : List UInt8) (y.val.pairs.length : Int) []), _, hC, rfl, rpAt_leaf, hM.more hC, ⟨hO, fun _ => rfl⟩, ⟨fun h9 => absurd h9 hb55, fun h9 => absurd h9 hb142, fun h9 => absurd h9 hb73, fun h9 => absurd h9 hb17⟩, (hv.kp [2, 2] 2 3)⟩)
abbrev GRow := List UInt8 × Int × Int × Int
def gRows : List GRow := [([72, 68, 69, 76], 2, (-1), 1), ([72, 69, 88, 73, 83, 84, 83], 2, 2, 1), ([72, 71, 69, 84], 2, 2, 1), ([72, 71, 69, 84, 65, 76, 76], 1, 1, 1), ([72, 73, 78, 67, 82, 66, 89], 3, 3, 1), ([72, 75, 69, 89, 83], 1, 1, 1), ([72, 76, 69, 78], 1, 1, 1), ([72, 77, 71, 69, 84], 2, (-1), 1), ([72, 83, 67, 65, 78], 2, (-1), 1), ([72, 83, 69, 84], 3, (-1), 2), ([72, 83, 69, 84, 78, 88], 3, 3, 1), ([72, 83, 84, 82, 76, 69, 78], 2, 2, 1), ([72, 86, 65, 76, 83], 1, 1, 1)]
def gNames : List (List UInt8) := gRows.map (·.1)
abbrev gRowF (x : GRow) : List Value := [strV x.1, vI x.2.1, vI x.2.2.1, vI x.2.2.2]
theorem gRow_reads {B : Base} {l : List GRow} {ad : Option Addr} {i : Nat} {x : GRow} (hr : RdV B [] ad (l.flatMap gRowF)) (hx : l[i]? = some x) : ∃ b off, ad = some ⟨b, off, none⟩ ∧ Reads B [] b (off + i * 4) (gRowF x) := rowk_reads (k := 4) (fun _ => rfl) (by decide) hr hx
theorem gRows_len : gRows.length = 13 := rfl
theorem gRows_inj : ∀ x ∈ gRows, ∀ y ∈ gRows, x.1 = y.1 → x = y := by decide
theorem gRowsC (B : Base) (H : List Res) (w : World) (hv : Inv B H w) :
  Calls Tryz.prog 25 #[] w fun e w' => ∃ C ra rc, B.Le C ∧ e = .returned (.slice ra gRows.length rc) ∧ RdV C [] ra (gRows.flatMap gRowF) ∧ Inv C H w' := by
 refine cW Tryz.func25 rfl Tryz.ntmps25 ?_
 simp only [al]
 refine sK fun _ k1 => rL (uA rfl ?_)
 refine uW k1 (sK fun _ k2 => ?_)
 refine rL (uG (.agg #[vS [72, 68, 69, 76], vI 2, vI (-1), vI 1]) rfl (ex_buildN (vs := #[(0, vS [72, 68, 69, 76]), (1, vI 2), (2, vI (-1)), (3, vI 1)]) rfl (by simp only [List.map_toArray, List.map_cons, List.map_nil]; rfl) (by kernel_rfl)) ?_)
 refine uG (.agg #[vS [72, 69, 88, 73, 83, 84, 83], vI 2, vI 2, vI 1]) rfl (ex_buildN (vs := #[(0, vS [72, 69, 88, 73, 83, 84, 83]), (1, vI 2), (2, vI 2), (3, vI 1)]) rfl (by simp only [List.map_toArray, List.map_cons, List.map_nil]; rfl) (by kernel_rfl)) ?_
 refine uG (.agg #[vS [72, 71, 69, 84], vI 2, vI 2, vI 1]) rfl (ex_buildN (vs := #[(0, vS [72, 71, 69, 84]), (1, vI 2), (2, vI 2), (3, vI 1)]) rfl (by simp only [List.map_toArray, List.map_cons, List.map_nil]; rfl) (by kernel_rfl)) ?_
 refine uG (.agg #[vS [72, 71, 69, 84, 65, 76, 76], vI 1, vI 1, vI 1]) rfl (ex_buildN (vs := #[(0, vS [72, 71, 69, 84, 65, 76, 76]), (1, vI 1), (2, vI 1), (3, vI 1)]) rfl (by simp only [List.map_toArray, List.map_cons, List.map_nil]; rfl) (by kernel_rfl)) ?_
 refine uG (.agg #[vS [72, 73, 78, 67, 82, 66, 89], vI 3, vI 3, vI 1]) rfl (ex_buildN (vs := #[(0, vS [72, 73, 78, 67, 82, 66, 89]), (1, vI 3), (2, vI 3), (3, vI 1)]) rfl (by simp only [List.map_toArray, List.map_cons, List.map_nil]; rfl) (by kernel_rfl)) ?_
 refine uG (.agg #[vS [72, 75, 69, 89, 83], vI 1, vI 1, vI 1]) rfl (ex_buildN (vs := #[(0, vS [72, 75, 69, 89, 83]), (1, vI 1), (2, vI 1), (3, vI 1)]) rfl (by simp only [List.map_toArray, List.map_cons, List.map_nil]; rfl) (by kernel_rfl)) ?_
 refine uG (.agg #[vS [72, 76, 69, 78], vI 1, vI 1, vI 1]) rfl (ex_buildN (vs := #[(0, vS [72, 76, 69, 78]), (1, vI 1), (2, vI 1), (3, vI 1)]) rfl (by simp only [List.map_toArray, List.map_cons, List.map_nil]; rfl) (by kernel_rfl)) ?_
 refine uG (.agg #[vS [72, 77, 71, 69, 84], vI 2, vI (-1), vI 1]) rfl (ex_buildN (vs := #[(0, vS [72, 77, 71, 69, 84]), (1, vI 2), (2, vI (-1)), (3, vI 1)]) rfl (by simp only [List.map_toArray, List.map_cons, List.map_nil]; rfl) (by kernel_rfl)) ?_
 refine uG (.agg #[vS [72, 83, 67, 65, 78], vI 2, vI (-1), vI 1]) rfl (ex_buildN (vs := #[(0, vS [72, 83, 67, 65, 78]), (1, vI 2), (2, vI (-1)), (3, vI 1)]) rfl (by simp only [List.map_toArray, List.map_cons, List.map_nil]; rfl) (by kernel_rfl)) ?_
 refine uG (.agg #[vS [72, 83, 69, 84], vI 3, vI (-1), vI 2]) rfl (ex_buildN (vs := #[(0, vS [72, 83, 69, 84]), (1, vI 3), (2, vI (-1)), (3, vI 2)]) rfl (by simp only [List.map_toArray, List.map_cons, List.map_nil]; rfl) (by kernel_rfl)) ?_
 refine uG (.agg #[vS [72, 83, 69, 84, 78, 88], vI 3, vI 3, vI 1]) rfl (ex_buildN (vs := #[(0, vS [72, 83, 69, 84, 78, 88]), (1, vI 3), (2, vI 3), (3, vI 1)]) rfl (by simp only [List.map_toArray, List.map_cons, List.map_nil]; rfl) (by kernel_rfl)) ?_
 refine uG (.agg #[vS [72, 83, 84, 82, 76, 69, 78], vI 2, vI 2, vI 1]) rfl (ex_buildN (vs := #[(0, vS [72, 83, 84, 82, 76, 69, 78]), (1, vI 2), (2, vI 2), (3, vI 1)]) rfl (by simp only [List.map_toArray, List.map_cons, List.map_nil]; rfl) (by kernel_rfl)) ?_
 refine uG (.agg #[vS [72, 86, 65, 76, 83], vI 1, vI 1, vI 1]) rfl (ex_buildN (vs := #[(0, vS [72, 86, 65, 76, 83]), (1, vI 1), (2, vI 1), (3, vI 1)]) rfl (by simp only [List.map_toArray, List.map_cons, List.map_nil]; rfl) (by kernel_rfl)) ?_
 refine sl_rowN (pv := #[(0, .agg #[vS [72, 68, 69, 76], vI 2, vI (-1), vI 1]), (1, .agg #[vS [72, 69, 88, 73, 83, 84, 83], vI 2, vI 2, vI 1]), (2, .agg #[vS [72, 71, 69, 84], vI 2, vI 2, vI 1]), (3, .agg #[vS [72, 71, 69, 84, 65, 76, 76], vI 1, vI 1, vI 1]), (4, .agg #[vS [72, 73, 78, 67, 82, 66, 89], vI 3, vI 3, vI 1]), (5, .agg #[vS [72, 75, 69, 89, 83], vI 1, vI 1, vI 1]), (6, .agg #[vS [72, 76, 69, 78], vI 1, vI 1, vI 1]), (7, .agg #[vS [72, 77, 71, 69, 84], vI 2, vI (-1), vI 1]), (8, .agg #[vS [72, 83, 67, 65, 78], vI 2, vI (-1), vI 1]), (9, .agg #[vS [72, 83, 69, 84], vI 3, vI (-1), vI 2]), (10, .agg #[vS [72, 83, 69, 84, 78, 88], vI 3, vI 3, vI 1]), (11, .agg #[vS [72, 83, 84, 82, 76, 69, 78], vI 2, vI 2, vI 1]), (12, .agg #[vS [72, 86, 65, 76, 83], vI 1, vI 1, vI 1])]) (L := [vS [72, 68, 69, 76], vI 2, vI (-1), vI 1, vS [72, 69, 88, 73, 83, 84, 83], vI 2, vI 2, vI 1, vS [72, 71, 69, 84], vI 2, vI 2, vI 1, vS [72, 71, 69, 84, 65, 76, 76], vI 1, vI 1, vI 1, vS [72, 73, 78, 67, 82, 66, 89], vI 3, vI 3, vI 1, vS [72, 75, 69, 89, 83], vI 1, vI 1, vI 1, vS [72, 76, 69, 78], vI 1, vI 1, vI 1, vS [72, 77, 71, 69, 84], vI 2, vI (-1), vI 1, vS [72, 83, 67, 65, 78], vI 2, vI (-1), vI 1, vS [72, 83, 69, 84], vI 3, vI (-1), vI 2, vS [72, 83, 69, 84, 78, 88], vI 3, vI 3, vI 1, vS [72, 83, 84, 82, 76, 69, 78], vI 2, vI 2, vI 1, vS [72, 86, 65, 76, 83], vI 1, vI 1, vI 1]) (e := 72) tV (wn rfl) rfl (by simp only [List.map_toArray, List.map_cons, List.map_nil]; rfl) hv (fun w => by kernel_rfl) (fun b3 w4 hv => ?_)
 refine uA rfl (uW k2 ?_)
 refine rR (bR rfl rfl ?_)
 obtain ⟨C, hC, hv, hr, -, -⟩ := (hv.cellRow (n := 13) (c := 13) (size := 4) rfl (by decide) (by decide)).rowBy
 exact ⟨C, _, _, hC, rfl, hr, hv⟩
theorem hBcallable25 : Callable Tryz.prog 25 := cb Tryz.func25 (by kernel_rfl)
theorem hBes69 (w : World) : (sizeOf (Tryz.prog.elem 69)).run Tryz.prog w = .ok 4 w := by kernel_rfl
theorem hBwd72 : Wide Tryz.prog 72 4 := wide_of (fun w => by kernel_rfl) (by kernel_rfl)
theorem hBal72 : AL Tryz.prog 72 [vS [], vI 0, vI 0, vI 0] := fun w => by kernel_rfl
theorem hBsz72 : (Tryz.prog.info? 72).map (·.size) = some 4 := by kernel_rfl
theorem hBfa72_0 : FA Tryz.prog 72 0 0 := fun w b o => by kernel_rfl
abbrev GX := DoH
def GArgs (name : List UInt8) (n : Nat) : Prop := ∃ x ∈ gRows, x.1 = name ∧ x.2.1 ≤ (n : Int) ∧ (0 ≤ x.2.2.1 → (n : Int) ≤ x.2.2.1) ∧ ((n : Int) - x.2.1).tmod x.2.2.2 = 0
theorem gRows_bnd : ∀ x ∈ gRows, 1 ≤ x.2.1 ∧ x.2.1 ≤ 3 ∧ x.2.2.2 ≠ 0 := by decide
theorem gRows_two : ∀ x ∈ gRows, (x.1 = ([72, 83, 69, 84, 78, 88] : List UInt8) ∨ x.1 = ([72, 71, 69, 84] : List UInt8) ∨ x.1 = ([72, 69, 88, 73, 83, 84, 83] : List UInt8) ∨ x.1 = ([72, 83, 84, 82, 76, 69, 78] : List UInt8)) → 2 ≤ x.2.1 := by decide
theorem gRows_three : ∀ x ∈ gRows, x.1 = ([72, 73, 78, 67, 82, 66, 89] : List UInt8) → 3 ≤ x.2.1 := by decide
theorem gDoAll (B : Base) (H : List Res) (w : World) (v t m s p wb : Nat) (va : Option Addr) (vc : Nat) (sv : Value) (clk : Int) (es : List (List UInt8 × Value)) (M : List (List UInt8 × Ver)) (hM : VM B es M) (hO : OkM M) (aa : Option Addr) (ac : Nat) (args : List (List UInt8)) (hra : RdV B [] aa (textCells args)) (hoka : SliceOk aa args.length ac) (hma : args.length ≤ 1000) (name : List UInt8) (hgr : GArgs name args.length) (hxl : ∀ x ∈ args, x.length ≤ 9223372036854775807) (hsm : (∀ x ∈ args, x.length ≤ 1000000) ∨ M = []) (hN : NumB B) (hv : Inv B (Res.cell v [.iface 63 (vP t)] 40 :: txR t m s p wb va vc sv clk es :: H) w) : Calls Tryz.prog 26 #[.agg #[vP v, .slice aa args.length ac], vS name] w fun e w' => ∃ C es' M' r cs, B.Le C ∧ e = .returned (.agg cs.toArray) ∧ RpAt C r cs ∧ VM C es' M' ∧ CmdR M M' r ∧ GX M clk name args M' r ∧ Inv C (Res.cell v [.iface 63 (vP t)] 40 :: txR t m s p wb va vc sv clk es' :: H) w' := by
 obtain ⟨x, hx, hxn, hx1, hx2, hx3⟩ := hgr
 have h1 := (gRows_bnd x hx).1
 exact chashDoAll B H w v t m s p wb va vc sv clk es M hM hO aa ac args hra hoka hma name (by omega) (fun h => by have := gRows_two x hx (by rw [hxn]; exact h); omega) (fun h => by have := gRows_three x hx (by rw [hxn]; exact h); omega) hxl hsm hN hv
theorem hBal28 : AL Tryz.prog 28 [vI 0, vS [], vI 0, vN] := fun w => by kernel_rfl
theorem hBal4 : AL Tryz.prog 4 [.bool false] := fun w => by kernel_rfl
theorem hBfa72_1 : FA Tryz.prog 72 1 1 := fun w b o => by kernel_rfl
theorem hBcallable23 : Callable Tryz.prog 23 := cb Tryz.func23 (by kernel_rfl)
theorem hBrec23 (n : Nat) (x0 x1 : Value) (w : World) : CallsDIn Fence.wide n Tryz.prog 23 #[x0, x1] .returning w fun e u' w' => e = .returned (.tuple #[]) ∧ u' = .returning ∧ w' = w := by
 refine callsDIn_of_wpSIn Tryz.func23 rfl trivial fun c₀ cs hu => ?_
 apply wpSIn_seq
 apply wpSIn_region
 simp [wpOpsSIn, go_sem, recoverD, hu, Tryz.ntmps23, Exit.thenS]
 refine wpSIn_cond (t := false) (by simp [Act.eval, Array.replicate]) ?_
 simp only [Bool.false_eq_true, if_false]
 refine wpSIn_of_wpIn rfl (wpIn_skip ?_)
 cases c₀
 simp_all [bodyPostS, results, Tryz.results23]
theorem hBfa72_2 : FA Tryz.prog 72 2 2 := fun w b o => by kernel_rfl
theorem hBfa72_3 : FA Tryz.prog 72 3 3 := fun w b o => by kernel_rfl
theorem hBcallable26 : Callable Tryz.prog 26 := cb Tryz.func26 (by kernel_rfl)
theorem gDo (B : Base) (H : List Res) (w : World) (v t m s p wb : Nat) (va : Option Addr) (vc : Nat) (sv : Value) (clk : Int) (es : List (List UInt8 × Value)) (M : List (List UInt8 × Ver)) (hM : VM B es M) (hO : OkM M) (aa : Option Addr) (ac : Nat) (args : List (List UInt8)) (hra : RdV B [] aa (textCells args)) (hoka : SliceOk aa args.length ac) (hma : args.length ≤ 1000) (name : List UInt8) (hxl : ∀ x ∈ args, x.length ≤ 9223372036854775807) (hsm : (∀ x ∈ args, x.length ≤ 1000000) ∨ M = []) (hN : NumB B) (hv : Inv B (Res.cell v [.iface 63 (vP t)] 40 :: txR t m s p wb va vc sv clk es :: H) w) :
  Calls Tryz.prog 11 #[vP v, vS name, .slice aa args.length ac] w fun e w' => ∃ C es' M' r cs ok, B.Le C ∧ e = .returned (.tuple #[.agg cs.toArray, .bool ok]) ∧ RpAt C r cs ∧ VM C es' M' ∧ CmdR M M' r ∧ (ok = true ↔ name ∈ gNames) ∧ (ok = false → M' = M ∧ r = rText []) ∧ (GArgs name args.length → GX M clk name args M' r) ∧ Inv C (Res.cell v [.iface 63 (vP t)] 40 :: txR t m s p wb va vc sv clk es' :: H) w' := by
 refine (callsIn_wide (n := 5)).1 (callsIn_of_wp_defers Tryz.func11 rfl trivial ?_)
 simp only [Tryz.ntmps11, List.size_toArray, List.length_cons, List.length_nil, Nat.reduceAdd, Nat.reduceSub, Array.replicate_succ, Array.replicate_zero, List.push_toArray, List.append_toArray, List.nil_append, List.cons_append]
 refine sK fun _ k1 => rL (sl_alloc tV (wn rfl) rfl hv hBal28 (fun b2 w3 hv => ?_))
 refine sl_alloc tV (wn rfl) rfl hv hBal4 (fun b4 w5 hv => ?_)
 refine uW k1 (sK fun _ k6 => ?_)
 refine rL (uG (.func (.func 23) #[] #[vP b2, vP b4]) rfl (ex_makeFunc (c' := #[vP b2, vP b4]) rfl (by simp only [List.map_toArray, List.map_nil]) (by simp only [List.map_toArray, List.map_cons, List.map_nil]; rfl)) ?_)
 refine wpi_defer tV rfl (wn rfl) rfl rfl (uW k6 ?_)
 refine sK fun _ k7 => sK fun _ k8 => rL (xC hBcallable25 rfl ((gRowsC B _ _ hv).mono ?_) rfl)
 rintro e w9 ⟨C, ra, rc, hC, rfl, hrr, hv⟩
 refine ⟨_, rfl, uG (vI (gRows.length : Int)) rfl (ex_len0 Tryz.underlying69 rfl rfl) ?_⟩
 refine uM rfl (uW k8 ?_)
 refine bB ?_
 gi_loopw [14] (fun x14 wr => ∃ (i : Nat), x14 = vI i ∧ i ≤ gRows.length ∧ (∀ (j : Nat) y, j < i → gRows[j]? = some y → y.1 ≠ name) ∧ Inv C (Res.cell b4 [.bool false] 4 :: Res.cell b2 [vI 0, vS [], vI 0, vN] 28 :: Res.cell v [.iface 63 (vP t)] 40 :: txR t m s p wb va vc sv clk es :: H) wr) (fun x14 _ => gRows.length - (intOf x14).toNat)
 case atStart => exact ⟨0, rfl, Nat.zero_le _, fun j y h => by omega, hv⟩
 case round =>
  obtain ⟨i, rfl, hi, hno, hv⟩ := hrel
  have hrl := gRows_len
  refine sK fun _ k11 => rL ?_
  by_cases hb12 : (i : Int) < (gRows.length : Int)
  ·refine uG (.bool true) rfl (ex_lss rfl rfl rfl (qT hb12)) (uW k11 ?_)
   refine sK fun _ k13 => cT rfl (kS ?_)
   refine tK k13 (sK fun _ k14 => ?_)
   refine bB (sK fun _ k15 => ?_)
   have hrl := gRows_len
   obtain ⟨x, hx⟩ : ∃ x, gRows[i]? = some x := ⟨_, List.getElem?_eq_getElem (show i < gRows.length by omega)⟩
   have hxm := List.mem_of_getElem? hx
   obtain ⟨rb, ro, had, hrdx⟩ := gRow_reads hrr hx
   subst had
   refine rL (uG (.pointer (some ⟨rb, ro + i * 4, none⟩)) rfl (ex_index rfl rfl rfl (run_idx (k := i) Tryz.underlying69 hBes69 (by omega))) ?_)
   refine uL (.agg #[vS x.1, vI x.2.1, vI x.2.2.1, vI x.2.2.2]) rfl (run_loadR (cs := [vS x.1, vI x.2.1, vI x.2.2.1, vI x.2.2.2]) hBwd72 (Reads.mid (pre := []) (mid := [vS x.1, vI x.2.1, vI x.2.2.1, vI x.2.2.2]) (post := []) hrdx _ _ _ (Base.Le.refl _) no_res hv)) ?_
   refine sl_alloc tV (wn rfl) rfl hv hBal72 (fun b16 w17 hv => ?_)
   simp only [zP, po]
   refine xS 0 rfl hv hBsz72 rfl (by exact ⟨rfl, rfl, rfl, rfl, trivial⟩) (fun w18 hv => ?_)
   simp only [zO, sp] at hv
   refine uW k15 (sK fun _ k19 => ?_)
   refine sK fun _ k20 => rL (uF (vP b16) rfl (hBfa72_0 _ _ _) ?_)
   refine uL _ rfl (run_load1 h1na9 (hv.load 0 0 rfl rfl)) (uM rfl ?_)
   by_cases hb21 : x.1 ≠ name
   ·refine uG (.bool true) rfl (ex_sneq rfl rfl rfl (qT hb21)) (uW k20 ?_)
    refine cT rfl (xE ?_)
    refine tX (bH ?_)
    refine tK k14 (rL ?_)
    refine uG (vI ((i + 1 : Nat) : Int)) rfl (ex_add rfl rfl rfl (by rw [i64_in (by omega)]; omega)) (uM rfl ?_)
    refine uZ (then_normal ?_)
    go_roundw
    case rel => exact ⟨i + 1, rfl, by omega, fun j y hj hy => (by
       rcases Nat.lt_or_ge j i with h | h
       ·exact hno j y h hy
       obtain rfl : j = i := by omega
       rw [hx] at hy; cases hy; exact hb21), (hv.kp [4, 4, 4, 4] 4 1)⟩
    case measure => show gRows.length - (((i + 1 : Nat) : Int)).toNat < gRows.length - ((i : Int)).toNat; omega
   refine uG (.bool false) rfl (ex_sneq rfl rfl rfl (qF hb21)) (uW k20 ?_)
   refine cF rfl (kS ?_)
   refine tK k19 (sK fun _ k22 => ?_)
   refine rL (uM rfl ?_)
   refine uG (vI (args.length : Int)) rfl (ex_len0 Tryz.underlying22 rfl rfl) (uA rfl ?_)
   refine uW k22 (sK fun _ k23 => ?_)
   refine sK fun _ k24 => ?_
   have hxb := gRows_bnd x hxm
   refine rL (uM rfl ?_)
   refine uF (.pointer (some ⟨b16, 1, none⟩)) rfl (hBfa72_1 _ _ _) ?_
   refine uL _ rfl (run_load1 s2na3 (hv.load 0 1 rfl rfl)) ?_
   by_cases hb25 : (args.length : Int) < x.2.1
   ·refine uG (.bool true) rfl (ex_lss rfl rfl rfl (qT hb25)) (uM rfl ?_)
    iterate 9 refine uP rfl ?_
    refine uK rfl (uM rfl ?_)
    iterate 8 refine uP rfl ?_
    refine uK rfl (uW k24 ?_)
    refine cT rfl (sK fun _ k26 => ?_)
    refine rL (xC rscallable24 rfl ((viewWrong C _ _ 43 hv).mono ?_) rfl)
    rintro e w28 ⟨s27, rfl, hv⟩
    refine ⟨_, rfl, ?_⟩
    refine xS 2 rfl hv rssz28 rfl (by exact ⟨rfl, rfl, rfl, rfl, trivial⟩) (fun w29 hv => ?_)
    simp only [zS, zO, sp] at hv
    refine xV 1 (.bool true) rfl hv h2sz4 rfl rfl (fun w30 hv => ?_)
    simp only [zS, zO, sp] at hv
    refine uW k26 (rR ?_)
    refine tR (bZ ?_)
    refine tR (tR ?_)
    refine bZ (tR ?_)
    refine leave_rec hBcallable23 (hBrec23 _ _ _ _) (res_cells2 rfl rfl (lM 2 rswd28 hv rfl rfl rfl rfl) rfl (run_load1 s2na4 (hv.load 1 0 rfl rfl))) ?_
    have hmem : name ∈ gNames := by rw [← (show x.1 = name from Classical.byContradiction fun h9 => hb21 h9)]; exact List.mem_map_of_mem hxm
    exact ⟨C, es, M, rFault s27, rpCells 1 s27 0 (vN), true, hC, rfl, rpAt_leaf, hM.more hC, ⟨hO, fun _ => rfl⟩, ⟨fun _ => hmem, fun _ => rfl⟩, fun h9 => (by cases h9), fun ⟨y9, hy9, hyn9, hg1, hg2, hg3⟩ => (by obtain rfl := gRows_inj y9 hy9 x hxm (by rw [hyn9]; exact (Classical.byContradiction fun h9 => hb21 h9 : x.1 = name).symm); omega), (hv.kp [4, 4] 2 3)⟩
   refine uG (.bool false) rfl (ex_lss rfl rfl rfl (qF hb25)) (uM rfl ?_)
   refine uF (.pointer (some ⟨b16, 2, none⟩)) rfl (hBfa72_2 _ _ _) ?_
   refine uL _ rfl (run_load1 s2na3 (hv.load 0 2 rfl rfl)) ?_
   by_cases hb31 : x.2.2.1 ≥ 0
   ·refine uG (.bool true) rfl (ex_geq rfl rfl rfl (qT hb31)) ?_
    refine uM rfl ?_
    refine uM rfl ?_
    refine uF (.pointer (some ⟨b16, 2, none⟩)) rfl (hBfa72_2 _ _ _) ?_
    refine uL _ rfl (run_load1 s2na3 (hv.load 0 2 rfl rfl)) ?_
    by_cases hb32 : (args.length : Int) > x.2.2.1
    ·refine uG (.bool true) rfl (ex_gtr rfl rfl rfl (qT hb32)) ?_
     refine uK rfl (uK rfl ?_)
     refine uM rfl ?_
     iterate 8 refine uP rfl ?_
     refine uK rfl (uW k24 ?_)
     refine cT rfl (sK fun _ k33 => ?_)
     refine rL (xC rscallable24 rfl ((viewWrong C _ _ 43 hv).mono ?_) rfl)
     rintro e w35 ⟨s34, rfl, hv⟩
     refine ⟨_, rfl, ?_⟩
     refine xS 2 rfl hv rssz28 rfl (by exact ⟨rfl, rfl, rfl, rfl, trivial⟩) (fun w36 hv => ?_)
     simp only [zS, zO, sp] at hv
     refine xV 1 (.bool true) rfl hv h2sz4 rfl rfl (fun w37 hv => ?_)
     simp only [zS, zO, sp] at hv
     refine uW k33 (rR ?_)
     refine tR (bZ ?_)
     refine tR (tR ?_)
     refine bZ (tR ?_)
     refine leave_rec hBcallable23 (hBrec23 _ _ _ _) (res_cells2 rfl rfl (lM 2 rswd28 hv rfl rfl rfl rfl) rfl (run_load1 s2na4 (hv.load 1 0 rfl rfl))) ?_
     have hmem : name ∈ gNames := by rw [← (show x.1 = name from Classical.byContradiction fun h9 => hb21 h9)]; exact List.mem_map_of_mem hxm
     exact ⟨C, es, M, rFault s34, rpCells 1 s34 0 (vN), true, hC, rfl, rpAt_leaf, hM.more hC, ⟨hO, fun _ => rfl⟩, ⟨fun _ => hmem, fun _ => rfl⟩, fun h9 => (by cases h9), fun ⟨y9, hy9, hyn9, hg1, hg2, hg3⟩ => (by obtain rfl := gRows_inj y9 hy9 x hxm (by rw [hyn9]; exact (Classical.byContradiction fun h9 => hb21 h9 : x.1 = name).symm); omega), (hv.kp [4, 4] 2 3)⟩
    refine uG (.bool false) rfl (ex_gtr rfl rfl rfl (qF hb32)) ?_
    refine uK rfl (uK rfl ?_)
    refine uM rfl ?_
    refine uM rfl ?_
    refine uF (.pointer (some ⟨b16, 1, none⟩)) rfl (hBfa72_1 _ _ _) ?_
    refine uL _ rfl (run_load1 s2na3 (hv.load 0 1 rfl rfl)) ?_
    refine uG (vI ((args.length : Int) - x.2.1)) rfl (ex_sub rfl rfl rfl (by rw [i64_in (by omega)])) ?_
    refine uF (.pointer (some ⟨b16, 3, none⟩)) rfl (hBfa72_3 _ _ _) ?_
    refine uL _ rfl (run_load1 s2na3 (hv.load 0 3 rfl rfl)) ?_
    refine uG (vI (((args.length : Int) - x.2.1).tmod x.2.2.2)) rfl (ex_rem (m := ((args.length : Int) - x.2.1)) (n := x.2.2.2) rfl rfl rfl hxb.2.2 rfl) ?_
    by_cases hb38 : (((args.length : Int) - x.2.1).tmod x.2.2.2) ≠ 0
    ·refine uG (.bool true) rfl (ex_neq rfl rfl rfl (qT hb38)) (uK rfl ?_)
     refine uW k24 (cT rfl ?_)
     refine sK fun _ k39 => rL (xC rscallable24 rfl ((viewWrong C _ _ 43 hv).mono ?_) rfl)
     rintro e w41 ⟨s40, rfl, hv⟩
     refine ⟨_, rfl, ?_⟩
     refine xS 2 rfl hv rssz28 rfl (by exact ⟨rfl, rfl, rfl, rfl, trivial⟩) (fun w42 hv => ?_)
     simp only [zS, zO, sp] at hv
     refine xV 1 (.bool true) rfl hv h2sz4 rfl rfl (fun w43 hv => ?_)
     simp only [zS, zO, sp] at hv
     refine uW k39 (rR ?_)
     refine tR (bZ ?_)
     refine tR (tR ?_)
     refine bZ (tR ?_)
     refine leave_rec hBcallable23 (hBrec23 _ _ _ _) (res_cells2 rfl rfl (lM 2 rswd28 hv rfl rfl rfl rfl) rfl (run_load1 s2na4 (hv.load 1 0 rfl rfl))) ?_
     have hmem : name ∈ gNames := by rw [← (show x.1 = name from Classical.byContradiction fun h9 => hb21 h9)]; exact List.mem_map_of_mem hxm
     exact ⟨C, es, M, rFault s40, rpCells 1 s40 0 (vN), true, hC, rfl, rpAt_leaf, hM.more hC, ⟨hO, fun _ => rfl⟩, ⟨fun _ => hmem, fun _ => rfl⟩, fun h9 => (by cases h9), fun ⟨y9, hy9, hyn9, hg1, hg2, hg3⟩ => (by obtain rfl := gRows_inj y9 hy9 x hxm (by rw [hyn9]; exact (Classical.byContradiction fun h9 => hb21 h9 : x.1 = name).symm); omega), (hv.kp [4, 4] 2 3)⟩
    refine uG (.bool false) rfl (ex_neq rfl rfl rfl (qF hb38)) (uK rfl ?_)
    refine uW k24 (cF rfl ?_)
    refine kS (tK k23 ?_)
    refine sK fun _ k44 => ?_
    have hxn : x.1 = name := Classical.byContradiction fun h9 => hb21 h9
    refine rL (uM rfl ?_)
    refine uM rfl ?_
    refine uG (.agg #[vP v, .slice aa args.length ac]) rfl (ex_buildN (vs := #[(0, vP v), (1, .slice aa args.length ac)]) rfl (by simp only [List.map_toArray, List.map_cons, List.map_nil]; rfl) (by kernel_rfl)) (uM rfl ?_)
    replace hv := hv.front 4 rfl
    simp only [eS, eZ] at hv
    replace hv := hv.front 4 rfl
    simp only [eS, eZ] at hv
    refine xC hBcallable26 rfl ((gDoAll C _ _ v t m s p wb va vc sv clk es M (hM.more hC) hO aa ac args (hra.more hC (fun _ h => h)) hoka hma name ⟨x, hxm, hxn, by omega, fun h9 => by omega, Classical.not_not.1 hb38⟩ hxl hsm (hN.more hC) hv).mono ?_) rfl
    rintro e w45 ⟨D, es', M', r, cs, hD, rfl, hrp, hM', hcmd, hgx, hv⟩
    refine ⟨_, rfl, ?_⟩
    obtain ⟨rk, rs, rn, rv, rfl⟩ := rp_parts hrp
    refine xS 4 rfl hv rssz28 rfl (by exact ⟨rfl, rfl, rfl, hrp.lv.2, trivial⟩) (fun w46 hv => ?_)
    simp only [zS, zO, sp] at hv
    simp only [zP, po]
    refine xV 3 (.bool true) rfl hv h2sz4 rfl rfl (fun w47 hv => ?_)
    simp only [zS, zO, sp] at hv
    refine uW k44 (rR ?_)
    refine bZ (tR ?_)
    refine tR (bZ ?_)
    refine tR (leave_rec hBcallable23 (hBrec23 _ _ _ _) (res_cells2 rfl rfl (lM 4 rswd28 hv rfl rfl rfl rfl) rfl (run_load1 s2na4 (hv.load 3 0 rfl rfl))) ?_)
    have hmem : name ∈ gNames := by rw [← (show x.1 = name from Classical.byContradiction fun h9 => hb21 h9)]; exact List.mem_map_of_mem hxm
    exact ⟨D, es', M', r, _, true, (hC.trans hD), rfl, hrp, hM', hcmd, ⟨fun _ => hmem, fun _ => rfl⟩, fun h9 => (by cases h9), fun _ => hgx, (hv.kp [1, 1] 2 3)⟩
   refine uG (.bool false) rfl (ex_geq rfl rfl rfl (qF hb31)) ?_
   refine uM rfl ?_
   iterate 4 refine uP rfl ?_
   refine uK rfl (uK rfl ?_)
   refine uM rfl ?_
   refine uM rfl ?_
   refine uF (.pointer (some ⟨b16, 1, none⟩)) rfl (hBfa72_1 _ _ _) ?_
   refine uL _ rfl (run_load1 s2na3 (hv.load 0 1 rfl rfl)) ?_
   refine uG (vI ((args.length : Int) - x.2.1)) rfl (ex_sub rfl rfl rfl (by rw [i64_in (by omega)])) ?_
   refine uF (.pointer (some ⟨b16, 3, none⟩)) rfl (hBfa72_3 _ _ _) ?_
   refine uL _ rfl (run_load1 s2na3 (hv.load 0 3 rfl rfl)) ?_
   refine uG (vI (((args.length : Int) - x.2.1).tmod x.2.2.2)) rfl (ex_rem (m := ((args.length : Int) - x.2.1)) (n := x.2.2.2) rfl rfl rfl hxb.2.2 rfl) ?_
   by_cases hb48 : (((args.length : Int) - x.2.1).tmod x.2.2.2) ≠ 0
   ·refine uG (.bool true) rfl (ex_neq rfl rfl rfl (qT hb48)) (uK rfl ?_)
    refine uW k24 (cT rfl ?_)
    refine sK fun _ k49 => rL (xC rscallable24 rfl ((viewWrong C _ _ 43 hv).mono ?_) rfl)
    rintro e w51 ⟨s50, rfl, hv⟩
    refine ⟨_, rfl, ?_⟩
    refine xS 2 rfl hv rssz28 rfl (by exact ⟨rfl, rfl, rfl, rfl, trivial⟩) (fun w52 hv => ?_)
    simp only [zS, zO, sp] at hv
    refine xV 1 (.bool true) rfl hv h2sz4 rfl rfl (fun w53 hv => ?_)
    simp only [zS, zO, sp] at hv
    refine uW k49 (rR ?_)
    refine tR (bZ ?_)
    refine tR (tR ?_)
    refine bZ (tR ?_)
    refine leave_rec hBcallable23 (hBrec23 _ _ _ _) (res_cells2 rfl rfl (lM 2 rswd28 hv rfl rfl rfl rfl) rfl (run_load1 s2na4 (hv.load 1 0 rfl rfl))) ?_
    have hmem : name ∈ gNames := by rw [← (show x.1 = name from Classical.byContradiction fun h9 => hb21 h9)]; exact List.mem_map_of_mem hxm
    exact ⟨C, es, M, rFault s50, rpCells 1 s50 0 (vN), true, hC, rfl, rpAt_leaf, hM.more hC, ⟨hO, fun _ => rfl⟩, ⟨fun _ => hmem, fun _ => rfl⟩, fun h9 => (by cases h9), fun ⟨y9, hy9, hyn9, hg1, hg2, hg3⟩ => (by obtain rfl := gRows_inj y9 hy9 x hxm (by rw [hyn9]; exact (Classical.byContradiction fun h9 => hb21 h9 : x.1 = name).symm); omega), (hv.kp [4, 4] 2 3)⟩
   refine uG (.bool false) rfl (ex_neq rfl rfl rfl (qF hb48)) (uK rfl ?_)
   refine uW k24 (cF rfl ?_)
   refine kS (tK k23 ?_)
   refine sK fun _ k54 => ?_
   have hxn : x.1 = name := Classical.byContradiction fun h9 => hb21 h9
   refine rL (uM rfl ?_)
   refine uM rfl ?_
   refine uG (.agg #[vP v, .slice aa args.length ac]) rfl (ex_buildN (vs := #[(0, vP v), (1, .slice aa args.length ac)]) rfl (by simp only [List.map_toArray, List.map_cons, List.map_nil]; rfl) (by kernel_rfl)) (uM rfl ?_)
   replace hv := hv.front 4 rfl
   simp only [eS, eZ] at hv
   replace hv := hv.front 4 rfl
   simp only [eS, eZ] at hv
   refine xC hBcallable26 rfl ((gDoAll C _ _ v t m s p wb va vc sv clk es M (hM.more hC) hO aa ac args (hra.more hC (fun _ h => h)) hoka hma name ⟨x, hxm, hxn, by omega, fun h9 => by omega, Classical.not_not.1 hb48⟩ hxl hsm (hN.more hC) hv).mono ?_) rfl
   rintro e w55 ⟨D, es', M', r, cs, hD, rfl, hrp, hM', hcmd, hgx, hv⟩
   refine ⟨_, rfl, ?_⟩
   obtain ⟨rk, rs, rn, rv, rfl⟩ := rp_parts hrp
   refine xS 4 rfl hv rssz28 rfl (by exact ⟨rfl, rfl, rfl, hrp.lv.2, trivial⟩) (fun w56 hv => ?_)
   simp only [zS, zO, sp] at hv
   simp only [zP, po]
   refine xV 3 (.bool true) rfl hv h2sz4 rfl rfl (fun w57 hv => ?_)
   simp only [zS, zO, sp] at hv
   refine uW k54 (rR ?_)
   refine bZ (tR ?_)
   refine tR (bZ ?_)
   refine tR (leave_rec hBcallable23 (hBrec23 _ _ _ _) (res_cells2 rfl rfl (lM 4 rswd28 hv rfl rfl rfl rfl) rfl (run_load1 s2na4 (hv.load 3 0 rfl rfl))) ?_)
   have hmem : name ∈ gNames := by rw [← (show x.1 = name from Classical.byContradiction fun h9 => hb21 h9)]; exact List.mem_map_of_mem hxm
   exact ⟨D, es', M', r, _, true, (hC.trans hD), rfl, hrp, hM', hcmd, ⟨fun _ => hmem, fun _ => rfl⟩, fun h9 => (by cases h9), fun _ => hgx, (hv.kp [1, 1] 2 3)⟩
  refine uG (.bool false) rfl (ex_lss rfl rfl rfl (qF hb12)) (uW k11 ?_)
  refine sK fun _ k58 => cF rfl (xE ?_)
  refine tX (tX ?_)
  refine bH (tK k7 ?_)
  refine sK fun _ k59 => rL (uG (.agg #[vI 0, vS [], vI 0, vN]) rfl (ex_buildN (vs := #[]) rfl (by simp only [List.map_toArray, List.map_nil]) (by kernel_rfl)) ?_)
  refine xS 1 rfl hv rssz28 rfl (by exact ⟨rfl, rfl, rfl, rfl, trivial⟩) (fun w60 hv => ?_)
  simp only [zS, zO, sp] at hv
  refine xV 0 (.bool false) rfl hv h2sz4 rfl rfl (fun w61 hv => ?_)
  simp only [zO, sp] at hv
  refine uW k59 (rR ?_)
  refine leave_rec hBcallable23 (hBrec23 _ _ _ _) (res_cells2 rfl rfl (lM 1 rswd28 hv rfl rfl rfl rfl) rfl (run_load1 s2na4 (hv.load 0 0 rfl rfl))) ?_
  have hmem : name ∉ gNames := fun h9 => by
   obtain ⟨y, hy, hyn⟩ := List.mem_map.1 h9
   obtain ⟨j, hj⟩ := List.mem_iff_getElem?.1 hy
   exact hno j y (by have := (List.getElem?_eq_some_iff.1 hj).1; omega) hj hyn
  exact ⟨C, es, M, rText [], rpCells 0 [] 0 (vN), false, hC, rfl, rpAt_leaf, hM.more hC, ⟨hO, fun _ => rfl⟩, ⟨fun h9 => (by cases h9), fun h9 => absurd h9 hmem⟩, fun _ => ⟨rfl, rfl⟩, fun ⟨y9, hy9, hyn9, _⟩ => absurd (hyn9 ▸ List.mem_map_of_mem hy9) hmem, (hv.kp [3, 3] 2 2)⟩
open Go.Sort
theorem HasH.names {M : List (List UInt8 × Ver)} (hs : HasH M []) : namesT M 0 = [] := by
 unfold namesT
 refine List.filter_eq_nil_iff.2 fun k hk => ?_
 have hk := List.mem_mergeSort.1 hk
 have h1 : lookA M k ≠ none := fun h9 => (look_none M k).1 h9 hk
 have hkH : k = kH := Classical.byContradiction fun h9 => h1 (hs.no k h9)
 subst hkH
 rcases hs.at_ with ⟨-, h2⟩ | ⟨h2, -⟩
 ·unfold deadNow
  cases hl : lookA M kH with
  | none => exact absurd hl h1
  | some y => simp [h2 y hl]
 exact absurd rfl h2
-- the document's example
theorem aw_set {M : List (List UInt8 × Ver)} {r : Rp} (h : HSetR [] 0 kH [([98], [49]), ([97], [50])] M r) : HasH M [([97], [50]), ([98], [49])] ∧ r = rInt 2 :=
 HasH.nil.set (by decide) (fun p h => by cases h) (fun p hp => by simp only [List.mem_cons, List.not_mem_nil, or_false] at hp; rcases hp with rfl | rfl <;> exact ⟨by decide, by decide⟩) h
theorem aw_all {M M' : List (List UInt8 × Ver)} {r : Rp} (hs : HasH M [([97], [50]), ([98], [49])]) (h : HAllR M 0 kH M' r) : M' = M ∧ r = rStrs [[97], [50], [98], [49]] := hs.all h
theorem aw_del {M M' : List (List UInt8 × Ver)} {r : Rp} (hs : HasH M [([97], [50]), ([98], [49])]) (h : HDelR M 0 kH [[97], [98]] M' r) : HasH M' [] ∧ r = rInt 2 :=
 hs.del (by decide) (fun p hp => by simp only [List.mem_cons, List.not_mem_nil, or_false] at hp; rcases hp with rfl | rfl <;> exact ⟨by decide, by decide⟩) h
-- the law
abbrev fst0 : List UInt8 := [0, 102, 105, 114, 115, 116]
section
variable {M M' : List (List UInt8 × Ver)} {r : Rp} {fs : List (List UInt8)}
theorem hb_first (h : HSetR [] 0 kH [(fst0, [49])] M r) : HasH M [(fst0, [49])] :=
 (HasH.nil.set (by decide) (fun p h => by cases h) (fun p hp => by rw [List.mem_singleton.1 hp]; exact ⟨by decide, by decide⟩) h).1
def psX (fs : List (List UInt8)) : List Pr := fs.map fun f => (f, [120])
theorem fit1 {t : List UInt8} (ht : t.length ≤ 20) : ∀ p ∈ [(fst0, t)], FitP p := fun p hp => by rw [List.mem_singleton.1 hp]; exact ⟨show fst0.length ≤ 4096 by decide, by show t.length ≤ 4096; omega⟩
theorem psX_fit (hx : ∀ f ∈ fs, f.length ≤ 300) : ∀ p ∈ psX fs, FitP p := fun p hp => by
 obtain ⟨f, hf, rfl⟩ := List.mem_map.1 hp
 exact ⟨by have := hx f hf; show f.length ≤ 4096; omega, show ([120] : List UInt8).length ≤ 4096 by decide⟩
theorem insH_has (h : List Pr) (f t : List UInt8) : (f, t) ∈ insH h f t := by
 induction h with
 | nil => exact List.mem_singleton.2 rfl
 | cons p h ih =>
  unfold insH
  split
  ·exact List.mem_cons_of_mem _ ih
  split <;> exact List.mem_cons_self
theorem insH_old {h : List Pr} {f t : List UInt8} {q : Pr} (hq : q ∈ h) (hn : q.1 ≠ f) : q ∈ insH h f t := by
 induction h with
 | nil => cases hq
 | cons p h ih =>
  unfold insH
  split
  ·rcases List.mem_cons.1 hq with rfl | hq
   ·exact List.mem_cons_self
   exact List.mem_cons_of_mem _ (ih hq)
  split
  ·rename_i h2
   rcases List.mem_cons.1 hq with rfl | hq
   ·exact absurd h2 hn
   exact List.mem_cons_of_mem _ hq
  exact List.mem_cons_of_mem _ hq
theorem setsH_keep : ∀ (ps h : List Pr) (f : List UInt8), (∃ q ∈ h, q.1 = f) → ∃ q ∈ setsH h ps, q.1 = f
 | [], h, f, hq => hq
 | p :: ps, h, f, ⟨q, hq, he⟩ => setsH_keep ps (insH h p.1 p.2) f (by
   by_cases e : q.1 = p.1
   ·exact ⟨_, insH_has h p.1 p.2, by rw [← he, e]⟩
   exact ⟨q, insH_old hq e, he⟩)
theorem setsH_has : ∀ (ps h : List Pr) (p : Pr), p ∈ ps → ∃ q ∈ setsH h ps, q.1 = p.1
 | p :: ps, h, p', hp => by
  rcases List.mem_cons.1 hp with rfl | hp
  ·exact setsH_keep ps _ _ ⟨_, insH_has h p'.1 p'.2, rfl⟩
  exact setsH_has ps _ p' hp
theorem del_first (hno : fst0 ∉ fs) : delH (setsH [(fst0, [49])] (psX fs)) fs = [(fst0, [49])] := by
 rw [setsH_del (h := [(fst0, [49])]) (List.pairwise_singleton _ _) (psX fs) fun p hp => by obtain ⟨f, hf, rfl⟩ := List.mem_map.1 hp; exact hf]
 exact delH_not fun p hp => by rw [List.mem_singleton.1 hp]; exact hno
theorem set_more (hno : fst0 ∉ fs) (hne : fs ≠ []) : 1 < (setsH [(fst0, [49])] (psX fs)).length := by
 obtain ⟨f, hf⟩ := List.exists_mem_of_ne_nil _ hne
 obtain ⟨q, hq, he⟩ := setsH_has (psX fs) [(fst0, [49])] (f, [120]) (List.mem_map.2 ⟨f, hf, rfl⟩)
 obtain ⟨q0, hq0, he0⟩ := setsH_keep (psX fs) [(fst0, [49])] fst0 ⟨_, List.mem_cons_self, rfl⟩
 match hl : setsH [(fst0, [49])] (psX fs), hq, hq0 with
 | [a], hq, hq0 =>
  rw [List.mem_singleton.1 hq] at he
  rw [List.mem_singleton.1 hq0] at he0
  exact absurd (by rw [← he0, he]; exact hf) hno
 | _ :: _ :: _, _, _ => simp
theorem hb_set (hs : HasH M [(fst0, [49])]) (hl : fs.length ≤ 20) (hx : ∀ f ∈ fs, f.length ≤ 300) (h : HSetR M 0 kH (psX fs) M' r) : HasH M' (setsH [(fst0, [49])] (psX fs)) ∧ r = rInt (((setsH [(fst0, [49])] (psX fs)).length : Int) - 1) :=
 hs.set (by unfold psX; rw [List.length_map]; simp; omega) (fit1 (by decide)) (psX_fit hx) h
theorem hb_del (hs : HasH M (setsH [(fst0, [49])] (psX fs))) (hl : fs.length ≤ 20) (hx : ∀ f ∈ fs, f.length ≤ 300) (hno : fst0 ∉ fs) (h : HDelR M 0 kH fs M' r) : HasH M' [(fst0, [49])] ∧ r = rInt (((setsH [(fst0, [49])] (psX fs)).length : Int) - 1) := by
 have h1 := setsH_len (psX fs) [(fst0, [49])]
 have h2 := hs.del (by unfold psX at h1 ⊢; rw [List.length_map] at h1; simp at h1; omega) (fun p hp => (setsH_mem _ _ p hp).elim (psX_fit hx p) (fit1 (by decide) p)) h
 rw [del_first hno] at h2
 exact h2
theorem hb_count {a b : Int} (h0 : 0 ≤ a) (h1 : a ≤ 10) (h2 : 0 ≤ a + b) (h3 : a + b ≤ 10) (h4 : -10 ≤ b) (hs : HasH M [(fst0, Lib.itoa a)]) (h : HIncR M 0 kH fst0 (Lib.itoa b) M' r) : HasH M' [(fst0, Lib.itoa (a + b))] ∧ r = rInt (a + b) := by
 have num : ∀ n : Int, -10 ≤ n → n ≤ 20 → NumP (Lib.itoa n) n true := fun n h5 h6 => .inl ⟨rfl, by omega, by omega, rfl⟩
 rcases h with ⟨h, -⟩ | ⟨b', hb, y, e0, ho, h⟩
 ·exact absurd ((num b h4 (by omega)).uniq h).2 (by decide)
 obtain ⟨rfl, -⟩ := hb.uniq (num b h4 (by omega))
 obtain ⟨rfl, hy, hx⟩ := hs.of_ ho
 have hg : getH [(fst0, Lib.itoa a)] fst0 = some (Lib.itoa a) := by unfold getH; simp
 have hne : Lib.itoa a ≠ [] := fun h9 => by have := (itoa_length a (by omega) (by omega)).1; rw [h9] at this; simp at this
 rw [hy] at h
 rcases h with ⟨h, -⟩ | ⟨-, ⟨h, -⟩ | ⟨-, sum, e1, hi, h⟩⟩
 ·exact absurd rfl h
 ·rw [hg] at h; exact absurd (Option.some.inj h) hne
 rw [hg] at hi
 have hn : ∀ n, ((Lib.itoa a = [] ∧ n = 0) ∨ NumP (Lib.itoa a) n true) → n = a := fun n hn => hn.elim (fun h9 => absurd h9.1 hne) fun h9 => (h9.uniq (num a (by omega) (by omega))).1
 rcases hi with ⟨-, ⟨-, h5⟩ | ⟨n, h5, h6⟩⟩ | ⟨rfl, -, n, h5, rfl⟩
 ·exact absurd ((num a (by omega) (by omega)).uniq h5).2 (by decide)
 ·rw [hn n h5] at h6; exact absurd ⟨by omega, by omega⟩ h6
 obtain rfl := hn n h5
 rcases h with ⟨h, -⟩ | ⟨-, out, m, e2, hset, h⟩
 ·exact absurd rfl h
 have hlen := (itoa_length (n + b') (by omega) (by omega)).2
 have hsn : setsH [(fst0, Lib.itoa n)] [(fst0, Lib.itoa (n + b'))] = [(fst0, Lib.itoa (n + b'))] := by
  show insH [(fst0, Lib.itoa n)] fst0 (Lib.itoa (n + b')) = _
  unfold insH
  rw [if_neg (show ¬ Op.bytesLess fst0 fst0 = true by decide), if_pos rfl]
 rcases hset with ⟨-, -, -, ⟨p, h6, h7⟩ | h6⟩ | ⟨rfl, -, rfl, -, -⟩
 ·exact absurd (fit1 (by omega) p h6) h7
 ·rw [hsn] at h6; exact absurd h6 (Nat.not_lt.2 (by show 1 ≤ 512; omega))
 rcases h with ⟨h, -⟩ | ⟨-, e3, hk, hd⟩
 ·exact absurd rfl h
 rw [hx, hsn] at hk
 obtain ⟨h6, h7⟩ := hs.keep (hashOk_iff.2 ⟨by show 1 ≤ 512; omega, fit1 (by omega), List.pairwise_singleton _ _⟩) hk
 exact ⟨h7, done_eq h6 hd⟩
theorem itoa_neg {d : Nat} (h : 0 < d) : Lib.itoa (-(d : Int)) = 45 :: Lib.itoa (d : Int) := by
 unfold Lib.itoa
 rw [if_pos (by omega), if_neg (by omega)]
 congr 2
 omega
end
end Go.Proofs.YtffnhfkkochnhaaGreatDoor
namespace Go.Pm
open Go.RowKit
inductive Tr (α : Type) where
 | lin (is : List α)
 | fork (x : α) (t1 : Tr α) (y : α) (t2 : Tr α)
section
variable {P : Program} {ops : Array Oper} {mem perm pre is : List Nat} {R : Act → World → Prop} {Q : Exit → Act → World → Prop} {a0 a aS : Act} {listed : Array Bool} {w w' : World} {val : Nat → Value} {Fl : List (Nat × (World → Prop))} {J : World → Prop} {i : Nat} {o : Oper} {K : Act → World → Prop}
end
section
variable {P : Program} {ops : Array Oper} {mem : List Nat} {Q : Exit → Act → World → Prop} {a0 : Act}
end
section
variable {n : Nat} {P : Program} {ops : Array Oper} {Q : Exit → Act → World → Prop} {a0 : Act} {w0 : World} {B : Base} {H : List Res}
end
section
variable {P : Program} {ops : Array Oper} {mem : List Nat} {R : Act → World → Prop} {D : List (Nat × (World → Prop)) → (World → Prop) → Act → Prop} {i : Nat} {o : Oper} {is : List (Nat × Oper)} {Fl : List (Nat × (World → Prop))} {J : World → Prop} {a : Act} {v : Value} {x y : Nat × Oper} {t1 t2 : Tr (Nat × Oper)} {G : (World → Prop) → Act → Prop} {B : Base} {H : List Res} {w' : World}
theorem ex_fieldv {t : TypeId} {k : Nat} {z : Operand} {r u : Value} {w : World} (ho : o.op = .field t z k) (hx : a.eval z = u) (hr : ∀ w, (Instr.field t u k).run P w = .ok r w) : Ex P a o w r w := by unfold Ex; simp [execOp, ho, hx, hr]
theorem mem_rowN {w : World} {vals : List Value} {Jv : List Value → World → Prop} {Q : Exit → Act → World → Prop} {t e : TypeId} {k : Nat} {parts : Array (Nat × Operand)} {pv : Array (Nat × Value)} {L : List Value} (hg : Region.wanted o (yielded ops a.tmps) = true) (ho : o.op = .buildSlice t k parts) (hx : (parts.map fun (i, x) => (i, a.eval x)) = pv) (hv : Inv B H w)
  (hr : ∀ w, (Instr.buildSlice t k pv).run P w = .ok (.slice (some ⟨w.heap.size, 0, none⟩) k k) (w.alloc (.cells L.toArray e))) (h : ∀ b w', Inv B (Res.cell b L e :: H) w' → Jv (vals ++ [.slice (some ⟨b, 0, none⟩) k k]) w') : StepMem P ops Jv Q o a w vals :=
 Ex.mem (by unfold Ex; simp only [execOp, ho, hx]; simp [hr]) hg (h _ _ (hv.alloc L e))
end
end Go.Pm
namespace Go.Proofs.YtffnhfkkochnhaaGreatDoor
open Go.RowKit Go.Pm
theorem hCcallable7 : Callable Tryz.prog 7 := cb Tryz.func7 (by kernel_rfl)
theorem hCcallable11 : Callable Tryz.prog 11 := cb Tryz.func11 (by kernel_rfl)
theorem hCal28 : AL Tryz.prog 28 [vI 0, vS [], vI 0, vN] := fun w => by kernel_rfl
theorem hCmk9 : (Tryz.prog.info? 9).map (fun i => (i.zero, i.size, i.bytes)) = some (some (vS []), 1, 16) := by kernel_rfl
theorem hCel22 : Elem Tryz.prog 22 9 (vS []) 1 16 := elem_of Tryz.underlying22 hCmk9 (by rfl) (by decide)
theorem hCcallable17 : Callable Tryz.prog 17 := cb Tryz.func17 (by kernel_rfl)
theorem hCcallable172 : Callable Tryz.prog 172 := cb Tryz.func172 (by kernel_rfl)
theorem gAwake (B : Base) (H : List Res) (w : World) (hN : NumB B) (hv : Inv B H w) :
  Calls Tryz.prog 6 #[] w fun e w' => e = .returned (.bool true) ∧ Inv B H w' := by
 refine cW Tryz.func6 rfl Tryz.ntmps6 ?_
 simp only [al]
 refine sK fun _ k1 => rL (uA rfl ?_)
 refine uW k1 (sK fun _ k2 => ?_)
 refine rL (xC hCcallable7 rfl ((lawOpened B _ _ 0 (by omega) (by omega) hv).mono ?_) rfl)
 rintro e w3 ⟨v, t, m, s, p, wb, va, vc, sv, rfl, hv⟩
 refine ⟨_, rfl, uA rfl ?_⟩
 refine uW k2 (sK fun _ k4 => ?_)
 refine sK fun _ k5 => rL (uM rfl ?_)
 refine uG (.bool false) rfl (ex_pisnil Tryz.underlying24 rfl rfl rfl rfl) (uW k5 ?_)
 refine cF rfl (kS ?_)
 refine tK k4 (sK fun _ k6 => ?_)
 refine rL (uM rfl ?_)
 refine sl_rowN (pv := #[(0, vS [104]), (1, vS [98]), (2, vS [49]), (3, vS [97]), (4, vS [50])]) (L := [vS [104], vS [98], vS [49], vS [97], vS [50]]) (e := 9) tV (wn rfl) rfl (by simp only [List.map_toArray, List.map_cons, List.map_nil]; rfl) hv (fun w => by kernel_rfl) (fun b7 w8 hv => ?_)
 obtain ⟨D9, hD9, hv, hrD9, hoD9, -⟩ := (hv.cellRow (n := 5) (c := 5) (size := 1) rfl (by decide) (by decide)).rowBy
 replace hv := hv.front 1 rfl
 simp only [eS, eZ] at hv
 replace hv := hv.front 1 rfl
 simp only [eS, eZ] at hv
 refine xC hCcallable11 rfl ((gDo D9 _ _ v t m s p wb va vc sv 0 [] [] ((vmNil B).more hD9) OkM.nil _ _ [([104] : List UInt8), ([98] : List UInt8), ([49] : List UInt8), ([97] : List UInt8), ([50] : List UInt8)] hrD9 hoD9 (by decide) ([72, 83, 69, 84] : List UInt8) (all1 (by decide) (all1 (by decide) (all1 (by decide) (all1 (by decide) (all1 (by decide) all0))))) (.inl (all1 (by decide) (all1 (by decide) (all1 (by decide) (all1 (by decide) (all1 (by decide) all0)))))) (hN.more hD9) hv).mono ?_) rfl
 rintro e w10 ⟨C1, es1, M1, r1, cs1, ok1, hC1, rfl, hrp1, hM1, ⟨hO1, -⟩, hok1, -, hrel1, hv⟩
 refine ⟨_, rfl, ?_⟩
 obtain rfl : ok1 = true := hok1.2 (by decide)
 obtain ⟨hg1, hg2, hg3, hg4⟩ := hrel1 (by unfold GArgs; decide)
 obtain ⟨k9, e9, hd9⟩ := hg1 rfl
 cases e9
 obtain ⟨hS1, rfl⟩ := aw_set hd9
 obtain ⟨v1, rfl⟩ := rp_int hrp1
 refine uM rfl (uE rfl ?_)
 refine uE rfl ?_
 refine sl_alloc tV (wn rfl) rfl hv hCal28 (fun b11 w12 hv => ?_)
 refine xS 0 rfl hv rssz28 rfl (by exact ⟨rfl, rfl, rfl, hrp1.lv.2, trivial⟩) (fun w13 hv => ?_)
 simp only [zO, sp] at hv
 refine uA rfl (uW k6 ?_)
 refine sK fun _ k14 => rL (uM rfl ?_)
 refine sl_rowOne (v := vS [104]) tV (wn rfl) rfl rfl hv hCel22 rfl (fun b15 w16 hv => ?_)
 obtain ⟨D17, hD17, hv, hrD17, hoD17, -⟩ := (hv.cellRow (n := 1) (c := 1) (size := 1) rfl (by decide) (by decide)).rowBy
 replace hv := hv.front 2 rfl
 simp only [eS, eZ] at hv
 replace hv := hv.front 2 rfl
 simp only [eS, eZ] at hv
 refine xC hCcallable11 rfl ((gDo D17 _ _ v t m s p wb va vc sv 0 es1 M1 (hM1.more hD17) hO1 _ _ [([104] : List UInt8)] hrD17 hoD17 (by decide) ([72, 71, 69, 84, 65, 76, 76] : List UInt8) (all1 (by decide) all0) (.inl (all1 (by decide) all0)) (hN.more ((hD9.trans hC1).trans hD17)) hv).mono ?_) rfl
 rintro e w18 ⟨C2, es2, M2, r2, cs2, ok2, hC2, rfl, hrp2, hM2, ⟨hO2, -⟩, hok2, -, hrel2, hv⟩
 refine ⟨_, rfl, ?_⟩
 obtain rfl : ok2 = true := hok2.2 (by decide)
 obtain ⟨hg1, hg2, hg3, hg4⟩ := hrel2 (by unfold GArgs; decide)
 obtain ⟨k9, e9, hd9⟩ := hg2 rfl
 cases e9
 obtain ⟨hMe, rfl⟩ := aw_all hS1 hd9
 have hS2 : HasH M2 [([97], [50]), ([98], [49])] := by rw [hMe]; exact hS1
 obtain ⟨a2, c2, rfl⟩ := rp_strs hrp2
 refine uG (.tuple #[.agg #[vI 5, vS [], vI 0, .slice a2 4 c2], .bool true]) rfl (ex_move rfl rfl) ?_
 refine uG (.agg #[vI 5, vS [], vI 0, .slice a2 4 c2]) rfl (ex_extract rfl rfl rfl) (uE rfl ?_)
 refine sl_alloc tV (wn rfl) rfl hv hCal28 (fun b19 w20 hv => ?_)
 refine xS 0 rfl hv rssz28 rfl (by exact ⟨rfl, rfl, rfl, rfl, trivial⟩) (fun w21 hv => ?_)
 simp only [zO, sp] at hv
 refine uA rfl (uW k14 ?_)
 refine sK fun _ k22 => rL (uM rfl ?_)
 refine sl_rowN (pv := #[(0, vS [104]), (1, vS [97]), (2, vS [98])]) (L := [vS [104], vS [97], vS [98]]) (e := 9) tV (wn rfl) rfl (by simp only [List.map_toArray, List.map_cons, List.map_nil]; rfl) hv (fun w => by kernel_rfl) (fun b23 w24 hv => ?_)
 obtain ⟨D25, hD25, hv, hrD25, hoD25, -⟩ := (hv.cellRow (n := 3) (c := 3) (size := 1) rfl (by decide) (by decide)).rowBy
 replace hv := hv.front 2 rfl
 simp only [eS, eZ] at hv
 replace hv := hv.front 2 rfl
 simp only [eS, eZ] at hv
 refine xC hCcallable11 rfl ((gDo D25 _ _ v t m s p wb va vc sv 0 es2 M2 (hM2.more hD25) hO2 _ _ [([104] : List UInt8), ([97] : List UInt8), ([98] : List UInt8)] hrD25 hoD25 (by decide) ([72, 68, 69, 76] : List UInt8) (all1 (by decide) (all1 (by decide) (all1 (by decide) all0))) (.inl (all1 (by decide) (all1 (by decide) (all1 (by decide) all0)))) (hN.more ((((hD9.trans hC1).trans hD17).trans hC2).trans hD25)) hv).mono ?_) rfl
 rintro e w26 ⟨C3, es3, M3, r3, cs3, ok3, hC3, rfl, hrp3, hM3, ⟨hO3, -⟩, hok3, -, hrel3, hv⟩
 refine ⟨_, rfl, ?_⟩
 obtain rfl : ok3 = true := hok3.2 (by decide)
 obtain ⟨hg1, hg2, hg3, hg4⟩ := hrel3 (by unfold GArgs; decide)
 obtain ⟨k9, e9, hd9⟩ := hg3 rfl
 cases e9
 obtain ⟨hS3, rfl⟩ := aw_del hS2 hd9
 obtain ⟨v3, rfl⟩ := rp_int hrp3
 have hn3 : namesT M3 0 = [] := hS3.names
 refine uM rfl (uE rfl ?_)
 refine uE rfl ?_
 refine sl_alloc tV (wn rfl) rfl hv hCal28 (fun b27 w28 hv => ?_)
 refine xS 0 rfl hv rssz28 rfl (by exact ⟨rfl, rfl, rfl, hrp3.lv.2, trivial⟩) (fun w29 hv => ?_)
 simp only [zO, sp] at hv
 refine uA rfl (uW k22 ?_)
 refine sK fun _ k30 => rW mixed [14, 15, 16, 28] [0,1,2,3,4,5,6,7,8,9,10,11,12,13,14,15,16,17,18,19,20,21,22,23,24,25,26,27,28,29,30,31,32] 61 rfl (by kernel_rfl) hv ?_
 simp only [qm, opAt]
 refine dM (.bool true) rfl (dM (.bool true) rfl ?_)
 refine dM (.bool true) rfl ?_
 simp only [zP, po]
 refine dK true (.bool true) rfl (dM (.bool true) rfl ?_)
 refine dM (.bool true) rfl ?_
 simp only [zP, po]
 refine dK true (.bool true) rfl (dM (.bool true) rfl ?_)
 refine dG (.pointer (some ⟨b11, 2, none⟩)) rfl (ex_field rfl rfl (l0fa28_2 _ _ _)) ?_
 simp only [zP, po]
 refine dL _ rfl (fun hv => ex_load rfl rfl (run_load1 s2na3 (hv.load 4 2 rfl rfl))) (dG (.bool true) rfl (ex_eql rfl rfl rfl (by decide)) ?_)
 refine dK true (.bool true) rfl ?_
 simp only [zP, po]
 refine dM (.bool true) rfl (dF (.agg #[vI 5, vS [], vI 0, .slice a2 4 c2]) rfl (fun hv => ex_load rfl rfl (lM 3 rswd28 hv rfl rfl rfl rfl)) fun f31 hf31 => ?_)
 refine dS rfl fun w32 hv => mem_rowN (pv := #[(0, vS [97]), (1, vS [50]), (2, vS [98]), (3, vS [49])]) (L := [vS [97], vS [50], vS [98], vS [49]]) (e := 9) rfl rfl (by simp only [List.map_toArray, List.map_cons, List.map_nil]; rfl) hv (fun w => by kernel_rfl) (fun b33 w34 hv => ?_)
 refine dV hv (fC (fun ww hv => hf31 ww ?_) fN) ?_
 ·exact ex_load rfl rfl (lM 4 rswd28 hv rfl rfl rfl rfl)
 simp only [zP, po]
 refine dS rfl fun w35 hv => ?_
 obtain ⟨D36, hD36, hv, hrD36, hoD36, -⟩ := (hv.cellRow (n := 4) (c := 4) (size := 1) rfl (by decide) (by decide)).rowBy
 refine mC hCcallable17 rfl ((ref20Strs D36 _ _ _ _ [([97] : List UInt8), ([50] : List UInt8), ([98] : List UInt8), ([49] : List UInt8)] hrD36 (by decide) hv).mono ?_) rfl
 rintro e w37 ⟨E, ve, hE, rfl, hrpE, hv⟩
 refine ⟨_, rfl, dV hv (fC (fun ww hv => hf31 ww ?_) fN) ?_⟩
 ·exact ex_load rfl rfl (lM 3 rswd28 hv rfl rfl rfl rfl)
 refine dS rfl fun w38 hv => mC l0callable9 rfl (((sameR_strs (B := E) (l := [[97], [50], [98], [49]]) (by decide)) _ _ (rpCells 5 [] 0 (.slice a2 4 c2)) (rpCells 5 [] 0 ve) (hrp2.more (((hD25.trans hC3).trans hD36).trans hE)) (hrpE.more (Base.Le.refl _)) hv).mono ?_) rfl
 rintro e w39 ⟨rfl, hv⟩
 refine ⟨_, rfl, dV hv (fK rfl fN) ?_⟩
 refine dK true (.bool true) rfl ?_
 simp only [zP, po]
 refine dM (.bool true) rfl (dG (.pointer (some ⟨b27, 2, none⟩)) rfl (ex_field rfl rfl (l0fa28_2 _ _ _)) ?_)
 refine dL _ rfl (fun hv => ex_load rfl rfl (run_load1 s2na3 (hv.load 0 2 rfl rfl))) ?_
 simp only [zP, po]
 refine dG (.bool true) rfl (ex_eql rfl rfl rfl (by decide)) (dK true (.bool true) rfl ?_)
 refine dM (.bool true) rfl ?_
 simp only [zP, po]
 refine dM (vP v) rfl (dG (vP v) rfl (ex_nil rfl rfl) ?_)
 refine dG (vP v) rfl (ex_field rfl rfl (v1fa40_0 _ _ _)) ?_
 simp only [zP, po]
 refine dL _ rfl (fun hv => ex_load rfl rfl (run_load1 v1na38 (hv.load 1 0 rfl rfl))) (dS rfl fun w40 hv => ?_)
 replace hv := hv.front 2 rfl
 simp only [eS, eZ] at hv
 refine stepMem_callI hCcallable172 rfl rfl rfl (r := vP t) (fun w => by kernel_rfl) (args := #[]) (by simp only [List.map_toArray, List.map_nil]) ((txnNamesB E _ _ t m s p wb va vc sv 0 es3 M3 (hM3.more (hD36.trans hE)) (HasH.short hS3) (by have := HasH.few hS3; omega) hv).mono ?_)
 rintro e w41 ⟨P, qa, qc, hP, rfl, -, hv⟩
 refine ⟨_, rfl, dV hv (fK rfl fN) ?_⟩
 refine dG (vI (((namesT M3 0).length) : Int)) rfl (ex_len0 Tryz.underlying22 rfl rfl) ?_
 simp only [zP, po]
 refine dG (.bool true) rfl (ex_eql rfl rfl rfl (qT (by rw [hn3]; rfl))) (dK true (.bool true) rfl ?_)
 refine dA (.bool true) rfl (dE fun w42 hv => ?_)
 simp only [zP, po]
 refine tK k30 (rR ?_)
 refine bR rfl rfl (⟨rfl, ((hv.kp [] 0 5)).weak ((((((((hD9.trans hC1).trans hD17).trans hC2).trans hD25).trans hC3).trans hD36).trans hE).trans hP)⟩)
end Go.Proofs.YtffnhfkkochnhaaGreatDoor
