/- clist: do, of every command. -/
import Derived.Test.YtmhdpjifhfoabaaGreatDoorClFauC
import Derived.Test.YtmhdpjifhfoabaaGreatDoorClFauN
import Derived.Test.YtmhdpjifhfoabaaGreatDoorClFauB
import Derived.Test.YtmhdpjifhfoabaaGreatDoorRows
set_option maxRecDepth 100000
set_option maxHeartbeats 16000000
set_option synthInstance.maxSize 4096
set_option synthInstance.maxHeartbeats 400000
namespace Go.Proofs.YtmhdpjifhfoabaaGreatDoor
open Go.RowKit Go.Pm
theorem isF_strs {l : Tx} : ¬ IsF (rStrs l) := fun h => absurd (show (5 : Int) = 1 from h) (by decide)
theorem LPopR.cmd {M M' : List (List UInt8 × Ver)} {clk : Int} {key : List UInt8} {front : Bool} {ws : Tx} {r : Rp} (hO : OkM M) (h : LPopR M clk key front ws M' r) : CmdR M M' r := by
 rcases h with ⟨-, rfl, -⟩ | ⟨ns, -, ⟨-, rfl, -⟩ | ⟨-, y, ec, -, ⟨-, rfl, -⟩ | ⟨-, ⟨-, rfl, -⟩ | ⟨-, e3, hk, hd⟩⟩⟩⟩
 ·exact ⟨hO, fun _ => rfl⟩
 ·exact ⟨hO, fun _ => rfl⟩
 ·exact ⟨hO, fun _ => rfl⟩
 ·exact ⟨hO, fun _ => rfl⟩
 rcases hk with ⟨-, rfl, -⟩ | ⟨-, hk⟩
 ·exact ⟨hO, fun _ => rfl⟩
 exact hd.keep hO hk (by split; exact isF_strs; exact isF_str)
def LMovR (M : List (List UInt8 × Ver)) (clk : Int) (k l a b : List UInt8) (M' : List (List UInt8 × Ver)) (r : Rp) : Prop :=
 ∃ r2 r3, IsI a [[76, 69, 70, 84], [82, 73, 71, 72, 84]] r2 ∧ IsI b [[76, 69, 70, 84], [82, 73, 71, 72, 84]] r3 ∧ (((r2 < 0 ∨ r3 < 0) ∧ M' = M ∧ IsF r) ∨ ∃ fr to, (fr = true ↔ r2 = 0) ∧ (to = true ↔ r3 = 0) ∧ LMoveR M clk k l fr to M' r)
def DoL (M : List (List UInt8 × Ver)) (clk : Int) (name : List UInt8) (args : List (List UInt8)) (M' : List (List UInt8 × Ver)) (r : Rp) : Prop :=
 (name = ([82, 80, 85, 83, 72] : List UInt8) → ∃ k, args[0]? = some k ∧ LPushR M clk k false false (args.drop 1) M' r) ∧ (name = ([76, 77, 79, 86, 69] : List UInt8) → ∃ k l a b, args[0]? = some k ∧ args[1]? = some l ∧ args[2]? = some a ∧ args[3]? = some b ∧ LMovR M clk k l a b M' r) ∧
 (name = ([82, 80, 79, 80, 76, 80, 85, 83, 72] : List UInt8) → ∃ k l, args[0]? = some k ∧ args[1]? = some l ∧ LMoveR M clk k l false true M' r) ∧ (name = ([76, 82, 65, 78, 71, 69] : List UInt8) → ∃ k, args[0]? = some k ∧ LRangeR M clk k (args.drop 1) M' r) ∧ (name = ([76, 80, 79, 80] : List UInt8) → ∃ k, args[0]? = some k ∧ LPopR M clk k true (args.drop 1) M' r)
theorem jAal28 : AL Tryz.prog 28 [vI 0, vS [], vI 0, vN] := fun w => by kernel_rfl
theorem jAcallable39 : Callable Tryz.prog 39 := cb Tryz.func39 (by kernel_rfl)
theorem jAcallable40 : Callable Tryz.prog 40 := cb Tryz.func40 (by kernel_rfl)
theorem jAal85 : AL Tryz.prog 85 [vI 0, .bool false, vI 0, vI 0, vS [], vN, vN, vN] := fun w => by kernel_rfl
theorem jAcallable45 : Callable Tryz.prog 45 := cb Tryz.func45 (by kernel_rfl)
theorem jAcallable46 : Callable Tryz.prog 46 := cb Tryz.func46 (by kernel_rfl)
theorem jAcallable47 : Callable Tryz.prog 47 := cb Tryz.func47 (by kernel_rfl)
theorem jAcallable48 : Callable Tryz.prog 48 := cb Tryz.func48 (by kernel_rfl)
theorem jAcallable49 : Callable Tryz.prog 49 := cb Tryz.func49 (by kernel_rfl)
theorem jAcallable50 : Callable Tryz.prog 50 := cb Tryz.func50 (by kernel_rfl)
theorem jAcallable51 : Callable Tryz.prog 51 := cb Tryz.func51 (by kernel_rfl)
theorem jAcallable52 : Callable Tryz.prog 52 := cb Tryz.func52 (by kernel_rfl)
theorem clistDoAll (B : Base) (H : List Res) (w : World) (v t m s p wb : Nat) (va : Option Addr) (vc : Nat) (sv : Value) (clk : Int) (es : List (List UInt8 × Value)) (M : List (List UInt8 × Ver)) (hM : VM B es M) (hO : OkM M) (aa : Option Addr) (ac : Nat) (args : List (List UInt8)) (hra : RdV B [] aa (textCells args)) (hoka : SliceOk aa args.length ac) (hma : args.length ≤ 1000) (name : List UInt8) (hal : 1 ≤ args.length) (hc2 : name = ([76, 73, 78, 68, 69, 88] : List UInt8) ∨ name = ([82, 80, 79, 80, 76, 80, 85, 83, 72] : List UInt8) ∨ name = ([76, 80, 79, 83] : List UInt8) → 2 ≤ args.length) (hc3 : name = ([76, 82, 69, 77] : List UInt8) ∨ name = ([76, 83, 69, 84] : List UInt8) → 3 ≤ args.length) (hc4 : name = ([76, 73, 78, 83, 69, 82, 84] : List UInt8) ∨ name = ([76, 77, 79, 86, 69] : List UInt8) → 4 ≤ args.length) (hdef : (∀ x ∈ [([76, 73, 78, 68, 69, 88] : List UInt8), ([76, 73, 78, 83, 69, 82, 84] : List UInt8), ([76, 76, 69, 78] : List UInt8), ([76, 77, 79, 86, 69] : List UInt8), ([82, 80, 79, 80, 76, 80, 85, 83, 72] : List UInt8), ([76, 77, 80, 79, 80] : List UInt8), ([76, 80, 79, 80] : List UInt8), ([82, 80, 79, 80] : List UInt8), ([76, 80, 79, 83] : List UInt8), ([76, 80, 85, 83, 72] : List UInt8), ([82, 80, 85, 83, 72] : List UInt8), ([76, 80, 85, 83, 72, 88] : List UInt8), ([82, 80, 85, 83, 72, 88] : List UInt8), ([76, 82, 69, 77] : List UInt8), ([76, 83, 69, 84] : List UInt8)], ¬ name = x) → args.length = 3) (hxl : ∀ x ∈ args, x.length ≤ 9223372036854775807) (hN : NumB B) (hv : Inv B (Res.cell v [.iface 62 (vP t)] 36 :: txR t m s p wb va vc sv clk es :: H) w) :
  Calls Tryz.prog 27 #[.agg #[vP v, .slice aa args.length ac], vS name] w fun e w' => ∃ C es' M' r cs, B.Le C ∧ e = .returned (.agg cs.toArray) ∧ RpAt C r cs ∧ VM C es' M' ∧ CmdR M M' r ∧ DoL M clk name args M' r ∧ Inv C (Res.cell v [.iface 62 (vP t)] 36 :: txR t m s p wb va vc sv clk es' :: H) w' := by
 obtain ⟨key, hkey⟩ : ∃ k, args[0]? = some k := ⟨_, List.getElem?_eq_getElem (show 0 < args.length by omega)⟩
 have hd1 : (args.drop 1).length = args.length - 1 := List.length_drop
 obtain ⟨a3, c3, ha3, ok3, hr3⟩ := sliced_fromV 1 hoka hra (textCells_len args) (show 1 ≤ args.length by omega) (by decide)
 rw [Nat.mul_one, tx_drop] at hr3
 rw [← hd1] at ok3
 have hxd : ∀ x ∈ args.drop 1, x.length ≤ 9223372036854775807 := fun x hx => hxl x (List.mem_of_mem_drop hx)
 refine cW Tryz.func27 rfl Tryz.ntmps27 ?_
 simp only [al]
 refine sK fun _ k1 => rL (sl_box (L := [vP v, .slice aa args.length ac]) tV (wn rfl) rfl rfl hv (fun w => by kernel_rfl) (fun b2 w3 hv => ?_))
 simp only [zP, po]
 refine sl_alloc tV (wn rfl) rfl hv jAal28 (fun b4 w5 hv => ?_)
 refine uW k1 (sK fun _ k6 => ?_)
 refine rL (uF (.pointer (some ⟨b2, 1, none⟩)) rfl (j1fa74_1 _ _ _) ?_)
 refine uL _ rfl (run_load1 s1na22 (hv.load 1 1 rfl rfl)) (uA rfl ?_)
 refine uW k6 (sK fun _ k7 => ?_)
 refine sK fun _ k8 => rL (uM rfl ?_)
 refine uW k8 (bB ?_)
 refine sK fun _ k9 => rL ?_
 by_cases hb10 : name = ([76, 73, 78, 68, 69, 88] : List UInt8)
 ·refine uG (.bool true) rfl (ex_seql rfl rfl rfl (qT hb10)) (uA rfl ?_)
  refine uW k9 (cT rfl ?_)
  refine sK fun _ k11 => ?_
  have hal9 := hc2 (.inl hb10)
  obtain ⟨x1, hx1⟩ : ∃ k, args[1]? = some k := ⟨_, List.getElem?_eq_getElem (show 1 < args.length by omega)⟩
  refine rL (uL (.agg #[vP v, .slice aa args.length ac]) rfl (lM 1 j1wd74 hv rfl rfl rfl rfl) ?_)
  replace hv := hv.front 3 rfl
  simp only [eS, eZ] at hv
  replace hv := hv.front 3 rfl
  simp only [eS, eZ] at hv
  refine xC jAcallable39 rfl ((clistIndex B _ _ v t m s p wb va vc sv clk es M hM hO aa ac args hra hoka (by omega) key hkey x1 hx1 hN hv).mono ?_) rfl
  rintro e w12 ⟨D, es', M', r, cs, hD, rfl, hrpl, hM', hrel, hv⟩
  refine ⟨_, rfl, ?_⟩
  have hcmd : CmdR M M' r := hrel
  obtain ⟨rk, rs, rn, rv, rfl⟩ := rp_parts hrpl
  simp only [zP, po]
  refine xS 2 rfl hv rssz28 rfl (by exact ⟨rfl, rfl, rfl, hrpl.lv.2, trivial⟩) (fun w13 hv => ?_)
  simp only [zS, zO, sp] at hv
  refine uW k11 (rR ?_)
  refine bZ (tR ?_)
  refine bC 2 rswd28 hv rfl rfl rfl rfl (⟨D, es', M', r, _, hD, rfl, hrpl, hM', hcmd, ⟨fun h9 => by rw [hb10] at h9; exact absurd h9 (by decide), fun h9 => by rw [hb10] at h9; exact absurd h9 (by decide), fun h9 => by rw [hb10] at h9; exact absurd h9 (by decide), fun h9 => by rw [hb10] at h9; exact absurd h9 (by decide), fun h9 => by rw [hb10] at h9; exact absurd h9 (by decide)⟩, (hv.kp [1, 1] 2 2)⟩)
 refine uG (.bool false) rfl (ex_seql rfl rfl rfl (qF hb10)) (uA rfl ?_)
 refine uW k9 (cF rfl ?_)
 refine sK fun _ k14 => rL ?_
 by_cases hb15 : name = ([76, 73, 78, 83, 69, 82, 84] : List UInt8)
 ·refine uG (.bool true) rfl (ex_seql rfl rfl rfl (qT hb15)) (uA rfl ?_)
  refine uW k14 (cT rfl ?_)
  refine sK fun _ k16 => ?_
  have hal9 := hc4 (.inl hb15)
  obtain ⟨x1, hx1⟩ : ∃ k, args[1]? = some k := ⟨_, List.getElem?_eq_getElem (show 1 < args.length by omega)⟩
  obtain ⟨x2, hx2⟩ : ∃ k, args[2]? = some k := ⟨_, List.getElem?_eq_getElem (show 2 < args.length by omega)⟩
  obtain ⟨x3, hx3⟩ : ∃ k, args[3]? = some k := ⟨_, List.getElem?_eq_getElem (show 3 < args.length by omega)⟩
  refine rL (uL (.agg #[vP v, .slice aa args.length ac]) rfl (lM 1 j1wd74 hv rfl rfl rfl rfl) ?_)
  replace hv := hv.front 3 rfl
  simp only [eS, eZ] at hv
  replace hv := hv.front 3 rfl
  simp only [eS, eZ] at hv
  refine xC jAcallable40 rfl ((clistInsert B _ _ v t m s p wb va vc sv clk es M hM hO aa ac args hra hoka (by omega) key hkey x1 hx1 x2 hx2 x3 hx3 hxl hv).mono ?_) rfl
  rintro e w17 ⟨D, es', M', r, cs, hD, rfl, hrpl, hM', hrel, hv⟩
  refine ⟨_, rfl, ?_⟩
  have hcmd : CmdR M M' r := hrel
  obtain ⟨rk, rs, rn, rv, rfl⟩ := rp_parts hrpl
  simp only [zP, po]
  refine xS 2 rfl hv rssz28 rfl (by exact ⟨rfl, rfl, rfl, hrpl.lv.2, trivial⟩) (fun w18 hv => ?_)
  simp only [zS, zO, sp] at hv
  refine uW k16 (rR ?_)
  refine bZ (tR ?_)
  refine bC 2 rswd28 hv rfl rfl rfl rfl (⟨D, es', M', r, _, hD, rfl, hrpl, hM', hcmd, ⟨fun h9 => by rw [hb15] at h9; exact absurd h9 (by decide), fun h9 => by rw [hb15] at h9; exact absurd h9 (by decide), fun h9 => by rw [hb15] at h9; exact absurd h9 (by decide), fun h9 => by rw [hb15] at h9; exact absurd h9 (by decide), fun h9 => by rw [hb15] at h9; exact absurd h9 (by decide)⟩, (hv.kp [1, 1] 2 2)⟩)
 refine uG (.bool false) rfl (ex_seql rfl rfl rfl (qF hb15)) (uA rfl ?_)
 refine uW k14 (cF rfl ?_)
 refine sK fun _ k19 => rL ?_
 by_cases hb20 : name = ([76, 76, 69, 78] : List UInt8)
 ·refine uG (.bool true) rfl (ex_seql rfl rfl rfl (qT hb20)) (uA rfl ?_)
  refine uW k19 (cT rfl ?_)
  refine sK fun _ k21 => ?_
  obtain ⟨ab, ao, had, hrdkey⟩ := text_reads hra hkey
  subst had
  have halkey : 0 < args.length := (List.getElem?_eq_some_iff.1 hkey).1
  refine rT mixed (fun az wz => ∃ (C : Base) (y : Ver) (yp yt yz : Value) (ec : Int) (b27 : Nat), (B.Le C) ∧ (ValAt C y.val yp yt yz) ∧ (OfI M clk key 3 y ec) ∧ az = { tmps := List.toArray (.agg #[vP v, .slice (some ⟨ab, ao, none⟩) args.length ac] :: vS name :: vP b2 :: undef :: vP b4 :: .slice (some ⟨ab, ao, none⟩) args.length ac :: vP b27 :: vI ec :: undef :: undef :: .pointer (some ⟨b2, 1, none⟩) :: .slice (some ⟨ab, ao, none⟩) args.length ac :: vS name :: .bool false :: .bool false :: undef :: undef :: .bool false :: .bool false :: undef :: undef :: .bool true :: .bool true :: .tuple #[.agg #[vI y.stamp, .bool y.gone, vI y.expire, vI y.val.kind, vS y.val.text, yp, yt, yz], vI ec] :: vP b2 :: vP v :: .slice (some ⟨ab, ao, none⟩) args.length ac :: .pointer (some ⟨ab, ao + 0, none⟩) :: vS key :: .tuple #[.agg #[vI y.stamp, .bool y.gone, vI y.expire, vI y.val.kind, vS y.val.text, yp, yt, yz], vI ec] :: .agg #[vI y.stamp, .bool y.gone, vI y.expire, vI y.val.kind, vS y.val.text, yp, yt, yz] :: vI ec :: undef :: undef :: undef :: undef :: undef :: undef :: undef :: undef :: undef :: undef :: undef :: undef :: undef :: undef :: undef :: undef :: undef :: undef :: undef :: undef :: undef :: undef :: undef :: undef :: undef :: undef :: undef :: undef :: undef :: undef :: undef :: undef :: undef :: undef :: undef :: undef :: undef :: undef :: undef :: undef :: undef :: undef :: undef :: undef :: undef :: undef :: undef :: undef :: undef :: undef :: undef :: undef :: undef :: undef :: undef :: undef :: undef :: undef :: undef :: undef :: undef :: undef :: undef :: undef :: undef :: undef :: undef :: undef :: undef :: undef :: undef :: undef :: undef :: undef :: undef :: undef :: undef :: undef :: undef :: undef :: undef :: undef :: undef :: undef :: undef :: undef :: undef :: undef :: undef :: undef :: undef :: undef :: undef :: undef :: undef :: undef :: undef :: undef :: undef :: undef :: undef :: undef :: undef :: undef :: undef :: undef :: undef :: undef :: undef :: undef :: undef :: undef :: undef :: undef :: []), defers := [] } ∧ Inv C (Res.cell b27 [vI y.stamp, .bool y.gone, vI y.expire, vI y.val.kind, vS y.val.text, yp, yt, yz] 85 :: Res.cell v [.iface 62 (vP t)] 36 :: txR t m s p wb va vc sv clk es :: Res.cell b4 [vI 0, vS [], vI 0, vN] 28 :: Res.cell b2 [vP v, .slice (some ⟨ab, ao, none⟩) args.length ac] 74 :: H) wz) [5, 9, 10] [0,1,2,3,4] [6,7,8,9,10,11] [5,6,7,8,10,11] 5 9 146 rfl (by kernel_rfl) hv ?_ ?_
  ·intro R2 l1 l2 hR2 hl1 hl2
   simp only [qm, opAt]
   refine tG (vP b2) rfl (ex_field rfl rfl (j1fa74_0 _ _ _)) (tF (vP v) rfl (fun hv => ex_load rfl rfl (run_load1 j1na24 (hv.load 1 0 rfl rfl))) fun f22 hf22 => ?_)
   simp only [zP, po]
   refine tG (.slice (some ⟨ab, ao, none⟩) args.length ac) rfl (ex_move rfl rfl) (tG (.pointer (some ⟨ab, ao + 0, none⟩)) rfl (ex_index rfl rfl rfl (run_idx1 (k := 0) Tryz.underlying22 s9es22 (by omega))) ?_)
   simp only [zP, po]
   refine tF (vS key) rfl (fun hv => ex_load rfl rfl (run_load1 s9na9 (hrdkey _ _ _ (Base.Le.refl _) no_res hv 0 _ rfl))) fun f23 hf23 => ?_
   simp only [zP, po]
   refine tB ?_ ?_
   ·rw [hl1]; clear hl1 hl2
    simp only [qm, opAt]
    refine dS rfl fun w24 hv => ?_
    replace hv := hv.front 3 rfl
    simp only [eS, eZ] at hv
    replace hv := hv.front 3 rfl
    simp only [eS, eZ] at hv
    refine mC j1callable41 rfl ((viewOf B _ _ v t m s p wb va vc sv clk es M key 3 (hM.more (Base.Le.refl _)) hv).mono ?_) rfl
    rintro e w25 ⟨C, y, yp, yt, yz, ec, hC, rfl, hyv, hof, hv⟩
    refine ⟨_, rfl, dV hv (fK rfl (fK rfl fN)) ?_⟩
    refine dM (.tuple #[.agg #[vI y.stamp, .bool y.gone, vI y.expire, vI y.val.kind, vS y.val.text, yp, yt, yz], vI ec]) rfl (dG (.agg #[vI y.stamp, .bool y.gone, vI y.expire, vI y.val.kind, vS y.val.text, yp, yt, yz]) rfl (ex_extract rfl rfl rfl) ?_)
    simp only [zP, po]
    refine dG (vI ec) rfl (ex_extract rfl rfl rfl) (dS rfl fun w26 hv => ?_)
    refine mem_alloc rfl rfl hv jAal85 (fun b27 w28 hv => ?_)
    refine dV hv (fC (fun ww hv => hf23 ww (ex_load rfl rfl (run_load1 s9na9 (hrdkey _ _ _ hC no_res hv 0 _ rfl)))) (fC (fun ww hv => hf22 ww (ex_load rfl rfl (run_load1 j1na24 (hv.load 4 0 rfl rfl)))) fN)) (dS rfl fun w29 hv => ?_)
    refine mS 0 rfl hv x0sz85 rfl (by exact ⟨rfl, rfl, rfl, rfl, rfl, hyv.p.one, hyv.t.one, hyv.z.one, trivial⟩) (fun w30 hv => ?_)
    simp only [zO, sp] at hv
    refine dV hv (fK rfl (fK rfl fN)) ?_
    simp only [zP, po]
    refine dA (vI ec) rfl (dE fun wz hv => ?_)
    simp only [zP, po]
    exact hR2 _ _ ⟨C, y, yp, yt, yz, ec, b27, hC, hyv, hof, rfl, (((((hv.front 4 rfl).front 4 rfl).front 4 rfl).front 4 rfl).front 4 rfl)⟩
   rw [hl2]; clear hl1 hl2
   simp only [qm, opAt]
   refine dS rfl fun w31 hv => mem_alloc rfl rfl hv jAal85 (fun b32 w33 hv => ?_)
   refine dV hv (fC (fun ww hv => hf23 ww (ex_load rfl rfl (run_load1 s9na9 (hrdkey _ _ _ (Base.Le.refl _) no_res hv 0 _ rfl)))) (fC (fun ww hv => hf22 ww (ex_load rfl rfl (run_load1 j1na24 (hv.load 2 0 rfl rfl)))) fN)) (dS rfl fun w34 hv => ?_)
   replace hv := hv.front 4 rfl
   simp only [eS, eZ] at hv
   replace hv := hv.front 4 rfl
   simp only [eS, eZ] at hv
   refine mC j1callable41 rfl ((viewOf B _ _ v t m s p wb va vc sv clk es M key 3 (hM.more (Base.Le.refl _)) hv).mono ?_) rfl
   rintro e w35 ⟨C, y, yp, yt, yz, ec, hC, rfl, hyv, hof, hv⟩
   refine ⟨_, rfl, dV hv (fK rfl (fK rfl fN)) ?_⟩
   refine dM (.tuple #[.agg #[vI y.stamp, .bool y.gone, vI y.expire, vI y.val.kind, vS y.val.text, yp, yt, yz], vI ec]) rfl ?_
   simp only [zP, po]
   refine dG (.agg #[vI y.stamp, .bool y.gone, vI y.expire, vI y.val.kind, vS y.val.text, yp, yt, yz]) rfl (ex_extract rfl rfl rfl) (dG (vI ec) rfl (ex_extract rfl rfl rfl) ?_)
   refine dS rfl fun w36 hv => mS 2 rfl hv x0sz85 rfl (by exact ⟨rfl, rfl, rfl, rfl, rfl, hyv.p.one, hyv.t.one, hyv.z.one, trivial⟩) (fun w37 hv => ?_)
   simp only [zS, zO, sp] at hv
   refine dV hv (fK rfl (fK rfl fN)) ?_
   simp only [zP, po]
   refine dA (vI ec) rfl (dE fun wz hv => ?_)
   simp only [zP, po]
   exact hR2 _ _ ⟨C, y, yp, yt, yz, ec, b32, hC, hyv, hof, rfl, (((((hv.front 4 rfl).front 4 rfl).front 3 rfl).front 3 rfl).front 4 rfl)⟩
  rintro _ w38 ⟨C, y, yp, yt, yz, ec, b27, hC, hyv, hof, rfl, hv⟩
  obtain ⟨pa, pc, sa, sc, za, zc, rfl, rfl, rfl, hokp, hrp, hoks, hrs, hokz, hrz⟩ := valAt_open hyv
  refine tK k21 (sK fun _ k39 => ?_)
  refine rL (uM rfl ?_)
  refine uF (.pointer (some ⟨b27, 3, none⟩)) rfl (x2fa85_3 _ _ _) ?_
  refine uF (.pointer (some ⟨b27, 6, none⟩)) rfl (s1fa78_3 _ _ _) ?_
  refine uL _ rfl (run_load1 s1na22 (hv.load 0 6 rfl rfl)) ?_
  refine uG (vI (y.val.texts.length : Int)) rfl (ex_len0 Tryz.underlying22 rfl rfl) ?_
  refine xC j1callable43 rfl ((respInt C _ _ (y.val.texts.length : Int) hv).mono ?_) rfl
  rintro e w40 ⟨rfl, hv⟩
  refine ⟨_, rfl, ?_⟩
  simp only [zP, po]
  refine xC j1callable42 rfl ((viewDone C _ _ ec 2 (y.val.texts.length : Int) ([] : List UInt8) (vN) rfl rfl hv).mono ?_) rfl
  rintro e w41 ⟨xr, hxr, rfl, hv⟩
  refine ⟨_, rfl, ?_⟩
  rcases hxr with ⟨hec0, rfl⟩ | ⟨hec0, s42, rfl⟩
  ·simp only [zP, po]
   refine xS 3 rfl hv rssz28 rfl (by exact ⟨rfl, rfl, rfl, rfl, trivial⟩) (fun w43 hv => ?_)
   simp only [zS, zO, sp] at hv
   refine uW k39 (rR ?_)
   refine bZ (tR ?_)
   refine bC 3 rswd28 hv rfl rfl rfl rfl (⟨C, es, M, (.mk 2 ([] : List UInt8) (y.val.texts.length : Int) []), _, hC, rfl, rpAt_leaf, hM.more hC, ⟨hO, fun _ => rfl⟩, ⟨fun h9 => by rw [hb20] at h9; exact absurd h9 (by decide), fun h9 => by rw [hb20] at h9; exact absurd h9 (by decide), fun h9 => by rw [hb20] at h9; exact absurd h9 (by decide), fun h9 => by rw [hb20] at h9; exact absurd h9 (by decide), fun h9 => by rw [hb20] at h9; exact absurd h9 (by decide)⟩, (hv.kp [2, 2] 2 3)⟩)
  simp only [zP, po]
  refine xS 3 rfl hv rssz28 rfl (by exact ⟨rfl, rfl, rfl, rfl, trivial⟩) (fun w44 hv => ?_)
  simp only [zS, zO, sp] at hv
  refine uW k39 (rR ?_)
  refine bZ (tR ?_)
  refine bC 3 rswd28 hv rfl rfl rfl rfl (⟨C, es, M, (.mk 1 s42 0 []), _, hC, rfl, rpAt_leaf, hM.more hC, ⟨hO, fun _ => rfl⟩, ⟨fun h9 => by rw [hb20] at h9; exact absurd h9 (by decide), fun h9 => by rw [hb20] at h9; exact absurd h9 (by decide), fun h9 => by rw [hb20] at h9; exact absurd h9 (by decide), fun h9 => by rw [hb20] at h9; exact absurd h9 (by decide), fun h9 => by rw [hb20] at h9; exact absurd h9 (by decide)⟩, (hv.kp [2, 2] 2 3)⟩)
 refine uG (.bool false) rfl (ex_seql rfl rfl rfl (qF hb20)) (uA rfl ?_)
 refine uW k19 (cF rfl ?_)
 refine sK fun _ k45 => rL ?_
 by_cases hb46 : name = ([76, 77, 79, 86, 69] : List UInt8)
 ·refine uG (.bool true) rfl (ex_seql rfl rfl rfl (qT hb46)) (uA rfl ?_)
  refine uW k45 (cT rfl ?_)
  refine sK fun _ k47 => ?_
  have hal9 := hc4 (.inr hb46)
  obtain ⟨x1, hx1⟩ : ∃ k, args[1]? = some k := ⟨_, List.getElem?_eq_getElem (show 1 < args.length by omega)⟩
  obtain ⟨x2, hx2⟩ : ∃ k, args[2]? = some k := ⟨_, List.getElem?_eq_getElem (show 2 < args.length by omega)⟩
  obtain ⟨x3, hx3⟩ : ∃ k, args[3]? = some k := ⟨_, List.getElem?_eq_getElem (show 3 < args.length by omega)⟩
  obtain ⟨ab, ao, had, hrdkey⟩ := text_reads hra hkey
  subst had
  have halkey : 0 < args.length := (List.getElem?_eq_some_iff.1 hkey).1
  obtain ⟨ab9, ao9, had9, hrdx1⟩ := text_reads hra hx1
  cases had9
  have halx1 : 1 < args.length := (List.getElem?_eq_some_iff.1 hx1).1
  obtain ⟨ab9, ao9, had9, hrdx2⟩ := text_reads hra hx2
  cases had9
  have halx2 : 2 < args.length := (List.getElem?_eq_some_iff.1 hx2).1
  obtain ⟨ab9, ao9, had9, hrdx3⟩ := text_reads hra hx3
  cases had9
  have halx3 : 3 < args.length := (List.getElem?_eq_some_iff.1 hx3).1
  refine rF mixed (fun az wz => ∃ (ri55 ri63 : Int) (b51 b59 : Nat), (IsI x2 [[76, 69, 70, 84], [82, 73, 71, 72, 84]] ri55) ∧ (IsI x3 [[76, 69, 70, 84], [82, 73, 71, 72, 84]] ri63) ∧ az = { tmps := List.toArray (.agg #[vP v, .slice (some ⟨ab, ao, none⟩) args.length ac] :: vS name :: vP b2 :: undef :: vP b4 :: .slice (some ⟨ab, ao, none⟩) args.length ac :: undef :: undef :: vI ri55 :: vI ri63 :: .pointer (some ⟨b2, 1, none⟩) :: .slice (some ⟨ab, ao, none⟩) args.length ac :: vS name :: .bool false :: .bool false :: undef :: undef :: .bool false :: .bool false :: undef :: undef :: .bool false :: .bool false :: undef :: undef :: undef :: undef :: undef :: undef :: undef :: undef :: undef :: undef :: undef :: undef :: undef :: undef :: undef :: undef :: .bool true :: .bool true :: .slice (some ⟨ab, ao, none⟩) args.length ac :: .pointer (some ⟨ab, ao + 2, none⟩) :: vS x2 :: .slice (some ⟨b51, 0, none⟩) 2 2 :: vI ri55 :: .slice (some ⟨ab, ao, none⟩) args.length ac :: .pointer (some ⟨ab, ao + 3, none⟩) :: vS x3 :: .slice (some ⟨b59, 0, none⟩) 2 2 :: vI ri63 :: undef :: undef :: undef :: undef :: undef :: undef :: undef :: undef :: undef :: undef :: undef :: undef :: undef :: undef :: undef :: undef :: undef :: undef :: undef :: undef :: undef :: undef :: undef :: undef :: undef :: undef :: undef :: undef :: undef :: undef :: undef :: undef :: undef :: undef :: undef :: undef :: undef :: undef :: undef :: undef :: undef :: undef :: undef :: undef :: undef :: undef :: undef :: undef :: undef :: undef :: undef :: undef :: undef :: undef :: undef :: undef :: undef :: undef :: undef :: undef :: undef :: undef :: undef :: undef :: undef :: undef :: undef :: undef :: undef :: undef :: undef :: undef :: undef :: undef :: undef :: undef :: undef :: undef :: undef :: undef :: undef :: undef :: undef :: undef :: undef :: undef :: undef :: undef :: undef :: undef :: undef :: undef :: undef :: undef :: undef :: []), defers := [] } ∧ Inv B (Res.cell b4 [vI 0, vS [], vI 0, vN] 28 :: Res.cell b2 [vP v, .slice (some ⟨ab, ao, none⟩) args.length ac] 74 :: Res.cell v [.iface 62 (vP t)] 36 :: txR t m s p wb va vc sv clk es :: H) wz) [3,4,8,9] [0,1,2,5,6,7] (.fork 3 (.fork 4 (.lin [8,9,10,11]) 8 (.lin [4,9,10,11])) 8 (.lin [3,4,9,10,11])) 146 rfl (by kernel_rfl) hv ?_ ?_
  ·intro R2 T hR2 hT
   simp only [qm, opAt]
   refine bG (.slice (some ⟨ab, ao, none⟩) args.length ac) rfl (ex_move rfl rfl) (bG (.pointer (some ⟨ab, ao + 2, none⟩)) rfl (ex_index rfl rfl rfl (run_idx1 (k := 2) Tryz.underlying22 s9es22 (by omega))) ?_)
   simp only [zP, po]
   refine bF (vS x2) rfl (fun hv => ex_load rfl rfl (run_load1 s9na9 (hrdx2 _ _ _ (Base.Le.refl _) no_res hv 0 _ rfl))) fun f48 hf48 => bG (.slice (some ⟨ab, ao, none⟩) args.length ac) rfl (ex_move rfl rfl) ?_
   simp only [zP, po]
   refine bG (.pointer (some ⟨ab, ao + 3, none⟩)) rfl (ex_index rfl rfl rfl (run_idx1 (k := 3) Tryz.underlying22 s9es22 (by omega))) (bF (vS x3) rfl (fun hv => ex_load rfl rfl (run_load1 s9na9 (hrdx3 _ _ _ (Base.Le.refl _) no_res hv 0 _ rfl))) fun f49 hf49 => ?_)
   simp only [zP, po]
   refine bE ?_
   rw [hT]; clear hT
   simp only [qmT, qm, opAt]
   refine gF ?_ ?_
   ·refine gS rfl fun w50 hv => mem_row2 (v1 := vS [76, 69, 70, 84]) (v2 := vS [82, 73, 71, 72, 84]) (e := 9) rfl rfl rfl rfl hv (fun w => by kernel_rfl) (fun b51 w52 hv => ?_)
    refine gV hv (fC (fun ww hv => hf49 ww (ex_load rfl rfl (run_load1 s9na9 (hrdx3 _ _ _ (Base.Le.refl _) no_res hv 0 _ rfl)))) (fC (fun ww hv => hf48 ww (ex_load rfl rfl (run_load1 s9na9 (hrdx2 _ _ _ (Base.Le.refl _) no_res hv 0 _ rfl)))) fN)) ?_
    simp only [zP, po]
    refine gF ?_ ?_
    ·refine gS rfl fun w53 hv => ?_
     obtain ⟨K54, hK54, hv, hrkK54, hokK54, -⟩ := (hv.cellRow (n := 2) (c := 2) (size := 1) rfl (by decide) (by decide)).rowBy
     refine mC j1callable44 rfl ((viewIs K54 _ _ x2 _ 2 [([76, 69, 70, 84] : List UInt8), ([82, 73, 71, 72, 84] : List UInt8)] hrkK54 (Nat.le_of_ble_eq_true rfl) (hxl x2 (List.mem_of_getElem? hx2)) hv).mono ?_) rfl
     rintro e w57 ⟨ri55, rfl, his56, hv⟩
     replace hv := hv.weak hK54
     refine ⟨_, rfl, gV hv (fC (fun ww hv => hf49 ww (ex_load rfl rfl (run_load1 s9na9 (hrdx3 _ _ _ (Base.Le.refl _) no_res hv 0 _ rfl)))) (fK rfl fN)) ?_⟩
     simp only [zP, po]
     refine gL (dS rfl fun w58 hv => ?_)
     refine mem_row2 (v1 := vS [76, 69, 70, 84]) (v2 := vS [82, 73, 71, 72, 84]) (e := 9) rfl rfl rfl rfl hv (fun w => by kernel_rfl) (fun b59 w60 hv => ?_)
     refine dV hv (fC (fun ww hv => hf49 ww (ex_load rfl rfl (run_load1 s9na9 (hrdx3 _ _ _ (Base.Le.refl _) no_res hv 0 _ rfl)))) (fC (fun ww hv => hf48 ww (ex_load rfl rfl (run_load1 s9na9 (hrdx2 _ _ _ (Base.Le.refl _) no_res hv 0 _ rfl)))) fN)) (dS rfl fun w61 hv => ?_)
     obtain ⟨K62, hK62, hv, hrkK62, hokK62, -⟩ := (hv.cellRow (n := 2) (c := 2) (size := 1) rfl (by decide) (by decide)).rowBy
     refine mC j1callable44 rfl ((viewIs K62 _ _ x3 _ 2 [([76, 69, 70, 84] : List UInt8), ([82, 73, 71, 72, 84] : List UInt8)] hrkK62 (Nat.le_of_ble_eq_true rfl) (hxl x3 (List.mem_of_getElem? hx3)) hv).mono ?_) rfl
     rintro e w65 ⟨ri63, rfl, his64, hv⟩
     replace hv := hv.weak hK62
     refine ⟨_, rfl, dV hv (fK rfl (fK rfl fN)) ?_⟩
     refine dA (vI ri55) rfl ?_
     simp only [zP, po]
     refine dA (vI ri63) rfl (dE fun wz hv => ?_)
     simp only [zP, po]
     exact hR2 _ _ ⟨ri55, ri63, b51, b59, his56, his64, rfl, ((((hv.front 3 rfl).front 3 rfl).front 3 rfl).front 3 rfl)⟩
    refine gS rfl fun w66 hv => mem_row2 (v1 := vS [76, 69, 70, 84]) (v2 := vS [82, 73, 71, 72, 84]) (e := 9) rfl rfl rfl rfl hv (fun w => by kernel_rfl) (fun b67 w68 hv => ?_)
    refine gV hv (fC (fun ww hv => hf49 ww (ex_load rfl rfl (run_load1 s9na9 (hrdx3 _ _ _ (Base.Le.refl _) no_res hv 0 _ rfl)))) (fC (fun ww hv => hf48 ww (ex_load rfl rfl (run_load1 s9na9 (hrdx2 _ _ _ (Base.Le.refl _) no_res hv 0 _ rfl)))) fN)) ?_
    simp only [zP, po]
    refine gL (dS rfl fun w69 hv => ?_)
    replace hv := hv.front 1 rfl
    simp only [eS, eZ] at hv
    obtain ⟨K70, hK70, hv, hrkK70, hokK70, -⟩ := (hv.cellRow (n := 2) (c := 2) (size := 1) rfl (by decide) (by decide)).rowBy
    refine mC j1callable44 rfl ((viewIs K70 _ _ x2 _ 2 [([76, 69, 70, 84] : List UInt8), ([82, 73, 71, 72, 84] : List UInt8)] hrkK70 (Nat.le_of_ble_eq_true rfl) (hxl x2 (List.mem_of_getElem? hx2)) hv).mono ?_) rfl
    rintro e w73 ⟨ri71, rfl, his72, hv⟩
    replace hv := hv.weak hK70
    refine ⟨_, rfl, dV hv (fC (fun ww hv => hf49 ww (ex_load rfl rfl (run_load1 s9na9 (hrdx3 _ _ _ (Base.Le.refl _) no_res hv 0 _ rfl)))) (fK rfl fN)) ?_⟩
    refine dS rfl fun w74 hv => ?_
    obtain ⟨K75, hK75, hv, hrkK75, hokK75, -⟩ := (hv.cellRow (n := 2) (c := 2) (size := 1) rfl (by decide) (by decide)).rowBy
    refine mC j1callable44 rfl ((viewIs K75 _ _ x3 _ 2 [([76, 69, 70, 84] : List UInt8), ([82, 73, 71, 72, 84] : List UInt8)] hrkK75 (Nat.le_of_ble_eq_true rfl) (hxl x3 (List.mem_of_getElem? hx3)) hv).mono ?_) rfl
    rintro e w78 ⟨ri76, rfl, his77, hv⟩
    replace hv := hv.weak hK75
    refine ⟨_, rfl, dV hv (fK rfl (fK rfl fN)) ?_⟩
    refine dA (vI ri71) rfl ?_
    simp only [zP, po]
    refine dA (vI ri76) rfl (dE fun wz hv => ?_)
    simp only [zP, po]
    exact hR2 _ _ ⟨ri71, ri76, b51, b67, his72, his77, rfl, ((((hv.front 3 rfl).front 3 rfl).front 3 rfl).front 3 rfl)⟩
   refine gS rfl fun w79 hv => mem_row2 (v1 := vS [76, 69, 70, 84]) (v2 := vS [82, 73, 71, 72, 84]) (e := 9) rfl rfl rfl rfl hv (fun w => by kernel_rfl) (fun b80 w81 hv => ?_)
   refine gV hv (fC (fun ww hv => hf49 ww (ex_load rfl rfl (run_load1 s9na9 (hrdx3 _ _ _ (Base.Le.refl _) no_res hv 0 _ rfl)))) (fC (fun ww hv => hf48 ww (ex_load rfl rfl (run_load1 s9na9 (hrdx2 _ _ _ (Base.Le.refl _) no_res hv 0 _ rfl)))) fN)) ?_
   simp only [zP, po]
   refine gL (dS rfl fun w82 hv => ?_)
   refine mem_row2 (v1 := vS [76, 69, 70, 84]) (v2 := vS [82, 73, 71, 72, 84]) (e := 9) rfl rfl rfl rfl hv (fun w => by kernel_rfl) (fun b83 w84 hv => ?_)
   refine dV hv (fC (fun ww hv => hf49 ww (ex_load rfl rfl (run_load1 s9na9 (hrdx3 _ _ _ (Base.Le.refl _) no_res hv 0 _ rfl)))) (fC (fun ww hv => hf48 ww (ex_load rfl rfl (run_load1 s9na9 (hrdx2 _ _ _ (Base.Le.refl _) no_res hv 0 _ rfl)))) fN)) (dS rfl fun w85 hv => ?_)
   obtain ⟨K86, hK86, hv, hrkK86, hokK86, -⟩ := (hv.cellRow (n := 2) (c := 2) (size := 1) rfl (by decide) (by decide)).rowBy
   refine mC j1callable44 rfl ((viewIs K86 _ _ x2 _ 2 [([76, 69, 70, 84] : List UInt8), ([82, 73, 71, 72, 84] : List UInt8)] hrkK86 (Nat.le_of_ble_eq_true rfl) (hxl x2 (List.mem_of_getElem? hx2)) hv).mono ?_) rfl
   rintro e w89 ⟨ri87, rfl, his88, hv⟩
   replace hv := hv.weak hK86
   refine ⟨_, rfl, dV hv (fC (fun ww hv => hf49 ww (ex_load rfl rfl (run_load1 s9na9 (hrdx3 _ _ _ (Base.Le.refl _) no_res hv 0 _ rfl)))) (fK rfl fN)) ?_⟩
   refine dS rfl fun w90 hv => ?_
   obtain ⟨K91, hK91, hv, hrkK91, hokK91, -⟩ := (hv.cellRow (n := 2) (c := 2) (size := 1) rfl (by decide) (by decide)).rowBy
   refine mC j1callable44 rfl ((viewIs K91 _ _ x3 _ 2 [([76, 69, 70, 84] : List UInt8), ([82, 73, 71, 72, 84] : List UInt8)] hrkK91 (Nat.le_of_ble_eq_true rfl) (hxl x3 (List.mem_of_getElem? hx3)) hv).mono ?_) rfl
   rintro e w94 ⟨ri92, rfl, his93, hv⟩
   replace hv := hv.weak hK91
   refine ⟨_, rfl, dV hv (fK rfl (fK rfl fN)) ?_⟩
   simp only [zP, po]
   refine dA (vI ri87) rfl (dA (vI ri92) rfl ?_)
   refine dE fun wz hv => ?_
   simp only [zP, po]
   exact hR2 _ _ ⟨ri87, ri92, b83, b80, his88, his93, rfl, ((((hv.front 3 rfl).front 3 rfl).front 3 rfl).front 3 rfl)⟩
  rintro _ w95 ⟨ri55, ri63, b51, b59, his2, his3, rfl, hv⟩
  refine tK k47 (sK fun _ k96 => ?_)
  refine sK fun _ k97 => rL (uM rfl ?_)
  by_cases hb98 : ri55 < 0
  ·refine uG (.bool true) rfl (ex_lss rfl rfl rfl (qT hb98)) (uM rfl ?_)
   refine uP rfl ?_
   refine uP rfl (uK rfl ?_)
   refine uW k97 (cT rfl ?_)
   refine sK fun _ k99 => rL (xC rscallable25 rfl ((viewWrong B _ _ 42 hv).mono ?_) rfl)
   rintro e w101 ⟨s100, rfl, hv⟩
   refine ⟨_, rfl, ?_⟩
   simp only [zP, po]
   refine xS 0 rfl hv rssz28 rfl (by exact ⟨rfl, rfl, rfl, rfl, trivial⟩) (fun w102 hv => ?_)
   simp only [zO, sp] at hv
   refine uW k99 (rR ?_)
   refine tR (bZ ?_)
   refine tR (bC 0 rswd28 hv rfl rfl rfl rfl ?_)
   exact ⟨B, es, M, (.mk 1 s100 0 []), _, (Base.Le.refl _), rfl, rpAt_leaf, hM.more (Base.Le.refl _), ⟨hO, fun _ => rfl⟩, ⟨fun h9 => by rw [hb46] at h9; exact absurd h9 (by decide), fun _ => ⟨key, x1, x2, x3, hkey, hx1, hx2, hx3, ri55, ri63, his2, his3, .inl ⟨by omega, rfl, rfl⟩⟩, fun h9 => by rw [hb46] at h9; exact absurd h9 (by decide), fun h9 => by rw [hb46] at h9; exact absurd h9 (by decide), fun h9 => by rw [hb46] at h9; exact absurd h9 (by decide)⟩, (hv.kp [3, 3] 2 2)⟩
  refine uG (.bool false) rfl (ex_lss rfl rfl rfl (qF hb98)) (uM rfl ?_)
  refine uM rfl ?_
  by_cases hb103 : ri63 < 0
  ·refine uG (.bool true) rfl (ex_lss rfl rfl rfl (qT hb103)) (uK rfl ?_)
   refine uW k97 (cT rfl ?_)
   refine sK fun _ k104 => rL (xC rscallable25 rfl ((viewWrong B _ _ 42 hv).mono ?_) rfl)
   rintro e w106 ⟨s105, rfl, hv⟩
   refine ⟨_, rfl, ?_⟩
   simp only [zP, po]
   refine xS 0 rfl hv rssz28 rfl (by exact ⟨rfl, rfl, rfl, rfl, trivial⟩) (fun w107 hv => ?_)
   simp only [zO, sp] at hv
   refine uW k104 (rR ?_)
   refine tR (bZ ?_)
   refine tR (bC 0 rswd28 hv rfl rfl rfl rfl ?_)
   exact ⟨B, es, M, (.mk 1 s105 0 []), _, (Base.Le.refl _), rfl, rpAt_leaf, hM.more (Base.Le.refl _), ⟨hO, fun _ => rfl⟩, ⟨fun h9 => by rw [hb46] at h9; exact absurd h9 (by decide), fun _ => ⟨key, x1, x2, x3, hkey, hx1, hx2, hx3, ri55, ri63, his2, his3, .inl ⟨by omega, rfl, rfl⟩⟩, fun h9 => by rw [hb46] at h9; exact absurd h9 (by decide), fun h9 => by rw [hb46] at h9; exact absurd h9 (by decide), fun h9 => by rw [hb46] at h9; exact absurd h9 (by decide)⟩, (hv.kp [3, 3] 2 2)⟩
  refine uG (.bool false) rfl (ex_lss rfl rfl rfl (qF hb103)) (uK rfl ?_)
  refine uW k97 (cF rfl ?_)
  refine kS (tK k96 ?_)
  refine sK fun _ k108 => rW mixed [11, 12] [0,1,2,3,4,5,6,7,8,9,10,11,12] 146 rfl (by kernel_rfl) hv ?_
  simp only [qm, opAt]
  refine dL (.agg #[vP v, .slice (some ⟨ab, ao, none⟩) args.length ac]) rfl (fun hv => ex_load rfl rfl (lM 1 j1wd74 hv rfl rfl rfl rfl)) (dM (.slice (some ⟨ab, ao, none⟩) args.length ac) rfl ?_)
  refine dG (.pointer (some ⟨ab, ao + 0, none⟩)) rfl (ex_index rfl rfl rfl (run_idx1 (k := 0) Tryz.underlying22 s9es22 (by omega))) ?_
  simp only [zP, po]
  refine dL _ rfl (fun hv => ex_load rfl rfl (run_load1 s9na9 (hrdkey _ _ _ (Base.Le.refl _) no_res hv 0 _ rfl))) (dM (.slice (some ⟨ab, ao, none⟩) args.length ac) rfl ?_)
  refine dG (.pointer (some ⟨ab, ao + 1, none⟩)) rfl (ex_index rfl rfl rfl (run_idx1 (k := 1) Tryz.underlying22 s9es22 (by omega))) ?_
  simp only [zP, po]
  refine dL _ rfl (fun hv => ex_load rfl rfl (run_load1 s9na9 (hrdx1 _ _ _ (Base.Le.refl _) no_res hv 0 _ rfl))) (dM (vI ri55) rfl ?_)
  by_cases hb109 : ri55 = 0
  ·refine dG (.bool true) rfl (ex_eql rfl rfl rfl (qT hb109)) ?_
   simp only [zP, po]
   refine dM (vI ri63) rfl ?_
   by_cases hb110 : ri63 = 0
   ·refine dG (.bool true) rfl (ex_eql rfl rfl rfl (qT hb110)) (dS rfl fun w111 hv => ?_)
    replace hv := hv.front 3 rfl
    simp only [eS, eZ] at hv
    replace hv := hv.front 3 rfl
    simp only [eS, eZ] at hv
    refine mC jAcallable45 rfl ((clistMove B _ _ v t m s p wb va vc sv clk es M hM hO (some ⟨ab, ao, none⟩) args.length ac key x1 true true hv).mono ?_) rfl
    rintro e w112 ⟨D, es', M', r, cs, hD, rfl, hrpl, hM', ⟨hO', hrel⟩, hv⟩
    have hcmd : CmdR M M' r := hrel.cmd hO
    obtain ⟨rk, rs, rn, rv, rfl⟩ := rp_parts hrpl
    refine ⟨_, rfl, dW hv ?_⟩
    simp only [zP, po]
    refine dS rfl fun w113 hv => mS 2 rfl hv rssz28 rfl (by exact ⟨rfl, rfl, rfl, hrpl.lv.2, trivial⟩) (fun w114 hv => ?_)
    simp only [zS, zO, sp] at hv
    refine dW hv (dE fun w115 hv => ?_)
    simp only [zP, po]
    refine tK k108 (rR ?_)
    refine bZ (tR ?_)
    refine bC 2 rswd28 hv rfl rfl rfl rfl (⟨D, es', M', r, _, hD, rfl, hrpl, hM', hcmd, ⟨fun h9 => by rw [hb46] at h9; exact absurd h9 (by decide), fun _ => ⟨key, x1, x2, x3, hkey, hx1, hx2, hx3, ri55, ri63, his2, his3, .inr ⟨_, _, ⟨fun _ => hb109, fun _ => rfl⟩, ⟨fun _ => hb110, fun _ => rfl⟩, hrel⟩⟩, fun h9 => by rw [hb46] at h9; exact absurd h9 (by decide), fun h9 => by rw [hb46] at h9; exact absurd h9 (by decide), fun h9 => by rw [hb46] at h9; exact absurd h9 (by decide)⟩, (hv.kp [1, 1] 2 2)⟩)
   refine dG (.bool false) rfl (ex_eql rfl rfl rfl (qF hb110)) (dS rfl fun w116 hv => ?_)
   replace hv := hv.front 3 rfl
   simp only [eS, eZ] at hv
   replace hv := hv.front 3 rfl
   simp only [eS, eZ] at hv
   refine mC jAcallable45 rfl ((clistMove B _ _ v t m s p wb va vc sv clk es M hM hO (some ⟨ab, ao, none⟩) args.length ac key x1 true false hv).mono ?_) rfl
   rintro e w117 ⟨D, es', M', r, cs, hD, rfl, hrpl, hM', ⟨hO', hrel⟩, hv⟩
   have hcmd : CmdR M M' r := hrel.cmd hO
   obtain ⟨rk, rs, rn, rv, rfl⟩ := rp_parts hrpl
   refine ⟨_, rfl, dW hv ?_⟩
   simp only [zP, po]
   refine dS rfl fun w118 hv => mS 2 rfl hv rssz28 rfl (by exact ⟨rfl, rfl, rfl, hrpl.lv.2, trivial⟩) (fun w119 hv => ?_)
   simp only [zS, zO, sp] at hv
   refine dW hv (dE fun w120 hv => ?_)
   simp only [zP, po]
   refine tK k108 (rR ?_)
   refine bZ (tR ?_)
   refine bC 2 rswd28 hv rfl rfl rfl rfl (⟨D, es', M', r, _, hD, rfl, hrpl, hM', hcmd, ⟨fun h9 => by rw [hb46] at h9; exact absurd h9 (by decide), fun _ => ⟨key, x1, x2, x3, hkey, hx1, hx2, hx3, ri55, ri63, his2, his3, .inr ⟨_, _, ⟨fun _ => hb109, fun _ => rfl⟩, ⟨fun h9 => (by cases h9), fun h9 => absurd h9 hb110⟩, hrel⟩⟩, fun h9 => by rw [hb46] at h9; exact absurd h9 (by decide), fun h9 => by rw [hb46] at h9; exact absurd h9 (by decide), fun h9 => by rw [hb46] at h9; exact absurd h9 (by decide)⟩, (hv.kp [1, 1] 2 2)⟩)
  refine dG (.bool false) rfl (ex_eql rfl rfl rfl (qF hb109)) ?_
  simp only [zP, po]
  refine dM (vI ri63) rfl ?_
  by_cases hb121 : ri63 = 0
  ·refine dG (.bool true) rfl (ex_eql rfl rfl rfl (qT hb121)) (dS rfl fun w122 hv => ?_)
   replace hv := hv.front 3 rfl
   simp only [eS, eZ] at hv
   replace hv := hv.front 3 rfl
   simp only [eS, eZ] at hv
   refine mC jAcallable45 rfl ((clistMove B _ _ v t m s p wb va vc sv clk es M hM hO (some ⟨ab, ao, none⟩) args.length ac key x1 false true hv).mono ?_) rfl
   rintro e w123 ⟨D, es', M', r, cs, hD, rfl, hrpl, hM', ⟨hO', hrel⟩, hv⟩
   have hcmd : CmdR M M' r := hrel.cmd hO
   obtain ⟨rk, rs, rn, rv, rfl⟩ := rp_parts hrpl
   refine ⟨_, rfl, dW hv ?_⟩
   simp only [zP, po]
   refine dS rfl fun w124 hv => mS 2 rfl hv rssz28 rfl (by exact ⟨rfl, rfl, rfl, hrpl.lv.2, trivial⟩) (fun w125 hv => ?_)
   simp only [zS, zO, sp] at hv
   refine dW hv (dE fun w126 hv => ?_)
   simp only [zP, po]
   refine tK k108 (rR ?_)
   refine bZ (tR ?_)
   refine bC 2 rswd28 hv rfl rfl rfl rfl (⟨D, es', M', r, _, hD, rfl, hrpl, hM', hcmd, ⟨fun h9 => by rw [hb46] at h9; exact absurd h9 (by decide), fun _ => ⟨key, x1, x2, x3, hkey, hx1, hx2, hx3, ri55, ri63, his2, his3, .inr ⟨_, _, ⟨fun h9 => (by cases h9), fun h9 => absurd h9 hb109⟩, ⟨fun _ => hb121, fun _ => rfl⟩, hrel⟩⟩, fun h9 => by rw [hb46] at h9; exact absurd h9 (by decide), fun h9 => by rw [hb46] at h9; exact absurd h9 (by decide), fun h9 => by rw [hb46] at h9; exact absurd h9 (by decide)⟩, (hv.kp [1, 1] 2 2)⟩)
  refine dG (.bool false) rfl (ex_eql rfl rfl rfl (qF hb121)) (dS rfl fun w127 hv => ?_)
  replace hv := hv.front 3 rfl
  simp only [eS, eZ] at hv
  replace hv := hv.front 3 rfl
  simp only [eS, eZ] at hv
  refine mC jAcallable45 rfl ((clistMove B _ _ v t m s p wb va vc sv clk es M hM hO (some ⟨ab, ao, none⟩) args.length ac key x1 false false hv).mono ?_) rfl
  rintro e w128 ⟨D, es', M', r, cs, hD, rfl, hrpl, hM', ⟨hO', hrel⟩, hv⟩
  have hcmd : CmdR M M' r := hrel.cmd hO
  obtain ⟨rk, rs, rn, rv, rfl⟩ := rp_parts hrpl
  refine ⟨_, rfl, dW hv ?_⟩
  simp only [zP, po]
  refine dS rfl fun w129 hv => mS 2 rfl hv rssz28 rfl (by exact ⟨rfl, rfl, rfl, hrpl.lv.2, trivial⟩) (fun w130 hv => ?_)
  simp only [zS, zO, sp] at hv
  refine dW hv (dE fun w131 hv => ?_)
  simp only [zP, po]
  refine tK k108 (rR ?_)
  refine bZ (tR ?_)
  refine bC 2 rswd28 hv rfl rfl rfl rfl (⟨D, es', M', r, _, hD, rfl, hrpl, hM', hcmd, ⟨fun h9 => by rw [hb46] at h9; exact absurd h9 (by decide), fun _ => ⟨key, x1, x2, x3, hkey, hx1, hx2, hx3, ri55, ri63, his2, his3, .inr ⟨_, _, ⟨fun h9 => (by cases h9), fun h9 => absurd h9 hb109⟩, ⟨fun h9 => (by cases h9), fun h9 => absurd h9 hb121⟩, hrel⟩⟩, fun h9 => by rw [hb46] at h9; exact absurd h9 (by decide), fun h9 => by rw [hb46] at h9; exact absurd h9 (by decide), fun h9 => by rw [hb46] at h9; exact absurd h9 (by decide)⟩, (hv.kp [1, 1] 2 2)⟩)
 refine uG (.bool false) rfl (ex_seql rfl rfl rfl (qF hb46)) (uA rfl ?_)
 refine uW k45 (cF rfl ?_)
 refine sK fun _ k132 => rL ?_
 by_cases hb133 : name = ([82, 80, 79, 80, 76, 80, 85, 83, 72] : List UInt8)
 ·refine uG (.bool true) rfl (ex_seql rfl rfl rfl (qT hb133)) (uA rfl ?_)
  refine uW k132 (cT rfl ?_)
  refine sK fun _ k134 => ?_
  have hal9 := hc2 (.inr (.inl hb133))
  obtain ⟨x1, hx1⟩ : ∃ k, args[1]? = some k := ⟨_, List.getElem?_eq_getElem (show 1 < args.length by omega)⟩
  obtain ⟨ab, ao, had, hrdkey⟩ := text_reads hra hkey
  subst had
  have halkey : 0 < args.length := (List.getElem?_eq_some_iff.1 hkey).1
  obtain ⟨ab9, ao9, had9, hrdx1⟩ := text_reads hra hx1
  cases had9
  have halx1 : 1 < args.length := (List.getElem?_eq_some_iff.1 hx1).1
  refine rW mixed [7, 8] [0,1,2,3,4,5,6,7,8] 146 rfl (by kernel_rfl) hv ?_
  simp only [qm, opAt]
  refine dL (.agg #[vP v, .slice (some ⟨ab, ao, none⟩) args.length ac]) rfl (fun hv => ex_load rfl rfl (lM 1 j1wd74 hv rfl rfl rfl rfl)) (dM (.slice (some ⟨ab, ao, none⟩) args.length ac) rfl ?_)
  refine dG (.pointer (some ⟨ab, ao + 0, none⟩)) rfl (ex_index rfl rfl rfl (run_idx1 (k := 0) Tryz.underlying22 s9es22 (by omega))) ?_
  simp only [zP, po]
  refine dL _ rfl (fun hv => ex_load rfl rfl (run_load1 s9na9 (hrdkey _ _ _ (Base.Le.refl _) no_res hv 0 _ rfl))) (dM (.slice (some ⟨ab, ao, none⟩) args.length ac) rfl ?_)
  refine dG (.pointer (some ⟨ab, ao + 1, none⟩)) rfl (ex_index rfl rfl rfl (run_idx1 (k := 1) Tryz.underlying22 s9es22 (by omega))) ?_
  simp only [zP, po]
  refine dL _ rfl (fun hv => ex_load rfl rfl (run_load1 s9na9 (hrdx1 _ _ _ (Base.Le.refl _) no_res hv 0 _ rfl))) (dS rfl fun w135 hv => ?_)
  replace hv := hv.front 3 rfl
  simp only [eS, eZ] at hv
  replace hv := hv.front 3 rfl
  simp only [eS, eZ] at hv
  refine mC jAcallable45 rfl ((clistMove B _ _ v t m s p wb va vc sv clk es M hM hO (some ⟨ab, ao, none⟩) args.length ac key x1 false true hv).mono ?_) rfl
  rintro e w136 ⟨D, es', M', r, cs, hD, rfl, hrpl, hM', ⟨hO', hrel⟩, hv⟩
  have hcmd : CmdR M M' r := hrel.cmd hO
  obtain ⟨rk, rs, rn, rv, rfl⟩ := rp_parts hrpl
  refine ⟨_, rfl, dW hv ?_⟩
  refine dS rfl fun w137 hv => mS 2 rfl hv rssz28 rfl (by exact ⟨rfl, rfl, rfl, hrpl.lv.2, trivial⟩) (fun w138 hv => ?_)
  simp only [zS, zO, sp] at hv
  refine dW hv (dE fun w139 hv => ?_)
  simp only [zP, po]
  refine tK k134 (rR ?_)
  refine bZ (tR ?_)
  refine bC 2 rswd28 hv rfl rfl rfl rfl (⟨D, es', M', r, _, hD, rfl, hrpl, hM', hcmd, ⟨fun h9 => by rw [hb133] at h9; exact absurd h9 (by decide), fun h9 => by rw [hb133] at h9; exact absurd h9 (by decide), fun _ => ⟨key, x1, hkey, hx1, hrel⟩, fun h9 => by rw [hb133] at h9; exact absurd h9 (by decide), fun h9 => by rw [hb133] at h9; exact absurd h9 (by decide)⟩, (hv.kp [1, 1] 2 2)⟩)
 refine uG (.bool false) rfl (ex_seql rfl rfl rfl (qF hb133)) (uA rfl ?_)
 refine uW k132 (cF rfl ?_)
 refine sK fun _ k140 => rL ?_
 by_cases hb141 : name = ([76, 77, 80, 79, 80] : List UInt8)
 ·refine uG (.bool true) rfl (ex_seql rfl rfl rfl (qT hb141)) (uA rfl ?_)
  refine uW k140 (cT rfl ?_)
  refine sK fun _ k142 => rW mixed [3, 4] [0,1,2,3,4] 146 rfl (by kernel_rfl) hv ?_
  simp only [qm, opAt]
  refine dL (.agg #[vP v, .slice aa args.length ac]) rfl (fun hv => ex_load rfl rfl (lM 1 j1wd74 hv rfl rfl rfl rfl)) (dM (.slice aa args.length ac) rfl ?_)
  refine dG (.slice a3 ((args.drop 1).length) c3) rfl (ex_slice (lo' := some (vI ((1 : Nat) : Int))) rfl rfl (congrArg some rfl) rfl rfl ((run_fromAny Tryz.underlying22 s9es22 (by omega)).trans (by rw [ha3, hd1]))) ?_
  simp only [zP, po]
  refine dS rfl fun w143 hv => ?_
  replace hv := hv.front 3 rfl
  simp only [eS, eZ] at hv
  replace hv := hv.front 3 rfl
  simp only [eS, eZ] at hv
  refine mC jAcallable46 rfl ((clistPopFirst B _ _ v t m s p wb va vc sv clk es M hM hO aa ac args hra hoka (by omega) key hkey a3 c3 (args.drop 1) ok3 hr3 (by omega) hxd hN hv).mono ?_) rfl
  rintro e w144 ⟨D, es', M', r, cs, hD, rfl, hrpl, hM', hrel, hv⟩
  have hcmd : CmdR M M' r := hrel
  obtain ⟨rk, rs, rn, rv, rfl⟩ := rp_parts hrpl
  refine ⟨_, rfl, dW hv ?_⟩
  refine dS rfl fun w145 hv => mS 2 rfl hv rssz28 rfl (by exact ⟨rfl, rfl, rfl, hrpl.lv.2, trivial⟩) (fun w146 hv => ?_)
  simp only [zS, zO, sp] at hv
  refine dW hv (dE fun w147 hv => ?_)
  simp only [zP, po]
  refine tK k142 (rR ?_)
  refine bZ (tR ?_)
  refine bC 2 rswd28 hv rfl rfl rfl rfl (⟨D, es', M', r, _, hD, rfl, hrpl, hM', hcmd, ⟨fun h9 => by rw [hb141] at h9; exact absurd h9 (by decide), fun h9 => by rw [hb141] at h9; exact absurd h9 (by decide), fun h9 => by rw [hb141] at h9; exact absurd h9 (by decide), fun h9 => by rw [hb141] at h9; exact absurd h9 (by decide), fun h9 => by rw [hb141] at h9; exact absurd h9 (by decide)⟩, (hv.kp [1, 1] 2 2)⟩)
 refine uG (.bool false) rfl (ex_seql rfl rfl rfl (qF hb141)) (uA rfl ?_)
 refine uW k140 (cF rfl ?_)
 refine sK fun _ k148 => sK fun _ k149 => rL ?_
 by_cases hb150 : name = ([76, 80, 79, 80] : List UInt8)
 ·refine uG (.bool true) rfl (ex_seql rfl rfl rfl (qT hb150)) (uA rfl ?_)
  refine uW k149 (cT rfl ?_)
  refine kS (tK k148 ?_)
  refine cT rfl (sK fun _ k151 => ?_)
  obtain ⟨ab, ao, had, hrdkey⟩ := text_reads hra hkey
  subst had
  have halkey : 0 < args.length := (List.getElem?_eq_some_iff.1 hkey).1
  refine rW mixed [8, 9] [0,1,2,3,4,5,6,7,8,9] 146 rfl (by kernel_rfl) hv ?_
  simp only [qm, opAt]
  refine dL (.agg #[vP v, .slice (some ⟨ab, ao, none⟩) args.length ac]) rfl (fun hv => ex_load rfl rfl (lM 1 j1wd74 hv rfl rfl rfl rfl)) (dM (.slice (some ⟨ab, ao, none⟩) args.length ac) rfl ?_)
  refine dG (.pointer (some ⟨ab, ao + 0, none⟩)) rfl (ex_index rfl rfl rfl (run_idx1 (k := 0) Tryz.underlying22 s9es22 (by omega))) ?_
  simp only [zP, po]
  refine dL _ rfl (fun hv => ex_load rfl rfl (run_load1 s9na9 (hrdkey _ _ _ (Base.Le.refl _) no_res hv 0 _ rfl))) (dM (vS name) rfl ?_)
  refine dG (.bool true) rfl (ex_seql rfl rfl rfl (qT hb150)) ?_
  simp only [zP, po]
  refine dM (.slice (some ⟨ab, ao, none⟩) args.length ac) rfl (dG (.slice a3 ((args.drop 1).length) c3) rfl (ex_slice (lo' := some (vI ((1 : Nat) : Int))) rfl rfl (congrArg some rfl) rfl rfl ((run_fromAny Tryz.underlying22 s9es22 (by omega)).trans (by rw [ha3, hd1]))) ?_)
  refine dS rfl fun w152 hv => ?_
  replace hv := hv.front 3 rfl
  simp only [eS, eZ] at hv
  replace hv := hv.front 3 rfl
  simp only [eS, eZ] at hv
  refine mC jAcallable47 rfl ((clistPop B _ _ v t m s p wb va vc sv clk es M hM hO (some ⟨ab, ao, none⟩) args.length ac key true a3 c3 (args.drop 1) ok3 hr3 (by omega) hN hv).mono ?_) rfl
  rintro e w153 ⟨D, es', M', r, cs, hD, rfl, hrpl, hM', ⟨hO', hrel⟩, hv⟩
  have hcmd : CmdR M M' r := hrel.cmd hO
  obtain ⟨rk, rs, rn, rv, rfl⟩ := rp_parts hrpl
  refine ⟨_, rfl, dW hv ?_⟩
  simp only [zP, po]
  refine dS rfl fun w154 hv => mS 2 rfl hv rssz28 rfl (by exact ⟨rfl, rfl, rfl, hrpl.lv.2, trivial⟩) (fun w155 hv => ?_)
  simp only [zS, zO, sp] at hv
  refine dW hv (dE fun w156 hv => ?_)
  simp only [zP, po]
  refine tK k151 (rR ?_)
  refine bZ (tR ?_)
  refine bC 2 rswd28 hv rfl rfl rfl rfl (⟨D, es', M', r, _, hD, rfl, hrpl, hM', hcmd, ⟨fun h9 => by rw [hb150] at h9; exact absurd h9 (by decide), fun h9 => by rw [hb150] at h9; exact absurd h9 (by decide), fun h9 => by rw [hb150] at h9; exact absurd h9 (by decide), fun h9 => by rw [hb150] at h9; exact absurd h9 (by decide), fun _ => ⟨key, hkey, hrel⟩⟩, (hv.kp [1, 1] 2 2)⟩)
 refine uG (.bool false) rfl (ex_seql rfl rfl rfl (qF hb150)) (uA rfl ?_)
 refine uW k149 (cF rfl ?_)
 refine rL ?_
 by_cases hb157 : name = ([82, 80, 79, 80] : List UInt8)
 ·refine uG (.bool true) rfl (ex_seql rfl rfl rfl (qT hb157)) (uA rfl ?_)
  refine uW k148 (cT rfl ?_)
  refine sK fun _ k158 => ?_
  obtain ⟨ab, ao, had, hrdkey⟩ := text_reads hra hkey
  subst had
  have halkey : 0 < args.length := (List.getElem?_eq_some_iff.1 hkey).1
  refine rW mixed [8, 9] [0,1,2,3,4,5,6,7,8,9] 146 rfl (by kernel_rfl) hv ?_
  simp only [qm, opAt]
  refine dL (.agg #[vP v, .slice (some ⟨ab, ao, none⟩) args.length ac]) rfl (fun hv => ex_load rfl rfl (lM 1 j1wd74 hv rfl rfl rfl rfl)) (dM (.slice (some ⟨ab, ao, none⟩) args.length ac) rfl ?_)
  refine dG (.pointer (some ⟨ab, ao + 0, none⟩)) rfl (ex_index rfl rfl rfl (run_idx1 (k := 0) Tryz.underlying22 s9es22 (by omega))) ?_
  simp only [zP, po]
  refine dL _ rfl (fun hv => ex_load rfl rfl (run_load1 s9na9 (hrdkey _ _ _ (Base.Le.refl _) no_res hv 0 _ rfl))) (dM (vS name) rfl ?_)
  refine dG (.bool false) rfl (ex_seql rfl rfl rfl (qF hb150)) ?_
  simp only [zP, po]
  refine dM (.slice (some ⟨ab, ao, none⟩) args.length ac) rfl (dG (.slice a3 ((args.drop 1).length) c3) rfl (ex_slice (lo' := some (vI ((1 : Nat) : Int))) rfl rfl (congrArg some rfl) rfl rfl ((run_fromAny Tryz.underlying22 s9es22 (by omega)).trans (by rw [ha3, hd1]))) ?_)
  refine dS rfl fun w159 hv => ?_
  replace hv := hv.front 3 rfl
  simp only [eS, eZ] at hv
  replace hv := hv.front 3 rfl
  simp only [eS, eZ] at hv
  refine mC jAcallable47 rfl ((clistPop B _ _ v t m s p wb va vc sv clk es M hM hO (some ⟨ab, ao, none⟩) args.length ac key false a3 c3 (args.drop 1) ok3 hr3 (by omega) hN hv).mono ?_) rfl
  rintro e w160 ⟨D, es', M', r, cs, hD, rfl, hrpl, hM', ⟨hO', hrel⟩, hv⟩
  have hcmd : CmdR M M' r := hrel.cmd hO
  obtain ⟨rk, rs, rn, rv, rfl⟩ := rp_parts hrpl
  refine ⟨_, rfl, dW hv ?_⟩
  simp only [zP, po]
  refine dS rfl fun w161 hv => mS 2 rfl hv rssz28 rfl (by exact ⟨rfl, rfl, rfl, hrpl.lv.2, trivial⟩) (fun w162 hv => ?_)
  simp only [zS, zO, sp] at hv
  refine dW hv (dE fun w163 hv => ?_)
  simp only [zP, po]
  refine tK k158 (rR ?_)
  refine bZ (tR ?_)
  refine bC 2 rswd28 hv rfl rfl rfl rfl (⟨D, es', M', r, _, hD, rfl, hrpl, hM', hcmd, ⟨fun h9 => by rw [hb157] at h9; exact absurd h9 (by decide), fun h9 => by rw [hb157] at h9; exact absurd h9 (by decide), fun h9 => by rw [hb157] at h9; exact absurd h9 (by decide), fun h9 => by rw [hb157] at h9; exact absurd h9 (by decide), fun h9 => by rw [hb157] at h9; exact absurd h9 (by decide)⟩, (hv.kp [1, 1] 2 2)⟩)
 refine uG (.bool false) rfl (ex_seql rfl rfl rfl (qF hb157)) (uA rfl ?_)
 refine uW k148 (cF rfl ?_)
 refine sK fun _ k164 => rL ?_
 by_cases hb165 : name = ([76, 80, 79, 83] : List UInt8)
 ·refine uG (.bool true) rfl (ex_seql rfl rfl rfl (qT hb165)) (uA rfl ?_)
  refine uW k164 (cT rfl ?_)
  refine sK fun _ k166 => ?_
  have hal9 := hc2 (.inr (.inr hb165))
  obtain ⟨x1, hx1⟩ : ∃ k, args[1]? = some k := ⟨_, List.getElem?_eq_getElem (show 1 < args.length by omega)⟩
  obtain ⟨ab, ao, had, hrdkey⟩ := text_reads hra hkey
  subst had
  have halkey : 0 < args.length := (List.getElem?_eq_some_iff.1 hkey).1
  obtain ⟨ab9, ao9, had9, hrdx1⟩ := text_reads hra hx1
  cases had9
  have halx1 : 1 < args.length := (List.getElem?_eq_some_iff.1 hx1).1
  have hd2 : (args.drop 2).length = args.length - 2 := List.length_drop
  obtain ⟨a4, c4, ha4, ok4, hr4⟩ := sliced_fromV 1 hoka hra (textCells_len args) (show 2 ≤ args.length by omega) (by decide)
  rw [Nat.mul_one, tx_drop] at hr4
  rw [← hd2] at ok4
  refine rW mixed [9, 10] [0,1,2,3,4,5,6,7,8,9,10] 146 rfl (by kernel_rfl) hv ?_
  simp only [qm, opAt]
  refine dL (.agg #[vP v, .slice (some ⟨ab, ao, none⟩) args.length ac]) rfl (fun hv => ex_load rfl rfl (lM 1 j1wd74 hv rfl rfl rfl rfl)) (dM (.slice (some ⟨ab, ao, none⟩) args.length ac) rfl ?_)
  refine dG (.pointer (some ⟨ab, ao + 0, none⟩)) rfl (ex_index rfl rfl rfl (run_idx1 (k := 0) Tryz.underlying22 s9es22 (by omega))) ?_
  simp only [zP, po]
  refine dL _ rfl (fun hv => ex_load rfl rfl (run_load1 s9na9 (hrdkey _ _ _ (Base.Le.refl _) no_res hv 0 _ rfl))) (dM (.slice (some ⟨ab, ao, none⟩) args.length ac) rfl ?_)
  refine dG (.pointer (some ⟨ab, ao + 1, none⟩)) rfl (ex_index rfl rfl rfl (run_idx1 (k := 1) Tryz.underlying22 s9es22 (by omega))) ?_
  simp only [zP, po]
  refine dL _ rfl (fun hv => ex_load rfl rfl (run_load1 s9na9 (hrdx1 _ _ _ (Base.Le.refl _) no_res hv 0 _ rfl))) (dM (.slice (some ⟨ab, ao, none⟩) args.length ac) rfl ?_)
  refine dG (.slice a4 ((args.drop 2).length) c4) rfl (ex_slice (lo' := some (vI ((2 : Nat) : Int))) rfl rfl (congrArg some rfl) rfl rfl ((run_fromAny Tryz.underlying22 s9es22 (by omega)).trans (by rw [ha4, hd2]))) ?_
  simp only [zP, po]
  refine dS rfl fun w167 hv => ?_
  replace hv := hv.front 3 rfl
  simp only [eS, eZ] at hv
  replace hv := hv.front 3 rfl
  simp only [eS, eZ] at hv
  refine mC jAcallable48 rfl ((clistFind B _ _ v t m s p wb va vc sv clk es M hM hO (some ⟨ab, ao, none⟩) args.length ac key x1 a4 c4 (args.drop 2) ok4 hr4 (by omega) (fun x hx => hxl x (List.mem_of_mem_drop hx)) hN hv).mono ?_) rfl
  rintro e w168 ⟨D, es', M', r, cs, hD, rfl, hrpl, hM', hrel, hv⟩
  have hcmd : CmdR M M' r := hrel
  obtain ⟨rk, rs, rn, rv, rfl⟩ := rp_parts hrpl
  refine ⟨_, rfl, dW hv ?_⟩
  refine dS rfl fun w169 hv => mS 2 rfl hv rssz28 rfl (by exact ⟨rfl, rfl, rfl, hrpl.lv.2, trivial⟩) (fun w170 hv => ?_)
  simp only [zS, zO, sp] at hv
  refine dW hv (dE fun w171 hv => ?_)
  simp only [zP, po]
  refine tK k166 (rR ?_)
  refine bZ (tR ?_)
  refine bC 2 rswd28 hv rfl rfl rfl rfl (⟨D, es', M', r, _, hD, rfl, hrpl, hM', hcmd, ⟨fun h9 => by rw [hb165] at h9; exact absurd h9 (by decide), fun h9 => by rw [hb165] at h9; exact absurd h9 (by decide), fun h9 => by rw [hb165] at h9; exact absurd h9 (by decide), fun h9 => by rw [hb165] at h9; exact absurd h9 (by decide), fun h9 => by rw [hb165] at h9; exact absurd h9 (by decide)⟩, (hv.kp [1, 1] 2 2)⟩)
 refine uG (.bool false) rfl (ex_seql rfl rfl rfl (qF hb165)) (uA rfl ?_)
 refine uW k164 (cF rfl ?_)
 refine sK fun _ k172 => sK fun _ k173 => rL ?_
 by_cases hb174 : name = ([76, 80, 85, 83, 72] : List UInt8)
 ·refine uG (.bool true) rfl (ex_seql rfl rfl rfl (qT hb174)) (uA rfl ?_)
  refine uW k173 (cT rfl ?_)
  refine kS (tK k172 ?_)
  refine cT rfl (sK fun _ k175 => ?_)
  obtain ⟨ab, ao, had, hrdkey⟩ := text_reads hra hkey
  subst had
  have halkey : 0 < args.length := (List.getElem?_eq_some_iff.1 hkey).1
  refine rW mixed [8, 9] [0,1,2,3,4,5,6,7,8,9] 146 rfl (by kernel_rfl) hv ?_
  simp only [qm, opAt]
  refine dL (.agg #[vP v, .slice (some ⟨ab, ao, none⟩) args.length ac]) rfl (fun hv => ex_load rfl rfl (lM 1 j1wd74 hv rfl rfl rfl rfl)) (dM (.slice (some ⟨ab, ao, none⟩) args.length ac) rfl ?_)
  refine dG (.pointer (some ⟨ab, ao + 0, none⟩)) rfl (ex_index rfl rfl rfl (run_idx1 (k := 0) Tryz.underlying22 s9es22 (by omega))) ?_
  simp only [zP, po]
  refine dL _ rfl (fun hv => ex_load rfl rfl (run_load1 s9na9 (hrdkey _ _ _ (Base.Le.refl _) no_res hv 0 _ rfl))) (dM (vS name) rfl ?_)
  refine dG (.bool true) rfl (ex_seql rfl rfl rfl (qT hb174)) ?_
  simp only [zP, po]
  refine dM (.slice (some ⟨ab, ao, none⟩) args.length ac) rfl (dG (.slice a3 ((args.drop 1).length) c3) rfl (ex_slice (lo' := some (vI ((1 : Nat) : Int))) rfl rfl (congrArg some rfl) rfl rfl ((run_fromAny Tryz.underlying22 s9es22 (by omega)).trans (by rw [ha3, hd1]))) ?_)
  refine dS rfl fun w176 hv => ?_
  replace hv := hv.front 3 rfl
  simp only [eS, eZ] at hv
  replace hv := hv.front 3 rfl
  simp only [eS, eZ] at hv
  refine mC jAcallable49 rfl ((clistPush B _ _ v t m s p wb va vc sv clk es M hM hO (some ⟨ab, ao, none⟩) args.length ac key true false a3 c3 (args.drop 1) ok3 hr3 (by omega) hv).mono ?_) rfl
  rintro e w177 ⟨D, es', M', r, cs, hD, rfl, hrpl, hM', ⟨hO', hrel⟩, hv⟩
  have hcmd : CmdR M M' r := hrel.cmd hO
  obtain ⟨rk, rs, rn, rv, rfl⟩ := rp_parts hrpl
  refine ⟨_, rfl, dW hv ?_⟩
  simp only [zP, po]
  refine dS rfl fun w178 hv => mS 2 rfl hv rssz28 rfl (by exact ⟨rfl, rfl, rfl, hrpl.lv.2, trivial⟩) (fun w179 hv => ?_)
  simp only [zS, zO, sp] at hv
  refine dW hv (dE fun w180 hv => ?_)
  simp only [zP, po]
  refine tK k175 (rR ?_)
  refine bZ (tR ?_)
  refine bC 2 rswd28 hv rfl rfl rfl rfl (⟨D, es', M', r, _, hD, rfl, hrpl, hM', hcmd, ⟨fun h9 => by rw [hb174] at h9; exact absurd h9 (by decide), fun h9 => by rw [hb174] at h9; exact absurd h9 (by decide), fun h9 => by rw [hb174] at h9; exact absurd h9 (by decide), fun h9 => by rw [hb174] at h9; exact absurd h9 (by decide), fun h9 => by rw [hb174] at h9; exact absurd h9 (by decide)⟩, (hv.kp [1, 1] 2 2)⟩)
 refine uG (.bool false) rfl (ex_seql rfl rfl rfl (qF hb174)) (uA rfl ?_)
 refine uW k173 (cF rfl ?_)
 refine rL ?_
 by_cases hb181 : name = ([82, 80, 85, 83, 72] : List UInt8)
 ·refine uG (.bool true) rfl (ex_seql rfl rfl rfl (qT hb181)) (uA rfl ?_)
  refine uW k172 (cT rfl ?_)
  refine sK fun _ k182 => ?_
  obtain ⟨ab, ao, had, hrdkey⟩ := text_reads hra hkey
  subst had
  have halkey : 0 < args.length := (List.getElem?_eq_some_iff.1 hkey).1
  refine rW mixed [8, 9] [0,1,2,3,4,5,6,7,8,9] 146 rfl (by kernel_rfl) hv ?_
  simp only [qm, opAt]
  refine dL (.agg #[vP v, .slice (some ⟨ab, ao, none⟩) args.length ac]) rfl (fun hv => ex_load rfl rfl (lM 1 j1wd74 hv rfl rfl rfl rfl)) (dM (.slice (some ⟨ab, ao, none⟩) args.length ac) rfl ?_)
  refine dG (.pointer (some ⟨ab, ao + 0, none⟩)) rfl (ex_index rfl rfl rfl (run_idx1 (k := 0) Tryz.underlying22 s9es22 (by omega))) ?_
  simp only [zP, po]
  refine dL _ rfl (fun hv => ex_load rfl rfl (run_load1 s9na9 (hrdkey _ _ _ (Base.Le.refl _) no_res hv 0 _ rfl))) (dM (vS name) rfl ?_)
  refine dG (.bool false) rfl (ex_seql rfl rfl rfl (qF hb174)) ?_
  simp only [zP, po]
  refine dM (.slice (some ⟨ab, ao, none⟩) args.length ac) rfl (dG (.slice a3 ((args.drop 1).length) c3) rfl (ex_slice (lo' := some (vI ((1 : Nat) : Int))) rfl rfl (congrArg some rfl) rfl rfl ((run_fromAny Tryz.underlying22 s9es22 (by omega)).trans (by rw [ha3, hd1]))) ?_)
  refine dS rfl fun w183 hv => ?_
  replace hv := hv.front 3 rfl
  simp only [eS, eZ] at hv
  replace hv := hv.front 3 rfl
  simp only [eS, eZ] at hv
  refine mC jAcallable49 rfl ((clistPush B _ _ v t m s p wb va vc sv clk es M hM hO (some ⟨ab, ao, none⟩) args.length ac key false false a3 c3 (args.drop 1) ok3 hr3 (by omega) hv).mono ?_) rfl
  rintro e w184 ⟨D, es', M', r, cs, hD, rfl, hrpl, hM', ⟨hO', hrel⟩, hv⟩
  have hcmd : CmdR M M' r := hrel.cmd hO
  obtain ⟨rk, rs, rn, rv, rfl⟩ := rp_parts hrpl
  refine ⟨_, rfl, dW hv ?_⟩
  simp only [zP, po]
  refine dS rfl fun w185 hv => mS 2 rfl hv rssz28 rfl (by exact ⟨rfl, rfl, rfl, hrpl.lv.2, trivial⟩) (fun w186 hv => ?_)
  simp only [zS, zO, sp] at hv
  refine dW hv (dE fun w187 hv => ?_)
  simp only [zP, po]
  refine tK k182 (rR ?_)
  refine bZ (tR ?_)
  refine bC 2 rswd28 hv rfl rfl rfl rfl (⟨D, es', M', r, _, hD, rfl, hrpl, hM', hcmd, ⟨fun _ => ⟨key, hkey, hrel⟩, fun h9 => by rw [hb181] at h9; exact absurd h9 (by decide), fun h9 => by rw [hb181] at h9; exact absurd h9 (by decide), fun h9 => by rw [hb181] at h9; exact absurd h9 (by decide), fun h9 => by rw [hb181] at h9; exact absurd h9 (by decide)⟩, (hv.kp [1, 1] 2 2)⟩)
 refine uG (.bool false) rfl (ex_seql rfl rfl rfl (qF hb181)) (uA rfl ?_)
 refine uW k172 (cF rfl ?_)
 refine sK fun _ k188 => sK fun _ k189 => rL ?_
 by_cases hb190 : name = ([76, 80, 85, 83, 72, 88] : List UInt8)
 ·refine uG (.bool true) rfl (ex_seql rfl rfl rfl (qT hb190)) (uA rfl ?_)
  refine uW k189 (cT rfl ?_)
  refine kS (tK k188 ?_)
  refine cT rfl (sK fun _ k191 => ?_)
  obtain ⟨ab, ao, had, hrdkey⟩ := text_reads hra hkey
  subst had
  have halkey : 0 < args.length := (List.getElem?_eq_some_iff.1 hkey).1
  refine rW mixed [8, 9] [0,1,2,3,4,5,6,7,8,9] 146 rfl (by kernel_rfl) hv ?_
  simp only [qm, opAt]
  refine dL (.agg #[vP v, .slice (some ⟨ab, ao, none⟩) args.length ac]) rfl (fun hv => ex_load rfl rfl (lM 1 j1wd74 hv rfl rfl rfl rfl)) (dM (.slice (some ⟨ab, ao, none⟩) args.length ac) rfl ?_)
  refine dG (.pointer (some ⟨ab, ao + 0, none⟩)) rfl (ex_index rfl rfl rfl (run_idx1 (k := 0) Tryz.underlying22 s9es22 (by omega))) ?_
  simp only [zP, po]
  refine dL _ rfl (fun hv => ex_load rfl rfl (run_load1 s9na9 (hrdkey _ _ _ (Base.Le.refl _) no_res hv 0 _ rfl))) (dM (vS name) rfl ?_)
  refine dG (.bool true) rfl (ex_seql rfl rfl rfl (qT hb190)) ?_
  simp only [zP, po]
  refine dM (.slice (some ⟨ab, ao, none⟩) args.length ac) rfl (dG (.slice a3 ((args.drop 1).length) c3) rfl (ex_slice (lo' := some (vI ((1 : Nat) : Int))) rfl rfl (congrArg some rfl) rfl rfl ((run_fromAny Tryz.underlying22 s9es22 (by omega)).trans (by rw [ha3, hd1]))) ?_)
  refine dS rfl fun w192 hv => ?_
  replace hv := hv.front 3 rfl
  simp only [eS, eZ] at hv
  replace hv := hv.front 3 rfl
  simp only [eS, eZ] at hv
  refine mC jAcallable49 rfl ((clistPush B _ _ v t m s p wb va vc sv clk es M hM hO (some ⟨ab, ao, none⟩) args.length ac key true true a3 c3 (args.drop 1) ok3 hr3 (by omega) hv).mono ?_) rfl
  rintro e w193 ⟨D, es', M', r, cs, hD, rfl, hrpl, hM', ⟨hO', hrel⟩, hv⟩
  have hcmd : CmdR M M' r := hrel.cmd hO
  obtain ⟨rk, rs, rn, rv, rfl⟩ := rp_parts hrpl
  refine ⟨_, rfl, dW hv ?_⟩
  simp only [zP, po]
  refine dS rfl fun w194 hv => mS 2 rfl hv rssz28 rfl (by exact ⟨rfl, rfl, rfl, hrpl.lv.2, trivial⟩) (fun w195 hv => ?_)
  simp only [zS, zO, sp] at hv
  refine dW hv (dE fun w196 hv => ?_)
  simp only [zP, po]
  refine tK k191 (rR ?_)
  refine bZ (tR ?_)
  refine bC 2 rswd28 hv rfl rfl rfl rfl (⟨D, es', M', r, _, hD, rfl, hrpl, hM', hcmd, ⟨fun h9 => by rw [hb190] at h9; exact absurd h9 (by decide), fun h9 => by rw [hb190] at h9; exact absurd h9 (by decide), fun h9 => by rw [hb190] at h9; exact absurd h9 (by decide), fun h9 => by rw [hb190] at h9; exact absurd h9 (by decide), fun h9 => by rw [hb190] at h9; exact absurd h9 (by decide)⟩, (hv.kp [1, 1] 2 2)⟩)
 refine uG (.bool false) rfl (ex_seql rfl rfl rfl (qF hb190)) (uA rfl ?_)
 refine uW k189 (cF rfl ?_)
 refine rL ?_
 by_cases hb197 : name = ([82, 80, 85, 83, 72, 88] : List UInt8)
 ·refine uG (.bool true) rfl (ex_seql rfl rfl rfl (qT hb197)) (uA rfl ?_)
  refine uW k188 (cT rfl ?_)
  refine sK fun _ k198 => ?_
  obtain ⟨ab, ao, had, hrdkey⟩ := text_reads hra hkey
  subst had
  have halkey : 0 < args.length := (List.getElem?_eq_some_iff.1 hkey).1
  refine rW mixed [8, 9] [0,1,2,3,4,5,6,7,8,9] 146 rfl (by kernel_rfl) hv ?_
  simp only [qm, opAt]
  refine dL (.agg #[vP v, .slice (some ⟨ab, ao, none⟩) args.length ac]) rfl (fun hv => ex_load rfl rfl (lM 1 j1wd74 hv rfl rfl rfl rfl)) (dM (.slice (some ⟨ab, ao, none⟩) args.length ac) rfl ?_)
  refine dG (.pointer (some ⟨ab, ao + 0, none⟩)) rfl (ex_index rfl rfl rfl (run_idx1 (k := 0) Tryz.underlying22 s9es22 (by omega))) ?_
  simp only [zP, po]
  refine dL _ rfl (fun hv => ex_load rfl rfl (run_load1 s9na9 (hrdkey _ _ _ (Base.Le.refl _) no_res hv 0 _ rfl))) (dM (vS name) rfl ?_)
  refine dG (.bool false) rfl (ex_seql rfl rfl rfl (qF hb190)) ?_
  simp only [zP, po]
  refine dM (.slice (some ⟨ab, ao, none⟩) args.length ac) rfl (dG (.slice a3 ((args.drop 1).length) c3) rfl (ex_slice (lo' := some (vI ((1 : Nat) : Int))) rfl rfl (congrArg some rfl) rfl rfl ((run_fromAny Tryz.underlying22 s9es22 (by omega)).trans (by rw [ha3, hd1]))) ?_)
  refine dS rfl fun w199 hv => ?_
  replace hv := hv.front 3 rfl
  simp only [eS, eZ] at hv
  replace hv := hv.front 3 rfl
  simp only [eS, eZ] at hv
  refine mC jAcallable49 rfl ((clistPush B _ _ v t m s p wb va vc sv clk es M hM hO (some ⟨ab, ao, none⟩) args.length ac key false true a3 c3 (args.drop 1) ok3 hr3 (by omega) hv).mono ?_) rfl
  rintro e w200 ⟨D, es', M', r, cs, hD, rfl, hrpl, hM', ⟨hO', hrel⟩, hv⟩
  have hcmd : CmdR M M' r := hrel.cmd hO
  obtain ⟨rk, rs, rn, rv, rfl⟩ := rp_parts hrpl
  refine ⟨_, rfl, dW hv ?_⟩
  simp only [zP, po]
  refine dS rfl fun w201 hv => mS 2 rfl hv rssz28 rfl (by exact ⟨rfl, rfl, rfl, hrpl.lv.2, trivial⟩) (fun w202 hv => ?_)
  simp only [zS, zO, sp] at hv
  refine dW hv (dE fun w203 hv => ?_)
  simp only [zP, po]
  refine tK k198 (rR ?_)
  refine bZ (tR ?_)
  refine bC 2 rswd28 hv rfl rfl rfl rfl (⟨D, es', M', r, _, hD, rfl, hrpl, hM', hcmd, ⟨fun h9 => by rw [hb197] at h9; exact absurd h9 (by decide), fun h9 => by rw [hb197] at h9; exact absurd h9 (by decide), fun h9 => by rw [hb197] at h9; exact absurd h9 (by decide), fun h9 => by rw [hb197] at h9; exact absurd h9 (by decide), fun h9 => by rw [hb197] at h9; exact absurd h9 (by decide)⟩, (hv.kp [1, 1] 2 2)⟩)
 refine uG (.bool false) rfl (ex_seql rfl rfl rfl (qF hb197)) (uA rfl ?_)
 refine uW k188 (cF rfl ?_)
 refine sK fun _ k204 => rL ?_
 by_cases hb205 : name = ([76, 82, 69, 77] : List UInt8)
 ·refine uG (.bool true) rfl (ex_seql rfl rfl rfl (qT hb205)) (uA rfl ?_)
  refine uW k204 (cT rfl ?_)
  refine sK fun _ k206 => ?_
  have hal9 := hc3 (.inl hb205)
  obtain ⟨x1, hx1⟩ : ∃ k, args[1]? = some k := ⟨_, List.getElem?_eq_getElem (show 1 < args.length by omega)⟩
  obtain ⟨x2, hx2⟩ : ∃ k, args[2]? = some k := ⟨_, List.getElem?_eq_getElem (show 2 < args.length by omega)⟩
  refine rL (uL (.agg #[vP v, .slice aa args.length ac]) rfl (lM 1 j1wd74 hv rfl rfl rfl rfl) ?_)
  replace hv := hv.front 3 rfl
  simp only [eS, eZ] at hv
  replace hv := hv.front 3 rfl
  simp only [eS, eZ] at hv
  refine xC jAcallable50 rfl ((clistRemove B _ _ v t m s p wb va vc sv clk es M hM hO aa ac args hra hoka (by omega) key hkey x1 hx1 x2 hx2 hN hv).mono ?_) rfl
  rintro e w207 ⟨D, es', M', r, cs, hD, rfl, hrpl, hM', hrel, hv⟩
  refine ⟨_, rfl, ?_⟩
  have hcmd : CmdR M M' r := hrel
  obtain ⟨rk, rs, rn, rv, rfl⟩ := rp_parts hrpl
  simp only [zP, po]
  refine xS 2 rfl hv rssz28 rfl (by exact ⟨rfl, rfl, rfl, hrpl.lv.2, trivial⟩) (fun w208 hv => ?_)
  simp only [zS, zO, sp] at hv
  refine uW k206 (rR ?_)
  refine bZ (tR ?_)
  refine bC 2 rswd28 hv rfl rfl rfl rfl (⟨D, es', M', r, _, hD, rfl, hrpl, hM', hcmd, ⟨fun h9 => by rw [hb205] at h9; exact absurd h9 (by decide), fun h9 => by rw [hb205] at h9; exact absurd h9 (by decide), fun h9 => by rw [hb205] at h9; exact absurd h9 (by decide), fun h9 => by rw [hb205] at h9; exact absurd h9 (by decide), fun h9 => by rw [hb205] at h9; exact absurd h9 (by decide)⟩, (hv.kp [1, 1] 2 2)⟩)
 refine uG (.bool false) rfl (ex_seql rfl rfl rfl (qF hb205)) (uA rfl ?_)
 refine uW k204 (cF rfl ?_)
 refine sK fun _ k209 => rL ?_
 by_cases hb210 : name = ([76, 83, 69, 84] : List UInt8)
 ·refine uG (.bool true) rfl (ex_seql rfl rfl rfl (qT hb210)) (uA rfl ?_)
  refine uW k209 (cT rfl ?_)
  refine sK fun _ k211 => ?_
  have hal9 := hc3 (.inr hb210)
  obtain ⟨x1, hx1⟩ : ∃ k, args[1]? = some k := ⟨_, List.getElem?_eq_getElem (show 1 < args.length by omega)⟩
  obtain ⟨x2, hx2⟩ : ∃ k, args[2]? = some k := ⟨_, List.getElem?_eq_getElem (show 2 < args.length by omega)⟩
  refine rL (uL (.agg #[vP v, .slice aa args.length ac]) rfl (lM 1 j1wd74 hv rfl rfl rfl rfl) ?_)
  replace hv := hv.front 3 rfl
  simp only [eS, eZ] at hv
  replace hv := hv.front 3 rfl
  simp only [eS, eZ] at hv
  refine xC jAcallable51 rfl ((clistSet B _ _ v t m s p wb va vc sv clk es M hM hO aa ac args hra hoka (by omega) key hkey x1 hx1 x2 hx2 hN hv).mono ?_) rfl
  rintro e w212 ⟨D, es', M', r, cs, hD, rfl, hrpl, hM', hrel, hv⟩
  refine ⟨_, rfl, ?_⟩
  have hcmd : CmdR M M' r := hrel
  obtain ⟨rk, rs, rn, rv, rfl⟩ := rp_parts hrpl
  simp only [zP, po]
  refine xS 2 rfl hv rssz28 rfl (by exact ⟨rfl, rfl, rfl, hrpl.lv.2, trivial⟩) (fun w213 hv => ?_)
  simp only [zS, zO, sp] at hv
  refine uW k211 (rR ?_)
  refine bZ (tR ?_)
  refine bC 2 rswd28 hv rfl rfl rfl rfl (⟨D, es', M', r, _, hD, rfl, hrpl, hM', hcmd, ⟨fun h9 => by rw [hb210] at h9; exact absurd h9 (by decide), fun h9 => by rw [hb210] at h9; exact absurd h9 (by decide), fun h9 => by rw [hb210] at h9; exact absurd h9 (by decide), fun h9 => by rw [hb210] at h9; exact absurd h9 (by decide), fun h9 => by rw [hb210] at h9; exact absurd h9 (by decide)⟩, (hv.kp [1, 1] 2 2)⟩)
 refine uG (.bool false) rfl (ex_seql rfl rfl rfl (qF hb210)) (uA rfl ?_)
 refine uW k209 (cF rfl ?_)
 refine kS (bN ?_)
 refine tK k7 (sK fun _ k214 => ?_)
 have hal3 : args.length = 3 := hdef fun x hx => by
  simp only [List.mem_cons, List.not_mem_nil, or_false] at hx
  rcases hx with rfl | rfl | rfl | rfl | rfl | rfl | rfl | rfl | rfl | rfl | rfl | rfl | rfl | rfl | rfl
  ·exact hb10
  ·exact hb15
  ·exact hb20
  ·exact hb46
  ·exact hb133
  ·exact hb141
  ·exact hb150
  ·exact hb157
  ·exact hb165
  ·exact hb174
  ·exact hb181
  ·exact hb190
  ·exact hb197
  ·exact hb205
  exact hb210
 refine rL (uL (.agg #[vP v, .slice aa args.length ac]) rfl (lM 1 j1wd74 hv rfl rfl rfl rfl) ?_)
 refine uM rfl ?_
 by_cases hb215 : name = ([76, 84, 82, 73, 77] : List UInt8)
 ·refine uG (.bool true) rfl (ex_seql rfl rfl rfl (qT hb215)) ?_
  replace hv := hv.front 3 rfl
  simp only [eS, eZ] at hv
  replace hv := hv.front 3 rfl
  simp only [eS, eZ] at hv
  refine xC jAcallable52 rfl ((clistTrim B _ _ v t m s p wb va vc sv clk es M hM hO aa ac args hra hoka (by omega) key hkey hal3 hN hv).mono ?_) rfl
  rintro e w216 ⟨D, es', M', r, cs, hD, rfl, hrpl, hM', hrel, hv⟩
  refine ⟨_, rfl, ?_⟩
  have hcmd : CmdR M M' r := hrel
  obtain ⟨rk, rs, rn, rv, rfl⟩ := rp_parts hrpl
  simp only [zP, po]
  refine xS 2 rfl hv rssz28 rfl (by exact ⟨rfl, rfl, rfl, hrpl.lv.2, trivial⟩) (fun w217 hv => ?_)
  simp only [zS, zO, sp] at hv
  refine uW k214 (rR ?_)
  refine bC 2 rswd28 hv rfl rfl rfl rfl (⟨D, es', M', r, _, hD, rfl, hrpl, hM', hcmd, ⟨fun h9 => by rw [hb215] at h9; exact absurd h9 (by decide), fun h9 => by rw [hb215] at h9; exact absurd h9 (by decide), fun h9 => by rw [hb215] at h9; exact absurd h9 (by decide), fun h9 => by rw [hb215] at h9; exact absurd h9 (by decide), fun h9 => by rw [hb215] at h9; exact absurd h9 (by decide)⟩, (hv.kp [1, 1] 2 2)⟩)
 refine uG (.bool false) rfl (ex_seql rfl rfl rfl (qF hb215)) ?_
 replace hv := hv.front 3 rfl
 simp only [eS, eZ] at hv
 replace hv := hv.front 3 rfl
 simp only [eS, eZ] at hv
 refine xC jAcallable52 rfl ((clistRange B _ _ v t m s p wb va vc sv clk es M hM hO aa ac args hra hoka (by omega) key hkey hal3 hN hv).mono ?_) rfl
 rintro e w218 ⟨D, es', M', r, cs, hD, rfl, hrpl, hM', ⟨hO', hrel⟩, hv⟩
 refine ⟨_, rfl, ?_⟩
 have hcmd : CmdR M M' r := ⟨hO', fun _ => hrel.1⟩
 obtain ⟨rk, rs, rn, rv, rfl⟩ := rp_parts hrpl
 simp only [zP, po]
 refine xS 2 rfl hv rssz28 rfl (by exact ⟨rfl, rfl, rfl, hrpl.lv.2, trivial⟩) (fun w219 hv => ?_)
 simp only [zS, zO, sp] at hv
 refine uW k214 (rR ?_)
 refine bC 2 rswd28 hv rfl rfl rfl rfl (⟨D, es', M', r, _, hD, rfl, hrpl, hM', hcmd, ⟨fun h9 => absurd h9 hb181, fun h9 => absurd h9 hb46, fun h9 => absurd h9 hb133, fun _ => ⟨key, hkey, hrel⟩, fun h9 => absurd h9 hb150⟩, (hv.kp [1, 1] 2 2)⟩)
abbrev GRow := List UInt8 × Int × Int
def gRows : List GRow := [([76, 73, 78, 68, 69, 88], 2, 2), ([76, 73, 78, 83, 69, 82, 84], 4, 4), ([76, 76, 69, 78], 1, 1), ([76, 77, 79, 86, 69], 4, 4), ([76, 77, 80, 79, 80], 3, (-1)), ([76, 80, 79, 80], 1, 2), ([76, 80, 79, 83], 2, (-1)), ([76, 80, 85, 83, 72], 2, (-1)), ([76, 80, 85, 83, 72, 88], 2, (-1)), ([76, 82, 65, 78, 71, 69], 3, 3), ([76, 82, 69, 77], 3, 3), ([76, 83, 69, 84], 3, 3), ([76, 84, 82, 73, 77], 3, 3), ([82, 80, 79, 80], 1, 2), ([82, 80, 79, 80, 76, 80, 85, 83, 72], 2, 2), ([82, 80, 85, 83, 72], 2, (-1)), ([82, 80, 85, 83, 72, 88], 2, (-1))]
def gNames : List (List UInt8) := gRows.map (·.1)
abbrev gRowF (x : GRow) : List Value := [strV x.1, vI x.2.1, vI x.2.2]
theorem gRow_reads {B : Base} {l : List GRow} {ad : Option Addr} {i : Nat} {x : GRow} (hr : RdV B [] ad (l.flatMap gRowF)) (hx : l[i]? = some x) : ∃ b off, ad = some ⟨b, off, none⟩ ∧ Reads B [] b (off + i * 3) (gRowF x) := rowk_reads (k := 3) (fun _ => rfl) (by decide) hr hx
theorem gRows_len : gRows.length = 17 := rfl
theorem gNames_len : gNames.length = 17 := rfl
theorem gRows_inj : ∀ x ∈ gRows, ∀ y ∈ gRows, x.1 = y.1 → x = y := by decide
theorem gRowsC (B : Base) (H : List Res) (w : World) (hv : Inv B H w) :
  Calls Tryz.prog 26 #[] w fun e w' => ∃ C ra rc, B.Le C ∧ e = .returned (.slice ra gRows.length rc) ∧ RdV C [] ra (gRows.flatMap gRowF) ∧ Inv C H w' := by
 refine cW Tryz.func26 rfl Tryz.ntmps26 ?_
 simp only [al]
 refine sK fun _ k1 => rL (uA rfl ?_)
 refine uW k1 (sK fun _ k2 => ?_)
 refine rL (uG (.agg #[vS [76, 73, 78, 68, 69, 88], vI 2, vI 2]) rfl (ex_buildN (vs := #[(0, vS [76, 73, 78, 68, 69, 88]), (1, vI 2), (2, vI 2)]) rfl (by simp only [List.map_toArray, List.map_cons, List.map_nil]; rfl) (by kernel_rfl)) ?_)
 refine uG (.agg #[vS [76, 73, 78, 83, 69, 82, 84], vI 4, vI 4]) rfl (ex_buildN (vs := #[(0, vS [76, 73, 78, 83, 69, 82, 84]), (1, vI 4), (2, vI 4)]) rfl (by simp only [List.map_toArray, List.map_cons, List.map_nil]; rfl) (by kernel_rfl)) ?_
 refine uG (.agg #[vS [76, 76, 69, 78], vI 1, vI 1]) rfl (ex_buildN (vs := #[(0, vS [76, 76, 69, 78]), (1, vI 1), (2, vI 1)]) rfl (by simp only [List.map_toArray, List.map_cons, List.map_nil]; rfl) (by kernel_rfl)) ?_
 refine uG (.agg #[vS [76, 77, 79, 86, 69], vI 4, vI 4]) rfl (ex_buildN (vs := #[(0, vS [76, 77, 79, 86, 69]), (1, vI 4), (2, vI 4)]) rfl (by simp only [List.map_toArray, List.map_cons, List.map_nil]; rfl) (by kernel_rfl)) ?_
 refine uG (.agg #[vS [76, 77, 80, 79, 80], vI 3, vI (-1)]) rfl (ex_buildN (vs := #[(0, vS [76, 77, 80, 79, 80]), (1, vI 3), (2, vI (-1))]) rfl (by simp only [List.map_toArray, List.map_cons, List.map_nil]; rfl) (by kernel_rfl)) ?_
 refine uG (.agg #[vS [76, 80, 79, 80], vI 1, vI 2]) rfl (ex_buildN (vs := #[(0, vS [76, 80, 79, 80]), (1, vI 1), (2, vI 2)]) rfl (by simp only [List.map_toArray, List.map_cons, List.map_nil]; rfl) (by kernel_rfl)) ?_
 refine uG (.agg #[vS [76, 80, 79, 83], vI 2, vI (-1)]) rfl (ex_buildN (vs := #[(0, vS [76, 80, 79, 83]), (1, vI 2), (2, vI (-1))]) rfl (by simp only [List.map_toArray, List.map_cons, List.map_nil]; rfl) (by kernel_rfl)) ?_
 refine uG (.agg #[vS [76, 80, 85, 83, 72], vI 2, vI (-1)]) rfl (ex_buildN (vs := #[(0, vS [76, 80, 85, 83, 72]), (1, vI 2), (2, vI (-1))]) rfl (by simp only [List.map_toArray, List.map_cons, List.map_nil]; rfl) (by kernel_rfl)) ?_
 refine uG (.agg #[vS [76, 80, 85, 83, 72, 88], vI 2, vI (-1)]) rfl (ex_buildN (vs := #[(0, vS [76, 80, 85, 83, 72, 88]), (1, vI 2), (2, vI (-1))]) rfl (by simp only [List.map_toArray, List.map_cons, List.map_nil]; rfl) (by kernel_rfl)) ?_
 refine uG (.agg #[vS [76, 82, 65, 78, 71, 69], vI 3, vI 3]) rfl (ex_buildN (vs := #[(0, vS [76, 82, 65, 78, 71, 69]), (1, vI 3), (2, vI 3)]) rfl (by simp only [List.map_toArray, List.map_cons, List.map_nil]; rfl) (by kernel_rfl)) ?_
 refine uG (.agg #[vS [76, 82, 69, 77], vI 3, vI 3]) rfl (ex_buildN (vs := #[(0, vS [76, 82, 69, 77]), (1, vI 3), (2, vI 3)]) rfl (by simp only [List.map_toArray, List.map_cons, List.map_nil]; rfl) (by kernel_rfl)) ?_
 refine uG (.agg #[vS [76, 83, 69, 84], vI 3, vI 3]) rfl (ex_buildN (vs := #[(0, vS [76, 83, 69, 84]), (1, vI 3), (2, vI 3)]) rfl (by simp only [List.map_toArray, List.map_cons, List.map_nil]; rfl) (by kernel_rfl)) ?_
 refine uG (.agg #[vS [76, 84, 82, 73, 77], vI 3, vI 3]) rfl (ex_buildN (vs := #[(0, vS [76, 84, 82, 73, 77]), (1, vI 3), (2, vI 3)]) rfl (by simp only [List.map_toArray, List.map_cons, List.map_nil]; rfl) (by kernel_rfl)) ?_
 refine uG (.agg #[vS [82, 80, 79, 80], vI 1, vI 2]) rfl (ex_buildN (vs := #[(0, vS [82, 80, 79, 80]), (1, vI 1), (2, vI 2)]) rfl (by simp only [List.map_toArray, List.map_cons, List.map_nil]; rfl) (by kernel_rfl)) ?_
 refine uG (.agg #[vS [82, 80, 79, 80, 76, 80, 85, 83, 72], vI 2, vI 2]) rfl (ex_buildN (vs := #[(0, vS [82, 80, 79, 80, 76, 80, 85, 83, 72]), (1, vI 2), (2, vI 2)]) rfl (by simp only [List.map_toArray, List.map_cons, List.map_nil]; rfl) (by kernel_rfl)) ?_
 refine uG (.agg #[vS [82, 80, 85, 83, 72], vI 2, vI (-1)]) rfl (ex_buildN (vs := #[(0, vS [82, 80, 85, 83, 72]), (1, vI 2), (2, vI (-1))]) rfl (by simp only [List.map_toArray, List.map_cons, List.map_nil]; rfl) (by kernel_rfl)) ?_
 refine uG (.agg #[vS [82, 80, 85, 83, 72, 88], vI 2, vI (-1)]) rfl (ex_buildN (vs := #[(0, vS [82, 80, 85, 83, 72, 88]), (1, vI 2), (2, vI (-1))]) rfl (by simp only [List.map_toArray, List.map_cons, List.map_nil]; rfl) (by kernel_rfl)) ?_
 refine sl_rowN (pv := #[(0, .agg #[vS [76, 73, 78, 68, 69, 88], vI 2, vI 2]), (1, .agg #[vS [76, 73, 78, 83, 69, 82, 84], vI 4, vI 4]), (2, .agg #[vS [76, 76, 69, 78], vI 1, vI 1]), (3, .agg #[vS [76, 77, 79, 86, 69], vI 4, vI 4]), (4, .agg #[vS [76, 77, 80, 79, 80], vI 3, vI (-1)]), (5, .agg #[vS [76, 80, 79, 80], vI 1, vI 2]), (6, .agg #[vS [76, 80, 79, 83], vI 2, vI (-1)]), (7, .agg #[vS [76, 80, 85, 83, 72], vI 2, vI (-1)]), (8, .agg #[vS [76, 80, 85, 83, 72, 88], vI 2, vI (-1)]), (9, .agg #[vS [76, 82, 65, 78, 71, 69], vI 3, vI 3]), (10, .agg #[vS [76, 82, 69, 77], vI 3, vI 3]), (11, .agg #[vS [76, 83, 69, 84], vI 3, vI 3]), (12, .agg #[vS [76, 84, 82, 73, 77], vI 3, vI 3]), (13, .agg #[vS [82, 80, 79, 80], vI 1, vI 2]), (14, .agg #[vS [82, 80, 79, 80, 76, 80, 85, 83, 72], vI 2, vI 2]), (15, .agg #[vS [82, 80, 85, 83, 72], vI 2, vI (-1)]), (16, .agg #[vS [82, 80, 85, 83, 72, 88], vI 2, vI (-1)])]) (L := [vS [76, 73, 78, 68, 69, 88], vI 2, vI 2, vS [76, 73, 78, 83, 69, 82, 84], vI 4, vI 4, vS [76, 76, 69, 78], vI 1, vI 1, vS [76, 77, 79, 86, 69], vI 4, vI 4, vS [76, 77, 80, 79, 80], vI 3, vI (-1), vS [76, 80, 79, 80], vI 1, vI 2, vS [76, 80, 79, 83], vI 2, vI (-1), vS [76, 80, 85, 83, 72], vI 2, vI (-1), vS [76, 80, 85, 83, 72, 88], vI 2, vI (-1), vS [76, 82, 65, 78, 71, 69], vI 3, vI 3, vS [76, 82, 69, 77], vI 3, vI 3, vS [76, 83, 69, 84], vI 3, vI 3, vS [76, 84, 82, 73, 77], vI 3, vI 3, vS [82, 80, 79, 80], vI 1, vI 2, vS [82, 80, 79, 80, 76, 80, 85, 83, 72], vI 2, vI 2, vS [82, 80, 85, 83, 72], vI 2, vI (-1), vS [82, 80, 85, 83, 72, 88], vI 2, vI (-1)]) (e := 72) tV (wn rfl) rfl (by simp only [List.map_toArray, List.map_cons, List.map_nil]; rfl) hv (fun w => by kernel_rfl) (fun b3 w4 hv => ?_)
 refine uA rfl (uW k2 ?_)
 refine rR (bR rfl rfl ?_)
 obtain ⟨C, hC, hv, hr, -, -⟩ := (hv.cellRow (n := 17) (c := 17) (size := 3) rfl (by decide) (by decide)).rowBy
 exact ⟨C, _, _, hC, rfl, hr, hv⟩
theorem jBcallable26 : Callable Tryz.prog 26 := cb Tryz.func26 (by kernel_rfl)
theorem jBmk9 : (Tryz.prog.info? 9).map (fun i => (i.zero, i.size, i.bytes)) = some (some (vS []), 1, 16) := by kernel_rfl
theorem jBel22 : Elem Tryz.prog 22 9 (vS []) 1 16 := elem_of Tryz.underlying22 jBmk9 (by rfl) (by decide)
theorem jBes69 (w : World) : (sizeOf (Tryz.prog.elem 69)).run Tryz.prog w = .ok 3 w := by kernel_rfl
theorem jBwd72 : Wide Tryz.prog 72 3 := wide_of (fun w => by kernel_rfl) (by kernel_rfl)
theorem jBal72 : AL Tryz.prog 72 [vS [], vI 0, vI 0] := fun w => by kernel_rfl
theorem jBsz72 : (Tryz.prog.info? 72).map (·.size) = some 3 := by kernel_rfl
theorem jBfa72_0 : FA Tryz.prog 72 0 0 := fun w b o => by kernel_rfl
theorem gNamesC (B : Base) (H : List Res) (w : World) (hv : Inv B H w) :
  Calls Tryz.prog 14 #[] w fun e w' => ∃ C na nc, B.Le C ∧ e = .returned (.slice na gNames.length nc) ∧ RdV C [] na (textCells gNames) ∧ SliceOk na gNames.length nc ∧ Inv C H w' := by
 refine cW Tryz.func14 rfl Tryz.ntmps14 ?_
 simp only [al]
 refine sK fun _ k1 => rL (uA rfl ?_)
 refine uW k1 (sK fun _ k2 => ?_)
 refine rL (xC jBcallable26 rfl ((gRowsC B _ _ hv).mono ?_) rfl)
 rintro e w3 ⟨C, ra, rc, hC, rfl, hrr, hv⟩
 refine ⟨_, rfl, uA rfl ?_⟩
 refine uW k2 (sK fun _ k4 => ?_)
 have hrl := gRows_len
 refine rL (uM rfl ?_)
 refine uG (vI (gRows.length : Int)) rfl (ex_len0 Tryz.underlying69 rfl rfl) ?_
 refine sl_makeRow (cap := gRows.length) tV (wn rfl) rfl rfl rfl jBel22 (by unfold maxLen; omega) (by omega) hv (fun b5 w6 hv => ?_)
 refine uA rfl (uW k4 ?_)
 refine sK fun _ k7 => sK fun _ k8 => rL (uM rfl ?_)
 refine uG (vI (gRows.length : Int)) rfl (ex_len0 Tryz.underlying69 rfl rfl) (uM rfl ?_)
 refine uW k8 (bB ?_)
 gi_loopw [2, 11] (fun x2 x11 wr => ∃ (i : Nat) (na : Option Addr) (nc : Nat), x2 = .slice na i nc ∧ x11 = vI i ∧ i ≤ gRows.length ∧ Inv C (Res.row 9 1 (.slice na i nc) i (textCells (gNames.take i)) :: H) wr) (fun x2 x11 _ => gRows.length - (intOf x11).toNat)
 case atStart => exact ⟨0, _, _, rfl, rfl, Nat.zero_le _, hv⟩
 case round =>
  obtain ⟨i, na, nc, rfl, rfl, hi, hv⟩ := hrel
  refine sK fun _ k10 => rL ?_
  by_cases hb11 : (i : Int) < (gRows.length : Int)
  ·refine uG (.bool true) rfl (ex_lss rfl rfl rfl (qT hb11)) (uW k10 ?_)
   refine sK fun _ k12 => cT rfl (kS ?_)
   refine tK k12 (sK fun _ k13 => ?_)
   refine bB (sK fun _ k14 => ?_)
   have hrl := gRows_len
   obtain ⟨x, hx⟩ : ∃ x, gRows[i]? = some x := ⟨_, List.getElem?_eq_getElem (show i < gRows.length by omega)⟩
   have hxm := List.mem_of_getElem? hx
   obtain ⟨rb, ro, had, hrdx⟩ := gRow_reads hrr hx
   subst had
   refine rL (uG (.pointer (some ⟨rb, ro + i * 3, none⟩)) rfl (ex_index rfl rfl rfl (run_idx (k := i) Tryz.underlying69 jBes69 (by omega))) ?_)
   refine uL (.agg #[vS x.1, vI x.2.1, vI x.2.2]) rfl (run_loadR (cs := [vS x.1, vI x.2.1, vI x.2.2]) jBwd72 (Reads.mid (pre := []) (mid := [vS x.1, vI x.2.1, vI x.2.2]) (post := []) hrdx _ _ _ (Base.Le.refl _) no_res hv)) ?_
   refine sl_alloc tV (wn rfl) rfl hv jBal72 (fun b15 w16 hv => ?_)
   simp only [zP, po]
   refine xS 0 rfl hv jBsz72 rfl (by exact ⟨rfl, rfl, rfl, trivial⟩) (fun w17 hv => ?_)
   simp only [zO, sp] at hv
   refine uW k14 (rL ?_)
   refine uM rfl ?_
   refine uF (vP b15) rfl (jBfa72_0 _ _ _) ?_
   refine uL _ rfl (run_load1 s9na9 (hv.load 0 0 rfl rfl)) ?_
   refine sl_rowOne (v := vS x.1) tV (wn rfl) rfl rfl hv jBel22 rfl (fun b18 w19 hv => ?_)
   replace hv := hv.front 2 rfl
   simp only [eS, eZ] at hv
   refine sl_append (news := [vS x.1]) tV (wn rfl) rfl rfl rfl jBel22 hv (ok_full (by omega)) rfl (rd_all (hv.get 1 rfl)) (by intro u hu; simp only [List.mem_cons, List.not_mem_nil, or_false] at hu; rcases hu with rfl <;> rfl) (by unfold maxLen; omega) (by omega) (fun rv20 w23 hv => ?_)
   obtain ⟨ra21, rc22, rfl⟩ := row_slice hv.head
   refine uA rfl (uZ ?_)
   refine bN (tK k13 ?_)
   refine rL (uG (vI ((i + 1 : Nat) : Int)) rfl (ex_add rfl rfl rfl (by rw [i64_in (by omega)]; omega)) ?_)
   refine uM rfl (uZ ?_)
   refine then_normal ?_
   go_roundw
   case rel => exact ⟨i + 1, _, _, rfl, rfl, by omega, by rw [take_next (show gNames[i]? = some x.1 by unfold gNames; rw [List.getElem?_map, hx]; rfl), ← text_snoc]; exact (hv.kp [] 1 2)⟩
   case measure => show gRows.length - (((i + 1 : Nat) : Int)).toNat < gRows.length - ((i : Int)).toNat; omega
  refine uG (.bool false) rfl (ex_lss rfl rfl rfl (qF hb11)) (uW k10 ?_)
  refine sK fun _ k24 => cF rfl (xE ?_)
  refine tX (tX ?_)
  refine bH (tK k7 ?_)
  refine sK fun _ k25 => rL (uM rfl ?_)
  refine uA rfl (uW k25 ?_)
  refine rR (bR rfl rfl ?_)
  obtain rfl : i = gRows.length := by omega
  obtain ⟨D, hD, hv, hro, hoko, -⟩ := (hv).rowBy
  rw [show gNames.take gRows.length = gNames from rfl] at hro
  exact ⟨D, na, nc, hC.trans hD, rfl, hro, hoko, hv⟩
abbrev GX := DoL
def GArgs (name : List UInt8) (n : Nat) : Prop := ∃ x ∈ gRows, x.1 = name ∧ x.2.1 ≤ (n : Int) ∧ (0 ≤ x.2.2 → (n : Int) ≤ x.2.2)
theorem gRows_one : ∀ x ∈ gRows, 1 ≤ x.2.1 := by decide
theorem gRows_two : ∀ x ∈ gRows, (x.1 = ([76, 73, 78, 68, 69, 88] : List UInt8) ∨ x.1 = ([82, 80, 79, 80, 76, 80, 85, 83, 72] : List UInt8) ∨ x.1 = ([76, 80, 79, 83] : List UInt8)) → 2 ≤ x.2.1 := by decide
theorem gRows_three : ∀ x ∈ gRows, (x.1 = ([76, 82, 69, 77] : List UInt8) ∨ x.1 = ([76, 83, 69, 84] : List UInt8)) → 3 ≤ x.2.1 := by decide
theorem gRows_four : ∀ x ∈ gRows, (x.1 = ([76, 73, 78, 83, 69, 82, 84] : List UInt8) ∨ x.1 = ([76, 77, 79, 86, 69] : List UInt8)) → 4 ≤ x.2.1 := by decide
theorem gRows_def : ∀ x ∈ gRows, (∀ y ∈ [([76, 73, 78, 68, 69, 88] : List UInt8), ([76, 73, 78, 83, 69, 82, 84] : List UInt8), ([76, 76, 69, 78] : List UInt8), ([76, 77, 79, 86, 69] : List UInt8), ([82, 80, 79, 80, 76, 80, 85, 83, 72] : List UInt8), ([76, 77, 80, 79, 80] : List UInt8), ([76, 80, 79, 80] : List UInt8), ([82, 80, 79, 80] : List UInt8), ([76, 80, 79, 83] : List UInt8), ([76, 80, 85, 83, 72] : List UInt8), ([82, 80, 85, 83, 72] : List UInt8), ([76, 80, 85, 83, 72, 88] : List UInt8), ([82, 80, 85, 83, 72, 88] : List UInt8), ([76, 82, 69, 77] : List UInt8), ([76, 83, 69, 84] : List UInt8)], ¬ x.1 = y) → x.2.1 = 3 ∧ x.2.2 = 3 := by decide
theorem gDoAll (B : Base) (H : List Res) (w : World) (v t m s p wb : Nat) (va : Option Addr) (vc : Nat) (sv : Value) (clk : Int) (es : List (List UInt8 × Value)) (M : List (List UInt8 × Ver)) (hM : VM B es M) (hO : OkM M) (aa : Option Addr) (ac : Nat) (args : List (List UInt8)) (hra : RdV B [] aa (textCells args)) (hoka : SliceOk aa args.length ac) (hma : args.length ≤ 1000) (name : List UInt8) (hgr : GArgs name args.length) (hxl : ∀ x ∈ args, x.length ≤ 9223372036854775807) (_ : (∀ x ∈ args, x.length ≤ 1000000) ∨ M = []) (hN : NumB B) (hv : Inv B (Res.cell v [.iface 62 (vP t)] 36 :: txR t m s p wb va vc sv clk es :: H) w) : Calls Tryz.prog 27 #[.agg #[vP v, .slice aa args.length ac], vS name] w fun e w' => ∃ C es' M' r cs, B.Le C ∧ e = .returned (.agg cs.toArray) ∧ RpAt C r cs ∧ VM C es' M' ∧ CmdR M M' r ∧ GX M clk name args M' r ∧ Inv C (Res.cell v [.iface 62 (vP t)] 36 :: txR t m s p wb va vc sv clk es' :: H) w' := by
 obtain ⟨x, hx, hxn, hx1, hx2⟩ := hgr
 have h1 := gRows_one x hx
 exact clistDoAll B H w v t m s p wb va vc sv clk es M hM hO aa ac args hra hoka hma name (by omega) (fun h => by have := gRows_two x hx (by rw [hxn]; exact h); omega) (fun h => by have := gRows_three x hx (by rw [hxn]; exact h); omega) (fun h => by have := gRows_four x hx (by rw [hxn]; exact h); omega) (fun h => by have := gRows_def x hx (by rw [hxn]; exact h); omega) hxl hN hv
theorem jBal28 : AL Tryz.prog 28 [vI 0, vS [], vI 0, vN] := fun w => by kernel_rfl
theorem jBal4 : AL Tryz.prog 4 [.bool false] := fun w => by kernel_rfl
theorem jBfa72_1 : FA Tryz.prog 72 1 1 := fun w b o => by kernel_rfl
theorem jBcallable24 : Callable Tryz.prog 24 := cb Tryz.func24 (by kernel_rfl)
theorem jBrec24 (n : Nat) (x0 x1 : Value) (w : World) : CallsDIn Fence.wide n Tryz.prog 24 #[x0, x1] .returning w fun e u' w' => e = .returned (.tuple #[]) ∧ u' = .returning ∧ w' = w := by
 refine callsDIn_of_wpSIn Tryz.func24 rfl trivial fun c₀ cs hu => ?_
 apply wpSIn_seq
 apply wpSIn_region
 simp [wpOpsSIn, go_sem, recoverD, hu, Tryz.ntmps24, Exit.thenS]
 refine wpSIn_cond (t := false) (by simp [Act.eval, Array.replicate]) ?_
 simp only [Bool.false_eq_true, if_false]
 refine wpSIn_of_wpIn rfl (wpIn_skip ?_)
 cases c₀
 simp_all [bodyPostS, results, Tryz.results24]
theorem jBfa72_2 : FA Tryz.prog 72 2 2 := fun w b o => by kernel_rfl
theorem jBcallable27 : Callable Tryz.prog 27 := cb Tryz.func27 (by kernel_rfl)
theorem gDo (B : Base) (H : List Res) (w : World) (v t m s p wb : Nat) (va : Option Addr) (vc : Nat) (sv : Value) (clk : Int) (es : List (List UInt8 × Value)) (M : List (List UInt8 × Ver)) (hM : VM B es M) (hO : OkM M) (aa : Option Addr) (ac : Nat) (args : List (List UInt8)) (hra : RdV B [] aa (textCells args)) (hoka : SliceOk aa args.length ac) (hma : args.length ≤ 1000) (name : List UInt8) (hxl : ∀ x ∈ args, x.length ≤ 9223372036854775807) (hsm : (∀ x ∈ args, x.length ≤ 1000000) ∨ M = []) (hN : NumB B) (hv : Inv B (Res.cell v [.iface 62 (vP t)] 36 :: txR t m s p wb va vc sv clk es :: H) w) :
  Calls Tryz.prog 12 #[vP v, vS name, .slice aa args.length ac] w fun e w' => ∃ C es' M' r cs ok, B.Le C ∧ e = .returned (.tuple #[.agg cs.toArray, .bool ok]) ∧ RpAt C r cs ∧ VM C es' M' ∧ CmdR M M' r ∧ (ok = true ↔ name ∈ gNames) ∧ (ok = false → M' = M ∧ r = rText []) ∧ (GArgs name args.length → GX M clk name args M' r) ∧ Inv C (Res.cell v [.iface 62 (vP t)] 36 :: txR t m s p wb va vc sv clk es' :: H) w' := by
 refine (callsIn_wide (n := 5)).1 (callsIn_of_wp_defers Tryz.func12 rfl trivial ?_)
 simp only [Tryz.ntmps12, List.size_toArray, List.length_cons, List.length_nil, Nat.reduceAdd, Nat.reduceSub, Array.replicate_succ, Array.replicate_zero, List.push_toArray, List.append_toArray, List.nil_append, List.cons_append]
 refine sK fun _ k1 => rL (sl_alloc tV (wn rfl) rfl hv jBal28 (fun b2 w3 hv => ?_))
 refine sl_alloc tV (wn rfl) rfl hv jBal4 (fun b4 w5 hv => ?_)
 refine uW k1 (sK fun _ k6 => ?_)
 refine rL (uG (.func (.func 24) #[] #[vP b2, vP b4]) rfl (ex_makeFunc (c' := #[vP b2, vP b4]) rfl (by simp only [List.map_toArray, List.map_nil]) (by simp only [List.map_toArray, List.map_cons, List.map_nil]; rfl)) ?_)
 refine wpi_defer tV rfl (wn rfl) rfl rfl (uW k6 ?_)
 refine sK fun _ k7 => sK fun _ k8 => rL (xC jBcallable26 rfl ((gRowsC B _ _ hv).mono ?_) rfl)
 rintro e w9 ⟨C, ra, rc, hC, rfl, hrr, hv⟩
 refine ⟨_, rfl, uG (vI (gRows.length : Int)) rfl (ex_len0 Tryz.underlying69 rfl rfl) ?_⟩
 refine uM rfl (uW k8 ?_)
 refine bB ?_
 gi_loopw [14] (fun x14 wr => ∃ (i : Nat), x14 = vI i ∧ i ≤ gRows.length ∧ (∀ (j : Nat) y, j < i → gRows[j]? = some y → y.1 ≠ name) ∧ Inv C (Res.cell b4 [.bool false] 4 :: Res.cell b2 [vI 0, vS [], vI 0, vN] 28 :: Res.cell v [.iface 62 (vP t)] 36 :: txR t m s p wb va vc sv clk es :: H) wr) (fun x14 _ => gRows.length - (intOf x14).toNat)
 case atStart => exact ⟨0, rfl, Nat.zero_le _, fun j y h => by omega, hv⟩
 case round =>
  obtain ⟨i, rfl, hi, hno, hv⟩ := hrel
  have hrl := gRows_len
  refine sK fun _ k11 => rL ?_
  by_cases hb12 : (i : Int) < (gRows.length : Int)
  ·refine uG (.bool true) rfl (ex_lss rfl rfl rfl (qT hb12)) (uW k11 ?_)
   refine sK fun _ k13 => cT rfl (kS ?_)
   refine tK k13 (sK fun _ k14 => ?_)
   refine bB (sK fun _ k15 => ?_)
   have hrl := gRows_len
   obtain ⟨x, hx⟩ : ∃ x, gRows[i]? = some x := ⟨_, List.getElem?_eq_getElem (show i < gRows.length by omega)⟩
   have hxm := List.mem_of_getElem? hx
   obtain ⟨rb, ro, had, hrdx⟩ := gRow_reads hrr hx
   subst had
   refine rL (uG (.pointer (some ⟨rb, ro + i * 3, none⟩)) rfl (ex_index rfl rfl rfl (run_idx (k := i) Tryz.underlying69 jBes69 (by omega))) ?_)
   refine uL (.agg #[vS x.1, vI x.2.1, vI x.2.2]) rfl (run_loadR (cs := [vS x.1, vI x.2.1, vI x.2.2]) jBwd72 (Reads.mid (pre := []) (mid := [vS x.1, vI x.2.1, vI x.2.2]) (post := []) hrdx _ _ _ (Base.Le.refl _) no_res hv)) ?_
   refine sl_alloc tV (wn rfl) rfl hv jBal72 (fun b16 w17 hv => ?_)
   simp only [zP, po]
   refine xS 0 rfl hv jBsz72 rfl (by exact ⟨rfl, rfl, rfl, trivial⟩) (fun w18 hv => ?_)
   simp only [zO, sp] at hv
   refine uW k15 (sK fun _ k19 => ?_)
   refine sK fun _ k20 => rL (uF (vP b16) rfl (jBfa72_0 _ _ _) ?_)
   refine uL _ rfl (run_load1 s9na9 (hv.load 0 0 rfl rfl)) (uM rfl ?_)
   by_cases hb21 : x.1 ≠ name
   ·refine uG (.bool true) rfl (ex_sneq rfl rfl rfl (qT hb21)) (uW k20 ?_)
    refine cT rfl (xE ?_)
    refine tX (bH ?_)
    refine tK k14 (rL ?_)
    refine uG (vI ((i + 1 : Nat) : Int)) rfl (ex_add rfl rfl rfl (by rw [i64_in (by omega)]; omega)) (uM rfl ?_)
    refine uZ (then_normal ?_)
    go_roundw
    case rel => exact ⟨i + 1, rfl, by omega, fun j y hj hy => (by
       rcases Nat.lt_or_ge j i with h | h
       ·exact hno j y h hy
       obtain rfl : j = i := by omega
       rw [hx] at hy; cases hy; exact hb21), (hv.kp [4, 4, 4, 4] 4 1)⟩
    case measure => show gRows.length - (((i + 1 : Nat) : Int)).toNat < gRows.length - ((i : Int)).toNat; omega
   refine uG (.bool false) rfl (ex_sneq rfl rfl rfl (qF hb21)) (uW k20 ?_)
   refine cF rfl (kS ?_)
   refine tK k19 (sK fun _ k22 => ?_)
   refine sK fun _ k23 => rL (uM rfl ?_)
   refine uG (vI (args.length : Int)) rfl (ex_len0 Tryz.underlying22 rfl rfl) (uA rfl ?_)
   refine uW k23 (sK fun _ k24 => ?_)
   refine rL (uM rfl ?_)
   refine uF (.pointer (some ⟨b16, 1, none⟩)) rfl (jBfa72_1 _ _ _) ?_
   refine uL _ rfl (run_load1 s2na3 (hv.load 0 1 rfl rfl)) ?_
   by_cases hb25 : (args.length : Int) < x.2.1
   ·refine uG (.bool true) rfl (ex_lss rfl rfl rfl (qT hb25)) (uM rfl ?_)
    iterate 9 refine uP rfl ?_
    refine uK rfl (uW k24 ?_)
    refine cT rfl (sK fun _ k26 => ?_)
    refine rL (xC rscallable25 rfl ((viewWrong C _ _ 43 hv).mono ?_) rfl)
    rintro e w28 ⟨s27, rfl, hv⟩
    refine ⟨_, rfl, ?_⟩
    refine xS 2 rfl hv rssz28 rfl (by exact ⟨rfl, rfl, rfl, rfl, trivial⟩) (fun w29 hv => ?_)
    simp only [zS, zO, sp] at hv
    refine xV 1 (.bool true) rfl hv j3sz4 rfl rfl (fun w30 hv => ?_)
    simp only [zS, zO, sp] at hv
    refine uW k26 (rR ?_)
    refine tR (bZ ?_)
    refine tR (tR ?_)
    refine bZ (tR ?_)
    refine leave_rec jBcallable24 (jBrec24 _ _ _ _) (res_cells2 rfl rfl (lM 2 rswd28 hv rfl rfl rfl rfl) rfl (run_load1 s2na4 (hv.load 1 0 rfl rfl))) ?_
    have hmem : name ∈ gNames := by rw [← (show x.1 = name from Classical.byContradiction fun h9 => hb21 h9)]; exact List.mem_map_of_mem hxm
    exact ⟨C, es, M, rFault s27, rpCells 1 s27 0 (vN), true, hC, rfl, rpAt_leaf, hM.more hC, ⟨hO, fun _ => rfl⟩, ⟨fun _ => hmem, fun _ => rfl⟩, fun h9 => (by cases h9), fun ⟨y9, hy9, hyn9, hg1, hg2⟩ => (by obtain rfl := gRows_inj y9 hy9 x hxm (by rw [hyn9]; exact (Classical.byContradiction fun h9 => hb21 h9 : x.1 = name).symm); omega), (hv.kp [4, 4] 2 3)⟩
   refine uG (.bool false) rfl (ex_lss rfl rfl rfl (qF hb25)) (uM rfl ?_)
   refine uF (.pointer (some ⟨b16, 2, none⟩)) rfl (jBfa72_2 _ _ _) ?_
   refine uL _ rfl (run_load1 s2na3 (hv.load 0 2 rfl rfl)) ?_
   by_cases hb31 : x.2.2 ≥ 0
   ·refine uG (.bool true) rfl (ex_geq rfl rfl rfl (qT hb31)) ?_
    refine uM rfl ?_
    refine uM rfl ?_
    refine uF (.pointer (some ⟨b16, 2, none⟩)) rfl (jBfa72_2 _ _ _) ?_
    refine uL _ rfl (run_load1 s2na3 (hv.load 0 2 rfl rfl)) ?_
    by_cases hb32 : (args.length : Int) > x.2.2
    ·refine uG (.bool true) rfl (ex_gtr rfl rfl rfl (qT hb32)) ?_
     refine uK rfl (uK rfl ?_)
     refine uW k24 (cT rfl ?_)
     refine sK fun _ k33 => rL (xC rscallable25 rfl ((viewWrong C _ _ 43 hv).mono ?_) rfl)
     rintro e w35 ⟨s34, rfl, hv⟩
     refine ⟨_, rfl, ?_⟩
     refine xS 2 rfl hv rssz28 rfl (by exact ⟨rfl, rfl, rfl, rfl, trivial⟩) (fun w36 hv => ?_)
     simp only [zS, zO, sp] at hv
     refine xV 1 (.bool true) rfl hv j3sz4 rfl rfl (fun w37 hv => ?_)
     simp only [zS, zO, sp] at hv
     refine uW k33 (rR ?_)
     refine tR (bZ ?_)
     refine tR (tR ?_)
     refine bZ (tR ?_)
     refine leave_rec jBcallable24 (jBrec24 _ _ _ _) (res_cells2 rfl rfl (lM 2 rswd28 hv rfl rfl rfl rfl) rfl (run_load1 s2na4 (hv.load 1 0 rfl rfl))) ?_
     have hmem : name ∈ gNames := by rw [← (show x.1 = name from Classical.byContradiction fun h9 => hb21 h9)]; exact List.mem_map_of_mem hxm
     exact ⟨C, es, M, rFault s34, rpCells 1 s34 0 (vN), true, hC, rfl, rpAt_leaf, hM.more hC, ⟨hO, fun _ => rfl⟩, ⟨fun _ => hmem, fun _ => rfl⟩, fun h9 => (by cases h9), fun ⟨y9, hy9, hyn9, hg1, hg2⟩ => (by obtain rfl := gRows_inj y9 hy9 x hxm (by rw [hyn9]; exact (Classical.byContradiction fun h9 => hb21 h9 : x.1 = name).symm); omega), (hv.kp [4, 4] 2 3)⟩
    refine uG (.bool false) rfl (ex_gtr rfl rfl rfl (qF hb32)) ?_
    refine uK rfl (uK rfl ?_)
    refine uW k24 (cF rfl ?_)
    refine kS (tK k22 ?_)
    refine sK fun _ k38 => ?_
    have hxn : x.1 = name := Classical.byContradiction fun h9 => hb21 h9
    refine rL (uM rfl ?_)
    refine uM rfl ?_
    refine uG (.agg #[vP v, .slice aa args.length ac]) rfl (ex_buildN (vs := #[(0, vP v), (1, .slice aa args.length ac)]) rfl (by simp only [List.map_toArray, List.map_cons, List.map_nil]; rfl) (by kernel_rfl)) (uM rfl ?_)
    replace hv := hv.front 4 rfl
    simp only [eS, eZ] at hv
    replace hv := hv.front 4 rfl
    simp only [eS, eZ] at hv
    refine xC jBcallable27 rfl ((gDoAll C _ _ v t m s p wb va vc sv clk es M (hM.more hC) hO aa ac args (hra.more hC (fun _ h => h)) hoka hma name ⟨x, hxm, hxn, by omega, fun h9 => by omega⟩ hxl hsm (hN.more hC) hv).mono ?_) rfl
    rintro e w39 ⟨D, es', M', r, cs, hD, rfl, hrp, hM', hcmd, hgx, hv⟩
    refine ⟨_, rfl, ?_⟩
    obtain ⟨rk, rs, rn, rv, rfl⟩ := rp_parts hrp
    refine xS 4 rfl hv rssz28 rfl (by exact ⟨rfl, rfl, rfl, hrp.lv.2, trivial⟩) (fun w40 hv => ?_)
    simp only [zS, zO, sp] at hv
    simp only [zP, po]
    refine xV 3 (.bool true) rfl hv j3sz4 rfl rfl (fun w41 hv => ?_)
    simp only [zS, zO, sp] at hv
    refine uW k38 (rR ?_)
    refine bZ (tR ?_)
    refine tR (bZ ?_)
    refine tR (leave_rec jBcallable24 (jBrec24 _ _ _ _) (res_cells2 rfl rfl (lM 4 rswd28 hv rfl rfl rfl rfl) rfl (run_load1 s2na4 (hv.load 3 0 rfl rfl))) ?_)
    have hmem : name ∈ gNames := by rw [← (show x.1 = name from Classical.byContradiction fun h9 => hb21 h9)]; exact List.mem_map_of_mem hxm
    exact ⟨D, es', M', r, _, true, (hC.trans hD), rfl, hrp, hM', hcmd, ⟨fun _ => hmem, fun _ => rfl⟩, fun h9 => (by cases h9), fun _ => hgx, (hv.kp [1, 1] 2 3)⟩
   refine uG (.bool false) rfl (ex_geq rfl rfl rfl (qF hb31)) ?_
   refine uM rfl ?_
   iterate 4 refine uP rfl ?_
   refine uK rfl (uK rfl ?_)
   refine uW k24 (cF rfl ?_)
   refine kS (tK k22 ?_)
   refine sK fun _ k42 => ?_
   have hxn : x.1 = name := Classical.byContradiction fun h9 => hb21 h9
   refine rL (uM rfl ?_)
   refine uM rfl ?_
   refine uG (.agg #[vP v, .slice aa args.length ac]) rfl (ex_buildN (vs := #[(0, vP v), (1, .slice aa args.length ac)]) rfl (by simp only [List.map_toArray, List.map_cons, List.map_nil]; rfl) (by kernel_rfl)) (uM rfl ?_)
   replace hv := hv.front 4 rfl
   simp only [eS, eZ] at hv
   replace hv := hv.front 4 rfl
   simp only [eS, eZ] at hv
   refine xC jBcallable27 rfl ((gDoAll C _ _ v t m s p wb va vc sv clk es M (hM.more hC) hO aa ac args (hra.more hC (fun _ h => h)) hoka hma name ⟨x, hxm, hxn, by omega, fun h9 => by omega⟩ hxl hsm (hN.more hC) hv).mono ?_) rfl
   rintro e w43 ⟨D, es', M', r, cs, hD, rfl, hrp, hM', hcmd, hgx, hv⟩
   refine ⟨_, rfl, ?_⟩
   obtain ⟨rk, rs, rn, rv, rfl⟩ := rp_parts hrp
   refine xS 4 rfl hv rssz28 rfl (by exact ⟨rfl, rfl, rfl, hrp.lv.2, trivial⟩) (fun w44 hv => ?_)
   simp only [zS, zO, sp] at hv
   simp only [zP, po]
   refine xV 3 (.bool true) rfl hv j3sz4 rfl rfl (fun w45 hv => ?_)
   simp only [zS, zO, sp] at hv
   refine uW k42 (rR ?_)
   refine bZ (tR ?_)
   refine tR (bZ ?_)
   refine tR (leave_rec jBcallable24 (jBrec24 _ _ _ _) (res_cells2 rfl rfl (lM 4 rswd28 hv rfl rfl rfl rfl) rfl (run_load1 s2na4 (hv.load 3 0 rfl rfl))) ?_)
   have hmem : name ∈ gNames := by rw [← (show x.1 = name from Classical.byContradiction fun h9 => hb21 h9)]; exact List.mem_map_of_mem hxm
   exact ⟨D, es', M', r, _, true, (hC.trans hD), rfl, hrp, hM', hcmd, ⟨fun _ => hmem, fun _ => rfl⟩, fun h9 => (by cases h9), fun _ => hgx, (hv.kp [1, 1] 2 3)⟩
  refine uG (.bool false) rfl (ex_lss rfl rfl rfl (qF hb12)) (uW k11 ?_)
  refine sK fun _ k46 => cF rfl (xE ?_)
  refine tX (tX ?_)
  refine bH (tK k7 ?_)
  refine sK fun _ k47 => rL (uG (.agg #[vI 0, vS [], vI 0, vN]) rfl (ex_buildN (vs := #[]) rfl (by simp only [List.map_toArray, List.map_nil]) (by kernel_rfl)) ?_)
  refine xS 1 rfl hv rssz28 rfl (by exact ⟨rfl, rfl, rfl, rfl, trivial⟩) (fun w48 hv => ?_)
  simp only [zS, zO, sp] at hv
  refine xV 0 (.bool false) rfl hv j3sz4 rfl rfl (fun w49 hv => ?_)
  simp only [zO, sp] at hv
  refine uW k47 (rR ?_)
  refine leave_rec jBcallable24 (jBrec24 _ _ _ _) (res_cells2 rfl rfl (lM 1 rswd28 hv rfl rfl rfl rfl) rfl (run_load1 s2na4 (hv.load 0 0 rfl rfl))) ?_
  have hmem : name ∉ gNames := fun h9 => by
   obtain ⟨y, hy, hyn⟩ := List.mem_map.1 h9
   obtain ⟨j, hj⟩ := List.mem_iff_getElem?.1 hy
   exact hno j y (by have := (List.getElem?_eq_some_iff.1 hj).1; omega) hj hyn
  exact ⟨C, es, M, rText [], rpCells 0 [] 0 (vN), false, hC, rfl, rpAt_leaf, hM.more hC, ⟨hO, fun _ => rfl⟩, ⟨fun h9 => (by cases h9), fun h9 => absurd h9 hmem⟩, fun _ => ⟨rfl, rfl⟩, fun ⟨y9, hy9, hyn9, _⟩ => absurd (hyn9 ▸ List.mem_map_of_mem hy9) hmem, (hv.kp [3, 3] 2 2)⟩
theorem rp_str {B : Base} {x : List UInt8} {cs : List Value} (h : RpAt B (rStr x) cs) : ∃ v, cs = rpCells 3 x 0 v := by
 simp only [rStr, RpAt] at h
 obtain ⟨v, xs, h1, -⟩ := h
 exact ⟨v, h1⟩
theorem sameC_self (x : List UInt8) : SameC x x := ⟨rfl, fun k a b h1 h2 => by rw [h1] at h2; cases h2; rfl⟩
theorem is_left {r : Int} (h : IsI [76, 69, 70, 84] [[76, 69, 70, 84], [82, 73, 71, 72, 84]] r) : r = 0 := by
 rcases is2 h with ⟨-, h1, -⟩ | ⟨h1, -⟩ | ⟨-, h1, -⟩
 ·exact absurd (sameC_self _) h1
 ·exact h1
 exact absurd (sameC_self _) h1
theorem is_right {r : Int} (h : IsI [82, 73, 71, 72, 84] [[76, 69, 70, 84], [82, 73, 71, 72, 84]] r) : r = 1 := by
 rcases is2 h with ⟨-, -, h1⟩ | ⟨-, h1⟩ | ⟨h1, -⟩
 ·exact absurd (sameC_self _) h1
 ·exact absurd h1.1 (by decide)
 exact h1
theorem mov_left {M M' : List (List UInt8 × Ver)} {r : Rp} (h : LMovR M 0 kL kL [76, 69, 70, 84] [82, 73, 71, 72, 84] M' r) : LMoveR M 0 kL kL true false M' r := by
 obtain ⟨r2, r3, h2, h3, h⟩ := h
 have e2 := is_left h2
 have e3 := is_right h3
 rcases h with ⟨h1, -⟩ | ⟨fr, to, h4, h5, h⟩
 ·omega
 obtain rfl : fr = true := h4.2 e2
 cases to with
 | false => exact h
 | true => have := h5.1 rfl; omega
theorem push_nil {fs : Tx} {M : List (List UInt8 × Ver)} {r : Rp} (hl : fs.length ≤ 512) (hx : ∀ x ∈ fs, x.length ≤ 4096) (h : LPushR [] 0 kL false false fs M r) : HasL M fs ∧ r = rInt (fs.length : Int) := by
 obtain ⟨h1, h2⟩ := HasL.nil.push (xs := fs) (by simpa using hl) hx h
 exact ⟨by simpa using h1, by rw [h2]; congr 1; simp⟩
theorem jCcallable7 : Callable Tryz.prog 7 := cb Tryz.func7 (by kernel_rfl)
theorem jCcallable12 : Callable Tryz.prog 12 := cb Tryz.func12 (by kernel_rfl)
theorem jCal28 : AL Tryz.prog 28 [vI 0, vS [], vI 0, vN] := fun w => by kernel_rfl
theorem jCcallable10 : Callable Tryz.prog 10 := cb Tryz.func10 (by kernel_rfl)
theorem gAwake (B : Base) (H : List Res) (w : World) (hN : NumB B) (hv : Inv B H w) :
  Calls Tryz.prog 6 #[] w fun e w' => e = .returned (.bool true) ∧ Inv B H w' := by
 refine cW Tryz.func6 rfl Tryz.ntmps6 ?_
 simp only [al]
 refine sK fun _ k1 => rL (uA rfl ?_)
 refine uW k1 (sK fun _ k2 => ?_)
 refine rL (xC jCcallable7 rfl ((lawOpened B _ _ 0 (by omega) (by omega) hv).mono ?_) rfl)
 rintro e w3 ⟨v, t, m, s, p, wb, va, vc, sv, rfl, hv⟩
 refine ⟨_, rfl, uA rfl ?_⟩
 refine uW k2 (sK fun _ k4 => ?_)
 refine sK fun _ k5 => rL (uM rfl ?_)
 refine uG (.bool false) rfl (ex_pisnil Tryz.underlying24 rfl rfl rfl rfl) (uW k5 ?_)
 refine cF rfl (kS ?_)
 refine tK k4 (sK fun _ k6 => ?_)
 refine rL (uM rfl ?_)
 refine sl_rowN (pv := #[(0, vS [108]), (1, vS [97]), (2, vS [98]), (3, vS [99])]) (L := [vS [108], vS [97], vS [98], vS [99]]) (e := 9) tV (wn rfl) rfl (by simp only [List.map_toArray, List.map_cons, List.map_nil]; rfl) hv (fun w => by kernel_rfl) (fun b7 w8 hv => ?_)
 obtain ⟨D9, hD9, hv, hrD9, hoD9, -⟩ := (hv.cellRow (n := 4) (c := 4) (size := 1) rfl (by decide) (by decide)).rowBy
 replace hv := hv.front 1 rfl
 simp only [eS, eZ] at hv
 replace hv := hv.front 1 rfl
 simp only [eS, eZ] at hv
 refine xC jCcallable12 rfl ((gDo D9 _ _ v t m s p wb va vc sv 0 [] [] ((vmNil B).more hD9) OkM.nil _ _ [([108] : List UInt8), ([97] : List UInt8), ([98] : List UInt8), ([99] : List UInt8)] hrD9 hoD9 (by decide) ([82, 80, 85, 83, 72] : List UInt8) (all1 (by decide) (all1 (by decide) (all1 (by decide) (all1 (by decide) all0)))) (.inl (all1 (by decide) (all1 (by decide) (all1 (by decide) (all1 (by decide) all0))))) (hN.more hD9) hv).mono ?_) rfl
 rintro e w10 ⟨C1, es1, M1, r1, cs1, ok1, hC1, rfl, hrp1, hM1, ⟨hO1, -⟩, hok1, -, hrel1, hv⟩
 refine ⟨_, rfl, ?_⟩
 obtain rfl : ok1 = true := hok1.2 (by decide)
 obtain ⟨hg1, hg2, hg3, hg4, hg5⟩ := hrel1 (by unfold GArgs; decide)
 obtain ⟨k9, e9, hd9⟩ := hg1 rfl
 cases e9
 obtain ⟨hS1, rfl⟩ := push_nil (fs := [[97], [98], [99]]) (by decide) (all1 (by decide) (all1 (by decide) (all1 (by decide) all0))) hd9
 obtain ⟨v1, rfl⟩ := rp_int hrp1
 refine uM rfl (uE rfl ?_)
 refine uE rfl ?_
 refine sl_alloc tV (wn rfl) rfl hv jCal28 (fun b11 w12 hv => ?_)
 refine xS 0 rfl hv rssz28 rfl (by exact ⟨rfl, rfl, rfl, hrp1.lv.2, trivial⟩) (fun w13 hv => ?_)
 simp only [zO, sp] at hv
 refine uA rfl (uW k6 ?_)
 refine sK fun _ k14 => rL (uM rfl ?_)
 refine sl_rowN (pv := #[(0, vS [108]), (1, vS [108]), (2, vS [76, 69, 70, 84]), (3, vS [82, 73, 71, 72, 84])]) (L := [vS [108], vS [108], vS [76, 69, 70, 84], vS [82, 73, 71, 72, 84]]) (e := 9) tV (wn rfl) rfl (by simp only [List.map_toArray, List.map_cons, List.map_nil]; rfl) hv (fun w => by kernel_rfl) (fun b15 w16 hv => ?_)
 obtain ⟨D17, hD17, hv, hrD17, hoD17, -⟩ := (hv.cellRow (n := 4) (c := 4) (size := 1) rfl (by decide) (by decide)).rowBy
 replace hv := hv.front 2 rfl
 simp only [eS, eZ] at hv
 replace hv := hv.front 2 rfl
 simp only [eS, eZ] at hv
 refine xC jCcallable12 rfl ((gDo D17 _ _ v t m s p wb va vc sv 0 es1 M1 (hM1.more hD17) hO1 _ _ [([108] : List UInt8), ([108] : List UInt8), ([76, 69, 70, 84] : List UInt8), ([82, 73, 71, 72, 84] : List UInt8)] hrD17 hoD17 (by decide) ([76, 77, 79, 86, 69] : List UInt8) (all1 (by decide) (all1 (by decide) (all1 (by decide) (all1 (by decide) all0)))) (.inl (all1 (by decide) (all1 (by decide) (all1 (by decide) (all1 (by decide) all0))))) (hN.more ((hD9.trans hC1).trans hD17)) hv).mono ?_) rfl
 rintro e w18 ⟨C2, es2, M2, r2, cs2, ok2, hC2, rfl, hrp2, hM2, ⟨hO2, -⟩, hok2, -, hrel2, hv⟩
 refine ⟨_, rfl, ?_⟩
 obtain rfl : ok2 = true := hok2.2 (by decide)
 obtain ⟨hg1, hg2, hg3, hg4, hg5⟩ := hrel2 (by unfold GArgs; decide)
 obtain ⟨k9, l9, a9, b9, e9, e8, e7, e6, hd9⟩ := hg2 rfl
 cases e9; cases e8; cases e7; cases e6
 obtain ⟨hS2, rfl⟩ := HasL.turnL hS1 (mov_left hd9)
 obtain ⟨v2, rfl⟩ := rp_str hrp2
 refine uM rfl (uE rfl ?_)
 refine uE rfl ?_
 refine sl_alloc tV (wn rfl) rfl hv jCal28 (fun b19 w20 hv => ?_)
 refine xS 0 rfl hv rssz28 rfl (by exact ⟨rfl, rfl, rfl, hrp2.lv.2, trivial⟩) (fun w21 hv => ?_)
 simp only [zO, sp] at hv
 refine uA rfl (uW k14 ?_)
 refine sK fun _ k22 => rL (uM rfl ?_)
 refine sl_rowN (pv := #[(0, vS [108]), (1, vS [48]), (2, vS [45, 49])]) (L := [vS [108], vS [48], vS [45, 49]]) (e := 9) tV (wn rfl) rfl (by simp only [List.map_toArray, List.map_cons, List.map_nil]; rfl) hv (fun w => by kernel_rfl) (fun b23 w24 hv => ?_)
 obtain ⟨D25, hD25, hv, hrD25, hoD25, -⟩ := (hv.cellRow (n := 3) (c := 3) (size := 1) rfl (by decide) (by decide)).rowBy
 replace hv := hv.front 2 rfl
 simp only [eS, eZ] at hv
 replace hv := hv.front 2 rfl
 simp only [eS, eZ] at hv
 refine xC jCcallable12 rfl ((gDo D25 _ _ v t m s p wb va vc sv 0 es2 M2 (hM2.more hD25) hO2 _ _ [([108] : List UInt8), ([48] : List UInt8), ([45, 49] : List UInt8)] hrD25 hoD25 (by decide) ([76, 82, 65, 78, 71, 69] : List UInt8) (all1 (by decide) (all1 (by decide) (all1 (by decide) all0))) (.inl (all1 (by decide) (all1 (by decide) (all1 (by decide) all0)))) (hN.more ((((hD9.trans hC1).trans hD17).trans hC2).trans hD25)) hv).mono ?_) rfl
 rintro e w26 ⟨C3, es3, M3, r3, cs3, ok3, hC3, rfl, hrp3, hM3, ⟨hO3, -⟩, hok3, -, hrel3, hv⟩
 refine ⟨_, rfl, ?_⟩
 obtain rfl : ok3 = true := hok3.2 (by decide)
 obtain ⟨hg1, hg2, hg3, hg4, hg5⟩ := hrel3 (by unfold GArgs; decide)
 obtain ⟨k9, e9, hd9⟩ := hg4 rfl
 cases e9
 obtain ⟨-, rfl⟩ := HasL.range hS2 hd9
 obtain ⟨a3, c3, rfl⟩ := rp_strs hrp3
 refine uG (.tuple #[.agg #[vI 5, vS [], vI 0, .slice a3 3 c3], .bool true]) rfl (ex_move rfl rfl) ?_
 refine uG (.agg #[vI 5, vS [], vI 0, .slice a3 3 c3]) rfl (ex_extract rfl rfl rfl) (uE rfl ?_)
 refine sl_alloc tV (wn rfl) rfl hv jCal28 (fun b27 w28 hv => ?_)
 refine xS 0 rfl hv rssz28 rfl (by exact ⟨rfl, rfl, rfl, rfl, trivial⟩) (fun w29 hv => ?_)
 simp only [zO, sp] at hv
 refine uA rfl (uW k22 ?_)
 refine sK fun _ k30 => rW mixed [19, 20, 21] [0,1,2,3,4,5,6,7,8,9,10,11,12,13,14,15,16,17,18,19,20,21,22,23] 52 rfl (by kernel_rfl) hv ?_
 simp only [qm, opAt]
 refine dM (.bool true) rfl (dM (.bool true) rfl ?_)
 refine dM (.bool true) rfl ?_
 simp only [zP, po]
 refine dK true (.bool true) rfl (dM (.bool true) rfl ?_)
 refine dM (.bool true) rfl ?_
 simp only [zP, po]
 refine dK true (.bool true) rfl (dM (.bool true) rfl ?_)
 refine dG (.pointer (some ⟨b11, 2, none⟩)) rfl (ex_field rfl rfl (l0fa28_2 _ _ _)) ?_
 simp only [zP, po]
 refine dL _ rfl (fun hv => ex_load rfl rfl (run_load1 s2na3 (hv.load 4 2 rfl rfl))) (dG (.bool true) rfl (ex_eql rfl rfl rfl (by decide)) ?_)
 refine dK true (.bool true) rfl ?_
 simp only [zP, po]
 refine dM (.bool true) rfl (dG (.pointer (some ⟨b19, 1, none⟩)) rfl (ex_field rfl rfl (l0fa28_1 _ _ _)) ?_)
 refine dL _ rfl (fun hv => ex_load rfl rfl (run_load1 s9na9 (hv.load 3 1 rfl rfl))) ?_
 simp only [zP, po]
 refine dG (.bool true) rfl (ex_seql rfl rfl rfl (qT (by decide))) (dK true (.bool true) rfl ?_)
 refine dM (.bool true) rfl ?_
 simp only [zP, po]
 refine dF (.agg #[vI 5, vS [], vI 0, .slice a3 3 c3]) rfl (fun hv => ex_load rfl rfl (lM 0 rswd28 hv rfl rfl rfl rfl)) fun f31 hf31 => dS rfl fun w32 hv => mem_rowN (pv := #[(0, vS [98]), (1, vS [99]), (2, vS [97])]) (L := [vS [98], vS [99], vS [97]]) (e := 9) rfl rfl (by simp only [List.map_toArray, List.map_cons, List.map_nil]; rfl) hv (fun w => by kernel_rfl) (fun b33 w34 hv => ?_)
 refine dV hv (fC (fun ww hv => hf31 ww ?_) fN) ?_
 ·exact ex_load rfl rfl (lM 1 rswd28 hv rfl rfl rfl rfl)
 refine dS rfl fun w35 hv => ?_
 obtain ⟨D36, hD36, hv, hrD36, hoD36, -⟩ := (hv.cellRow (n := 3) (c := 3) (size := 1) rfl (by decide) (by decide)).rowBy
 refine mC jCcallable10 rfl ((ref20Strs D36 _ _ _ _ [([98] : List UInt8), ([99] : List UInt8), ([97] : List UInt8)] hrD36 (by decide) hv).mono ?_) rfl
 rintro e w37 ⟨E, ve, hE, rfl, hrpE, hv⟩
 refine ⟨_, rfl, dV hv (fC (fun ww hv => hf31 ww ?_) fN) ?_⟩
 ·exact ex_load rfl rfl (lM 0 rswd28 hv rfl rfl rfl rfl)
 simp only [zP, po]
 refine dS rfl fun w38 hv => mC l0callable9 rfl (((sameR_strs (B := E) (l := [[98], [99], [97]]) (by decide)) _ _ (rpCells 5 [] 0 (.slice a3 3 c3)) (rpCells 5 [] 0 ve) (hrp3.more (hD36.trans hE)) (hrpE.more (Base.Le.refl _)) hv).mono ?_) rfl
 rintro e w39 ⟨rfl, hv⟩
 refine ⟨_, rfl, dV hv (fK rfl fN) ?_⟩
 refine dK true (.bool true) rfl (dA (.bool true) rfl ?_)
 refine dE fun w40 hv => ?_
 simp only [zP, po]
 refine tK k30 (rR ?_)
 refine bR rfl rfl (⟨rfl, ((hv.kp [] 0 5)).weak (((((((hD9.trans hC1).trans hD17).trans hC2).trans hD25).trans hC3).trans hD36).trans hE)⟩)
end Go.Proofs.YtmhdpjifhfoabaaGreatDoor
