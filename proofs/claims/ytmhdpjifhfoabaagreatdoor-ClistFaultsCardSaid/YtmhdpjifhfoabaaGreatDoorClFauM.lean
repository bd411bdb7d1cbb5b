/- clist: pop, find, popFirst. -/
import Derived.Test.YtmhdpjifhfoabaaGreatDoorClFauC
import Derived.Test.YtmhdpjifhfoabaaGreatDoorClFauL
import Derived.Test.YtmhdpjifhfoabaaGreatDoorClFauH
import Derived.Test.YtmhdpjifhfoabaaGreatDoorClFauB
import Derived.Test.YtmhdpjifhfoabaaGreatDoorRows
set_option maxRecDepth 100000
set_option maxHeartbeats 16000000
set_option synthInstance.maxSize 4096
set_option synthInstance.maxHeartbeats 400000
namespace Go.Proofs.YtmhdpjifhfoabaaGreatDoor
open Go.RowKit Go.Pm
theorem headD_at {ns : List Int} {n d : Int} (h : ns[0]? = some n) : ns.headD d = n := by
 cases ns with
 | nil => cases h
 | cons a l => cases h; rfl
theorem headD_no {ns : List Int} {d : Int} (h : ns.length = 0) : ns.headD d = d := by rw [List.eq_nil_of_length_eq_zero h]; rfl
theorem ints_bad {ws : Tx} {ns : List Int} {ec : Int} (h : IntsR ws ns ec) (he : ec ≠ 0) : ∃ t ∈ ws, NumP t 0 false := by
 rcases h with ⟨h1, -⟩ | ⟨-, -, h1⟩
 ·exact absurd h1 he
 exact h1
theorem j3al28 : AL Tryz.prog 28 [vI 0, vS [], vI 0, vN] := fun w => by kernel_rfl
theorem j3al85 : AL Tryz.prog 85 [vI 0, .bool false, vI 0, vI 0, vS [], vN, vN, vN] := fun w => by kernel_rfl
theorem j3callable78 : Callable Tryz.prog 78 := cb Tryz.func78 (by kernel_rfl)
theorem clistPop (B : Base) (H : List Res) (w : World) (v t m s p wb : Nat) (va : Option Addr) (vc : Nat) (sv : Value) (clk : Int) (es : List (List UInt8 × Value)) (M : List (List UInt8 × Ver)) (hM : VM B es M) (hO : OkM M) (aa : Option Addr) (an ac : Nat) (key : List UInt8) (front : Bool) (xa : Option Addr) (xc : Nat) (xs : Tx) (_ : SliceOk xa xs.length xc) (hrx : RdV B [] xa (textCells xs)) (hmx : xs.length ≤ 10000) (hN : NumB B) (hv : Inv B (Res.cell v [.iface 62 (vP t)] 36 :: txR t m s p wb va vc sv clk es :: H) w) :
  Calls Tryz.prog 47 #[.agg #[vP v, .slice aa an ac], vS key, .bool front, .slice xa xs.length xc] w fun e w' => ∃ C es' M' r cs, B.Le C ∧ e = .returned (.agg cs.toArray) ∧ RpAt C r cs ∧ VM C es' M' ∧ (OkM M' ∧ LPopR M clk key front xs M' r) ∧ Inv C (Res.cell v [.iface 62 (vP t)] 36 :: txR t m s p wb va vc sv clk es' :: H) w' := by
 refine cW Tryz.func47 rfl Tryz.ntmps47 ?_
 simp only [al]
 refine sK fun _ k1 => rL (sl_box (L := [vP v, .slice aa an ac]) tV (wn rfl) rfl rfl hv (fun w => by kernel_rfl) (fun b2 w3 hv => ?_))
 simp only [zP, po]
 refine sl_alloc tV (wn rfl) rfl hv j3al28 (fun b4 w5 hv => ?_)
 refine uW k1 (sK fun _ k6 => ?_)
 refine rL (uM rfl ?_)
 refine xC j1callable76 rfl ((viewInts B _ _ xa xc xs hrx (by omega) hN hv).mono ?_) rfl
 rintro e w7 ⟨E, ia, ic, ns, ei, hE, rfl, hri, hir, hv⟩
 refine ⟨_, rfl, uM rfl ?_⟩
 refine uE rfl (uE rfl ?_)
 refine uA rfl (uA rfl ?_)
 refine uW k6 (sK fun _ k8 => ?_)
 refine sK fun _ k9 => rL (uM rfl ?_)
 by_cases hb10 : ei ≠ 0
 ·refine uG (.bool true) rfl (ex_neq rfl rfl rfl (qT hb10)) (uW k9 ?_)
  refine cT rfl (sK fun _ k11 => ?_)
  refine rL (uM rfl ?_)
  refine xC rscallable25 rfl ((viewWrong E _ _ ei hv).mono ?_) rfl
  rintro e w13 ⟨s12, rfl, hv⟩
  refine ⟨_, rfl, ?_⟩
  simp only [zP, po]
  refine xS 0 rfl hv rssz28 rfl (by exact ⟨rfl, rfl, rfl, rfl, trivial⟩) (fun w14 hv => ?_)
  simp only [zO, sp] at hv
  refine uW k11 (rR ?_)
  refine tR (bC 0 rswd28 hv rfl rfl rfl rfl ?_)
  exact ⟨E, es, M, (.mk 1 s12 0 []), _, hE, rfl, rpAt_leaf, hM.more hE, ⟨hO, .inl ⟨ints_bad hir hb10, rfl, rfl⟩⟩, (hv.kp [3, 3] 2 2)⟩
 refine uG (.bool false) rfl (ex_neq rfl rfl rfl (qF hb10)) (uW k9 ?_)
 refine cF rfl (kS ?_)
 refine tK k8 (sK fun _ k15 => ?_)
 refine rL (uA rfl ?_)
 refine uW k15 (sK fun K16 k16 => ?_)
 have hir0 : IntsR xs ns 0 := by rw [show (0 : Int) = ei by omega]; exact hir
 have hJ16 : ∀ (n : Int) (ia9 : Option Addr) (j24 j25 j26 j27 j28 j29 : Value) (w17 : World), (ns.headD 1 = n) → Inv E (Res.cell b4 [vI 0, vS [], vI 0, vN] 28 :: Res.cell b2 [vP v, .slice aa an ac] 74 :: Res.cell v [.iface 62 (vP t)] 36 :: txR t m s p wb va vc sv clk es :: H) w17 → K16 { tmps := List.toArray (.agg #[vP v, .slice aa an ac] :: vS key :: .bool front :: .slice xa xs.length xc :: vP b2 :: undef :: undef :: undef :: vP b4 :: .slice ia9 ns.length ic :: vI ei :: vI n :: undef :: undef :: undef :: .tuple #[.slice ia ns.length ic, vI ei] :: .slice xa xs.length xc :: .tuple #[.slice ia ns.length ic, vI ei] :: .slice ia ns.length ic :: vI ei :: vI ei :: .bool false :: undef :: undef :: j24 :: j25 :: j26 :: j27 :: j28 :: j29 :: undef :: undef :: undef :: undef :: undef :: undef :: undef :: undef :: undef :: undef :: undef :: undef :: undef :: undef :: undef :: undef :: undef :: undef :: undef :: undef :: undef :: undef :: undef :: undef :: undef :: undef :: undef :: undef :: undef :: undef :: undef :: undef :: undef :: undef :: undef :: undef :: undef :: undef :: undef :: undef :: undef :: undef :: undef :: undef :: undef :: undef :: undef :: undef :: undef :: undef :: undef :: undef :: undef :: undef :: []), defers := [] } w17 := by
  intro n ia9 j24 j25 j26 j27 j28 j29 w17 hn9 hv
  refine k16 _ _ (sK fun _ k18 => ?_)
  refine sK fun _ k19 => rL (uM rfl ?_)
  by_cases hb20 : n < 0
  ·refine uG (.bool true) rfl (ex_lss rfl rfl rfl (qT hb20)) (uW k19 ?_)
   refine cT rfl (sK fun _ k21 => ?_)
   refine rL (xC rscallable25 rfl ((viewWrong E _ _ 44 hv).mono ?_) rfl)
   rintro e w23 ⟨s22, rfl, hv⟩
   refine ⟨_, rfl, ?_⟩
   simp only [zP, po]
   refine xS 0 rfl hv rssz28 rfl (by exact ⟨rfl, rfl, rfl, rfl, trivial⟩) (fun w24 hv => ?_)
   simp only [zO, sp] at hv
   refine uW k21 (rR ?_)
   refine tR (bC 0 rswd28 hv rfl rfl rfl rfl ?_)
   exact ⟨E, es, M, (.mk 1 s22 0 []), _, hE, rfl, rpAt_leaf, hM.more hE, ⟨hO, .inr ⟨ns, hir0, by rw [hn9]; exact .inl ⟨hb20, rfl, rfl⟩⟩⟩, (hv.kp [3, 3] 2 2)⟩
  refine uG (.bool false) rfl (ex_lss rfl rfl rfl (qF hb20)) (uW k19 ?_)
  refine cF rfl (kS ?_)
  refine tK k18 (sK fun _ k25 => ?_)
  refine rL (uF (vP b2) rfl (j1fa74_0 _ _ _) ?_)
  refine uL _ rfl (run_load1 j1na24 (hv.load 1 0 rfl rfl)) (uM rfl ?_)
  replace hv := hv.front 3 rfl
  simp only [eS, eZ] at hv
  replace hv := hv.front 3 rfl
  simp only [eS, eZ] at hv
  refine xC j1callable41 rfl ((viewOf E _ _ v t m s p wb va vc sv clk es M key 3 (hM.more hE) hv).mono ?_) rfl
  rintro e w26 ⟨C, y, yp, yt, yz, ec, hC, rfl, hyv, hof, hv⟩
  refine ⟨_, rfl, ?_⟩
  obtain ⟨pa, pc, sa, sc, za, zc, rfl, rfl, rfl, hokp, hrp, hoks, hrs, hokz, hrz⟩ := valAt_open hyv
  refine uM rfl (uE rfl ?_)
  refine uE rfl ?_
  refine sl_alloc tV (wn rfl) rfl hv j3al85 (fun b27 w28 hv => ?_)
  simp only [zP, po]
  refine xS 0 rfl hv x0sz85 rfl (by exact ⟨rfl, rfl, rfl, rfl, rfl, rfl, rfl, rfl, trivial⟩) (fun w29 hv => ?_)
  simp only [zO, sp] at hv
  refine uA rfl (uW k25 ?_)
  refine sK fun _ k30 => sK fun _ k31 => rL (uM rfl ?_)
  by_cases hb32 : ec ≠ 0
  ·refine uG (.bool true) rfl (ex_neq rfl rfl rfl (qT hb32)) (uW k31 ?_)
   refine cT rfl (sK fun _ k33 => ?_)
   refine rL (uM rfl ?_)
   refine xC rscallable25 rfl ((viewWrong C _ _ ec hv).mono ?_) rfl
   rintro e w35 ⟨s34, rfl, hv⟩
   refine ⟨_, rfl, ?_⟩
   simp only [zP, po]
   refine xS 3 rfl hv rssz28 rfl (by exact ⟨rfl, rfl, rfl, rfl, trivial⟩) (fun w36 hv => ?_)
   simp only [zS, zO, sp] at hv
   refine uW k33 (rR ?_)
   refine tR (bC 3 rswd28 hv rfl rfl rfl rfl ?_)
   exact ⟨C, es, M, (.mk 1 s34 0 []), _, (hE.trans hC), rfl, rpAt_leaf, hM.more (hE.trans hC), ⟨hO, .inr ⟨ns, hir0, by rw [hn9]; exact .inr ⟨by omega, y, ec, hof, .inl ⟨hb32, rfl, rfl⟩⟩⟩⟩, (hv.kp [2, 2] 2 3)⟩
  refine uG (.bool false) rfl (ex_neq rfl rfl rfl (qF hb32)) (uW k31 ?_)
  refine cF rfl (kS ?_)
  refine tK k30 (sK fun _ k37 => ?_)
  refine sK fun _ k38 => rL (uF (.pointer (some ⟨b27, 3, none⟩)) rfl (x2fa85_3 _ _ _) ?_)
  refine uF (.pointer (some ⟨b27, 3, none⟩)) rfl (s12fa78_0 _ _ _) ?_
  refine uL _ rfl (run_load1 s2na3 (hv.load 0 3 rfl rfl)) ?_
  by_cases hb39 : y.val.kind ≠ 3
  ·refine uG (.bool true) rfl (ex_neq rfl rfl rfl (qT hb39)) (uW k38 ?_)
   refine cT rfl (sK fun _ k40 => ?_)
   refine rL (xC j1callable68 rfl ((respNone C _ _ hv).mono ?_) rfl)
   rintro e w41 ⟨rfl, hv⟩
   refine ⟨_, rfl, ?_⟩
   simp only [zP, po]
   refine xS 3 rfl hv rssz28 rfl (by exact ⟨rfl, rfl, rfl, rfl, trivial⟩) (fun w42 hv => ?_)
   simp only [zS, zO, sp] at hv
   refine uW k40 (rR ?_)
   refine tR (bC 3 rswd28 hv rfl rfl rfl rfl ?_)
   exact ⟨C, es, M, (.mk 4 ([] : List UInt8) 0 []), _, (hE.trans hC), rfl, rpAt_leaf, hM.more (hE.trans hC), ⟨hO, .inr ⟨ns, hir0, by rw [hn9]; exact .inr ⟨by omega, y, ec, hof, .inr ⟨by omega, .inl ⟨hb39, rfl, rfl⟩⟩⟩⟩⟩, (hv.kp [2, 2] 2 3)⟩
  refine uG (.bool false) rfl (ex_neq rfl rfl rfl (qF hb39)) (uW k38 ?_)
  refine cF rfl (kS ?_)
  refine tK k37 (sK fun _ k43 => ?_)
  refine rL (uF (.pointer (some ⟨b27, 3, none⟩)) rfl (x2fa85_3 _ _ _) ?_)
  refine uF (.pointer (some ⟨b27, 6, none⟩)) rfl (s1fa78_3 _ _ _) ?_
  refine uL _ rfl (run_load1 s1na22 (hv.load 0 6 rfl rfl)) (uM rfl ?_)
  refine uM rfl ?_
  refine xC j2callable74 rfl ((listPop C _ _ sa sc y.val.texts hoks hrs hyv.tm front n hv).mono ?_) rfl
  rintro e w44 ⟨D, ka, kc, ga, gc, left, gone, hD, rfl, hokk, hrk, hokg, hrg, hleft, hgone, hv⟩
  refine ⟨_, rfl, ?_⟩
  have hll : left.length ≤ 1000000 := by rw [hleft]; exact Nat.le_trans popL_le hyv.tm
  have hgl : gone.length ≤ 1000000 := by rw [hgone]; exact Nat.le_trans popG_le hyv.tm
  refine uM rfl (uE rfl ?_)
  refine uE rfl (uA rfl ?_)
  refine uA rfl (uW k43 ?_)
  refine sK fun _ k45 => sK fun _ k46 => rL (uM rfl ?_)
  refine uG (vI (gone.length : Int)) rfl (ex_len0 Tryz.underlying22 rfl rfl) ?_
  by_cases hb47 : (gone.length : Int) > 0
  ·refine uG (.bool true) rfl (ex_gtr rfl rfl rfl (qT hb47)) (uW k46 ?_)
   refine cT rfl (rL ?_)
   refine uL (.agg #[vP v, .slice aa an ac]) rfl (lM 4 j1wd74 hv rfl rfl rfl rfl) (uM rfl ?_)
   refine uL (.agg #[vI y.stamp, .bool y.gone, vI y.expire, vI y.val.kind, vS y.val.text, .slice pa y.val.pairs.length pc, .slice sa y.val.texts.length sc, .slice za y.val.zset.length zc]) rfl (lM 0 x0wd85 hv rfl rfl rfl rfl) (uM rfl ?_)
   replace hv := hv.front 2 rfl
   simp only [eS, eZ] at hv
   replace hv := hv.front 2 rfl
   simp only [eS, eZ] at hv
   refine xC j1callable71 rfl ((clistKeep D _ _ v t m s p wb va vc sv clk es M (hM.more ((hE.trans hC).trans hD)) aa an ac key _ _ y.expire _ _ _ _ _ _ _ _ _ _ _ ka kc left (hrk.more (Base.Le.refl _) (fun _ h => h)) hokk (hll) hv).mono ?_) rfl
   rintro e w54 ⟨G49, es53, Mk52, e48, hG49, rfl, hMk51, hkp50, hv⟩
   refine ⟨_, rfl, uA rfl ?_⟩
   refine uW k45 (sK fun _ k55 => ?_)
   refine sK fun _ k56 => rL (uM rfl ?_)
   refine uG (vI (ns.length : Int)) rfl (ex_len0 Tryz.underlying149 rfl rfl) ?_
   by_cases hb57 : (ns.length : Int) > 0
   ·refine uG (.bool true) rfl (ex_gtr rfl rfl rfl (qT hb57)) (uM rfl ?_)
    iterate 3 refine uP rfl ?_
    refine uK rfl (uW k56 ?_)
    refine cT rfl (sK fun _ k58 => ?_)
    refine rL (uM rfl ?_)
    refine uM rfl ?_
    refine xC j3callable78 rfl ((respStrsR G49 _ _ ga gc gone (hrg.more hG49 (fun _ h => h)) (hgl) hv).mono ?_) rfl
    rintro e w63 ⟨D59, da60, dc61, hD59, rfl, hrp62o, hrp62, hv⟩
    refine ⟨_, rfl, ?_⟩
    simp only [zP, po]
    refine xC j1callable42 rfl ((viewDone D59 _ _ e48 5 0 ([] : List UInt8) (.slice da60 gone.length dc61) rfl rfl hv).mono ?_) rfl
    rintro e w64 ⟨xr, hxr, rfl, hv⟩
    refine ⟨_, rfl, ?_⟩
    rcases hxr with ⟨hec0, rfl⟩ | ⟨hec0, s65, rfl⟩
    ·simp only [zP, po]
     refine xS 3 rfl hv rssz28 rfl (by exact ⟨rfl, rfl, rfl, rfl, trivial⟩) (fun w66 hv => ?_)
     simp only [zS, zO, sp] at hv
     refine uW k58 (rR ?_)
     refine tR (bC 3 rswd28 hv rfl rfl rfl rfl ?_)
     exact ⟨D59, es53, Mk52, (rStrs gone), _, ((((hE.trans hC).trans hD).trans hG49).trans hD59), rfl, (rpAt_strs hrp62o (hrp62.more (Base.Le.refl _) (fun _ h => h))), hMk51.more hD59, ⟨hO.keep hkp50, .inr ⟨ns, hir0, by rw [hn9]; exact .inr ⟨by omega, y, ec, hof, .inr ⟨by omega, .inr ⟨Classical.not_not.1 hb39, e48, .inr ⟨fun h9 => (by rw [← hgone] at h9; rw [h9] at hb47; exact absurd hb47 (by decide)), by rw [← hleft]; exact hkp50⟩, by rw [if_pos (show ns ≠ [] ∨ popG y.val.texts front n = [] by rw [← hgone]; exact .inl (fun h9 => by rw [h9] at hb57; exact absurd hb57 (by decide))), ← hgone]; exact .inl ⟨by omega, rfl⟩⟩⟩⟩⟩⟩, (hv.kp [1, 1] 2 3)⟩
    simp only [zP, po]
    refine xS 3 rfl hv rssz28 rfl (by exact ⟨rfl, rfl, rfl, rfl, trivial⟩) (fun w67 hv => ?_)
    simp only [zS, zO, sp] at hv
    refine uW k58 (rR ?_)
    refine tR (bC 3 rswd28 hv rfl rfl rfl rfl ?_)
    exact ⟨D59, es53, Mk52, (.mk 1 s65 0 []), _, ((((hE.trans hC).trans hD).trans hG49).trans hD59), rfl, rpAt_leaf, hMk51.more hD59, ⟨hO.keep hkp50, .inr ⟨ns, hir0, by rw [hn9]; exact .inr ⟨by omega, y, ec, hof, .inr ⟨by omega, .inr ⟨Classical.not_not.1 hb39, e48, .inr ⟨fun h9 => (by rw [← hgone] at h9; rw [h9] at hb47; exact absurd hb47 (by decide)), by rw [← hleft]; exact hkp50⟩, by rw [if_pos (show ns ≠ [] ∨ popG y.val.texts front n = [] by rw [← hgone]; exact .inl (fun h9 => by rw [h9] at hb57; exact absurd hb57 (by decide))), ← hgone]; exact .inr ⟨by omega, rfl⟩⟩⟩⟩⟩⟩, (hv.kp [1, 1] 2 3)⟩
   refine uG (.bool false) rfl (ex_gtr rfl rfl rfl (qF hb57)) (uM rfl ?_)
   refine uM rfl ?_
   refine uG (vI (gone.length : Int)) rfl (ex_len0 Tryz.underlying22 rfl rfl) ?_
   by_cases hb68 : (gone.length : Int) = 0
   ·refine uG (.bool true) rfl (ex_eql rfl rfl rfl (qT hb68)) (uK rfl ?_)
    refine uW k56 (cT rfl ?_)
    refine sK fun _ k69 => rL (uM rfl ?_)
    refine uM rfl ?_
    refine xC j3callable78 rfl ((respStrsR G49 _ _ ga gc gone (hrg.more hG49 (fun _ h => h)) (hgl) hv).mono ?_) rfl
    rintro e w74 ⟨D70, da71, dc72, hD70, rfl, hrp73o, hrp73, hv⟩
    refine ⟨_, rfl, ?_⟩
    simp only [zP, po]
    refine xC j1callable42 rfl ((viewDone D70 _ _ e48 5 0 ([] : List UInt8) (.slice da71 gone.length dc72) rfl rfl hv).mono ?_) rfl
    rintro e w75 ⟨xr, hxr, rfl, hv⟩
    refine ⟨_, rfl, ?_⟩
    rcases hxr with ⟨hec0, rfl⟩ | ⟨hec0, s76, rfl⟩
    ·simp only [zP, po]
     refine xS 3 rfl hv rssz28 rfl (by exact ⟨rfl, rfl, rfl, rfl, trivial⟩) (fun w77 hv => ?_)
     simp only [zS, zO, sp] at hv
     refine uW k69 (rR ?_)
     refine tR (bC 3 rswd28 hv rfl rfl rfl rfl ?_)
     exact ⟨D70, es53, Mk52, (rStrs gone), _, ((((hE.trans hC).trans hD).trans hG49).trans hD70), rfl, (rpAt_strs hrp73o (hrp73.more (Base.Le.refl _) (fun _ h => h))), hMk51.more hD70, ⟨hO.keep hkp50, .inr ⟨ns, hir0, by rw [hn9]; exact .inr ⟨by omega, y, ec, hof, .inr ⟨by omega, .inr ⟨Classical.not_not.1 hb39, e48, .inr ⟨fun h9 => (by rw [← hgone] at h9; rw [h9] at hb47; exact absurd hb47 (by decide)), by rw [← hleft]; exact hkp50⟩, by rw [if_pos (show ns ≠ [] ∨ popG y.val.texts front n = [] by rw [← hgone]; exact .inr (List.eq_nil_of_length_eq_zero (by omega))), ← hgone]; exact .inl ⟨by omega, rfl⟩⟩⟩⟩⟩⟩, (hv.kp [1, 1] 2 3)⟩
    simp only [zP, po]
    refine xS 3 rfl hv rssz28 rfl (by exact ⟨rfl, rfl, rfl, rfl, trivial⟩) (fun w78 hv => ?_)
    simp only [zS, zO, sp] at hv
    refine uW k69 (rR ?_)
    refine tR (bC 3 rswd28 hv rfl rfl rfl rfl ?_)
    exact ⟨D70, es53, Mk52, (.mk 1 s76 0 []), _, ((((hE.trans hC).trans hD).trans hG49).trans hD70), rfl, rpAt_leaf, hMk51.more hD70, ⟨hO.keep hkp50, .inr ⟨ns, hir0, by rw [hn9]; exact .inr ⟨by omega, y, ec, hof, .inr ⟨by omega, .inr ⟨Classical.not_not.1 hb39, e48, .inr ⟨fun h9 => (by rw [← hgone] at h9; rw [h9] at hb47; exact absurd hb47 (by decide)), by rw [← hleft]; exact hkp50⟩, by rw [if_pos (show ns ≠ [] ∨ popG y.val.texts front n = [] by rw [← hgone]; exact .inr (List.eq_nil_of_length_eq_zero (by omega))), ← hgone]; exact .inr ⟨by omega, rfl⟩⟩⟩⟩⟩⟩, (hv.kp [1, 1] 2 3)⟩
   refine uG (.bool false) rfl (ex_eql rfl rfl rfl (qF hb68)) (uK rfl ?_)
   refine uW k56 (cF rfl ?_)
   refine kS (tK k55 ?_)
   refine sK fun _ k79 => ?_
   obtain ⟨g0, hg0⟩ : ∃ q, gone[0]? = some q := ⟨_, List.getElem?_eq_getElem (show 0 < gone.length by omega)⟩
   have hgh : gone.headD [] = g0 := by cases gone with | nil => cases hg0 | cons a l => cases hg0; rfl
   have hv9 := hv
   obtain ⟨gb, go, had, hrdg⟩ := text_reads hrg hg0
   subst had
   have hv := hv9
   clear hv9
   refine rL (uM rfl ?_)
   refine uM rfl ?_
   refine uG (.pointer (some ⟨gb, go + 0, none⟩)) rfl (ex_index rfl rfl rfl (run_idx1 (k := 0) Tryz.underlying22 s9es22 (by omega))) ?_
   refine uL _ rfl (run_load1 s9na9 (hrdg _ _ _ hG49 no_res hv 0 _ rfl)) ?_
   refine xC rtcallable69 rfl ((respStr G49 _ _ g0 hv).mono ?_) rfl
   rintro e w80 ⟨rfl, hv⟩
   refine ⟨_, rfl, ?_⟩
   simp only [zP, po]
   refine xC j1callable42 rfl ((viewDone G49 _ _ e48 3 0 g0 (vN) rfl rfl hv).mono ?_) rfl
   rintro e w81 ⟨xr, hxr, rfl, hv⟩
   refine ⟨_, rfl, ?_⟩
   rcases hxr with ⟨hec0, rfl⟩ | ⟨hec0, s82, rfl⟩
   ·simp only [zP, po]
    refine xS 3 rfl hv rssz28 rfl (by exact ⟨rfl, rfl, rfl, rfl, trivial⟩) (fun w83 hv => ?_)
    simp only [zS, zO, sp] at hv
    refine uW k79 (rR ?_)
    refine bC 3 rswd28 hv rfl rfl rfl rfl (⟨G49, es53, Mk52, (.mk 3 g0 0 []), _, (((hE.trans hC).trans hD).trans hG49), rfl, rpAt_leaf, hMk51.more (Base.Le.refl _), ⟨hO.keep hkp50, .inr ⟨ns, hir0, by rw [hn9]; exact .inr ⟨by omega, y, ec, hof, .inr ⟨by omega, .inr ⟨Classical.not_not.1 hb39, e48, .inr ⟨fun h9 => (by rw [← hgone] at h9; rw [h9] at hb47; exact absurd hb47 (by decide)), by rw [← hleft]; exact hkp50⟩, by rw [if_neg (show ¬ (ns ≠ [] ∨ popG y.val.texts front n = []) by rw [← hgone]; rintro (h9 | h9); exact h9 (List.eq_nil_of_length_eq_zero (by omega)); rw [h9] at hg0; cases hg0), ← hgone, hgh]; exact .inl ⟨by omega, rfl⟩⟩⟩⟩⟩⟩, (hv.kp [1, 1] 2 3)⟩)
   simp only [zP, po]
   refine xS 3 rfl hv rssz28 rfl (by exact ⟨rfl, rfl, rfl, rfl, trivial⟩) (fun w84 hv => ?_)
   simp only [zS, zO, sp] at hv
   refine uW k79 (rR ?_)
   refine bC 3 rswd28 hv rfl rfl rfl rfl (⟨G49, es53, Mk52, (.mk 1 s82 0 []), _, (((hE.trans hC).trans hD).trans hG49), rfl, rpAt_leaf, hMk51.more (Base.Le.refl _), ⟨hO.keep hkp50, .inr ⟨ns, hir0, by rw [hn9]; exact .inr ⟨by omega, y, ec, hof, .inr ⟨by omega, .inr ⟨Classical.not_not.1 hb39, e48, .inr ⟨fun h9 => (by rw [← hgone] at h9; rw [h9] at hb47; exact absurd hb47 (by decide)), by rw [← hleft]; exact hkp50⟩, by rw [if_neg (show ¬ (ns ≠ [] ∨ popG y.val.texts front n = []) by rw [← hgone]; rintro (h9 | h9); exact h9 (List.eq_nil_of_length_eq_zero (by omega)); rw [h9] at hg0; cases hg0), ← hgone, hgh]; exact .inr ⟨by omega, rfl⟩⟩⟩⟩⟩⟩, (hv.kp [1, 1] 2 3)⟩)
  refine uG (.bool false) rfl (ex_gtr rfl rfl rfl (qF hb47)) (uW k46 ?_)
  refine cF rfl (kS ?_)
  refine tK k45 (sK fun _ k85 => ?_)
  refine sK fun _ k86 => rL (uM rfl ?_)
  refine uG (vI (ns.length : Int)) rfl (ex_len0 Tryz.underlying149 rfl rfl) ?_
  by_cases hb87 : (ns.length : Int) > 0
  ·refine uG (.bool true) rfl (ex_gtr rfl rfl rfl (qT hb87)) (uM rfl ?_)
   iterate 3 refine uP rfl ?_
   refine uK rfl (uW k86 ?_)
   refine cT rfl (sK fun _ k88 => ?_)
   refine rL (uM rfl ?_)
   refine uM rfl ?_
   refine xC j3callable78 rfl ((respStrsR D _ _ ga gc gone (hrg.more (Base.Le.refl _) (fun _ h => h)) (hgl) hv).mono ?_) rfl
   rintro e w93 ⟨D89, da90, dc91, hD89, rfl, hrp92o, hrp92, hv⟩
   refine ⟨_, rfl, ?_⟩
   simp only [zP, po]
   refine xC j1callable42 rfl ((viewDone D89 _ _ ec 5 0 ([] : List UInt8) (.slice da90 gone.length dc91) rfl rfl hv).mono ?_) rfl
   rintro e w94 ⟨xr, hxr, rfl, hv⟩
   refine ⟨_, rfl, ?_⟩
   rcases hxr with ⟨hec0, rfl⟩ | ⟨hec0, s95, rfl⟩
   ·simp only [zP, po]
    refine xS 3 rfl hv rssz28 rfl (by exact ⟨rfl, rfl, rfl, rfl, trivial⟩) (fun w96 hv => ?_)
    simp only [zS, zO, sp] at hv
    refine uW k88 (rR ?_)
    refine tR (bC 3 rswd28 hv rfl rfl rfl rfl ?_)
    exact ⟨D89, es, M, (rStrs gone), _, (((hE.trans hC).trans hD).trans hD89), rfl, (rpAt_strs hrp92o (hrp92.more (Base.Le.refl _) (fun _ h => h))), hM.more (((hE.trans hC).trans hD).trans hD89), ⟨hO, .inr ⟨ns, hir0, by rw [hn9]; exact .inr ⟨by omega, y, ec, hof, .inr ⟨by omega, .inr ⟨Classical.not_not.1 hb39, ec, .inl ⟨by rw [← hgone]; exact List.eq_nil_of_length_eq_zero (by omega), rfl, by omega⟩, by rw [if_pos (show ns ≠ [] ∨ popG y.val.texts front n = [] by rw [← hgone]; exact .inl (fun h9 => by rw [h9] at hb87; exact absurd hb87 (by decide))), ← hgone]; exact .inl ⟨by omega, rfl⟩⟩⟩⟩⟩⟩, (hv.kp [2, 2] 2 3)⟩
   simp only [zP, po]
   refine xS 3 rfl hv rssz28 rfl (by exact ⟨rfl, rfl, rfl, rfl, trivial⟩) (fun w97 hv => ?_)
   simp only [zS, zO, sp] at hv
   refine uW k88 (rR ?_)
   refine tR (bC 3 rswd28 hv rfl rfl rfl rfl ?_)
   exfalso; omega
  refine uG (.bool false) rfl (ex_gtr rfl rfl rfl (qF hb87)) (uM rfl ?_)
  refine uM rfl ?_
  refine uG (vI (gone.length : Int)) rfl (ex_len0 Tryz.underlying22 rfl rfl) ?_
  by_cases hb98 : (gone.length : Int) = 0
  ·refine uG (.bool true) rfl (ex_eql rfl rfl rfl (qT hb98)) (uK rfl ?_)
   refine uW k86 (cT rfl ?_)
   refine sK fun _ k99 => rL (uM rfl ?_)
   refine uM rfl ?_
   refine xC j3callable78 rfl ((respStrsR D _ _ ga gc gone (hrg.more (Base.Le.refl _) (fun _ h => h)) (hgl) hv).mono ?_) rfl
   rintro e w104 ⟨D100, da101, dc102, hD100, rfl, hrp103o, hrp103, hv⟩
   refine ⟨_, rfl, ?_⟩
   simp only [zP, po]
   refine xC j1callable42 rfl ((viewDone D100 _ _ ec 5 0 ([] : List UInt8) (.slice da101 gone.length dc102) rfl rfl hv).mono ?_) rfl
   rintro e w105 ⟨xr, hxr, rfl, hv⟩
   refine ⟨_, rfl, ?_⟩
   rcases hxr with ⟨hec0, rfl⟩ | ⟨hec0, s106, rfl⟩
   ·simp only [zP, po]
    refine xS 3 rfl hv rssz28 rfl (by exact ⟨rfl, rfl, rfl, rfl, trivial⟩) (fun w107 hv => ?_)
    simp only [zS, zO, sp] at hv
    refine uW k99 (rR ?_)
    refine tR (bC 3 rswd28 hv rfl rfl rfl rfl ?_)
    exact ⟨D100, es, M, (rStrs gone), _, (((hE.trans hC).trans hD).trans hD100), rfl, (rpAt_strs hrp103o (hrp103.more (Base.Le.refl _) (fun _ h => h))), hM.more (((hE.trans hC).trans hD).trans hD100), ⟨hO, .inr ⟨ns, hir0, by rw [hn9]; exact .inr ⟨by omega, y, ec, hof, .inr ⟨by omega, .inr ⟨Classical.not_not.1 hb39, ec, .inl ⟨by rw [← hgone]; exact List.eq_nil_of_length_eq_zero (by omega), rfl, by omega⟩, by rw [if_pos (show ns ≠ [] ∨ popG y.val.texts front n = [] by rw [← hgone]; exact .inr (List.eq_nil_of_length_eq_zero (by omega))), ← hgone]; exact .inl ⟨by omega, rfl⟩⟩⟩⟩⟩⟩, (hv.kp [2, 2] 2 3)⟩
   simp only [zP, po]
   refine xS 3 rfl hv rssz28 rfl (by exact ⟨rfl, rfl, rfl, rfl, trivial⟩) (fun w108 hv => ?_)
   simp only [zS, zO, sp] at hv
   refine uW k99 (rR ?_)
   refine tR (bC 3 rswd28 hv rfl rfl rfl rfl ?_)
   exfalso; omega
  refine uG (.bool false) rfl (ex_eql rfl rfl rfl (qF hb98)) (uK rfl ?_)
  refine uW k86 (cF rfl ?_)
  refine kS (tK k85 ?_)
  refine sK fun _ k109 => ?_
  obtain ⟨g0, hg0⟩ : ∃ q, gone[0]? = some q := ⟨_, List.getElem?_eq_getElem (show 0 < gone.length by omega)⟩
  have hgh : gone.headD [] = g0 := by cases gone with | nil => cases hg0 | cons a l => cases hg0; rfl
  have hv9 := hv
  obtain ⟨gb, go, had, hrdg⟩ := text_reads hrg hg0
  subst had
  have hv := hv9
  clear hv9
  refine rL (uM rfl ?_)
  refine uM rfl ?_
  refine uG (.pointer (some ⟨gb, go + 0, none⟩)) rfl (ex_index rfl rfl rfl (run_idx1 (k := 0) Tryz.underlying22 s9es22 (by omega))) ?_
  refine uL _ rfl (run_load1 s9na9 (hrdg _ _ _ (Base.Le.refl _) no_res hv 0 _ rfl)) ?_
  refine xC rtcallable69 rfl ((respStr D _ _ g0 hv).mono ?_) rfl
  rintro e w110 ⟨rfl, hv⟩
  refine ⟨_, rfl, ?_⟩
  simp only [zP, po]
  refine xC j1callable42 rfl ((viewDone D _ _ ec 3 0 g0 (vN) rfl rfl hv).mono ?_) rfl
  rintro e w111 ⟨xr, hxr, rfl, hv⟩
  refine ⟨_, rfl, ?_⟩
  rcases hxr with ⟨hec0, rfl⟩ | ⟨hec0, s112, rfl⟩
  ·simp only [zP, po]
   refine xS 3 rfl hv rssz28 rfl (by exact ⟨rfl, rfl, rfl, rfl, trivial⟩) (fun w113 hv => ?_)
   simp only [zS, zO, sp] at hv
   refine uW k109 (rR ?_)
   refine bC 3 rswd28 hv rfl rfl rfl rfl (⟨D, es, M, (.mk 3 g0 0 []), _, ((hE.trans hC).trans hD), rfl, rpAt_leaf, hM.more ((hE.trans hC).trans hD), ⟨hO, .inr ⟨ns, hir0, by rw [hn9]; exact .inr ⟨by omega, y, ec, hof, .inr ⟨by omega, .inr ⟨Classical.not_not.1 hb39, ec, .inl ⟨by rw [← hgone]; exact List.eq_nil_of_length_eq_zero (by omega), rfl, by omega⟩, by rw [if_neg (show ¬ (ns ≠ [] ∨ popG y.val.texts front n = []) by rw [← hgone]; rintro (h9 | h9); exact h9 (List.eq_nil_of_length_eq_zero (by omega)); rw [h9] at hg0; cases hg0), ← hgone, hgh]; exact .inl ⟨by omega, rfl⟩⟩⟩⟩⟩⟩, (hv.kp [2, 2] 2 3)⟩)
  simp only [zP, po]
  refine xS 3 rfl hv rssz28 rfl (by exact ⟨rfl, rfl, rfl, rfl, trivial⟩) (fun w114 hv => ?_)
  simp only [zS, zO, sp] at hv
  refine uW k109 (rR ?_)
  refine bC 3 rswd28 hv rfl rfl rfl rfl ?_
  exfalso; omega
 refine sK fun _ k115 => rL (uM rfl ?_)
 refine uG (vI (ns.length : Int)) rfl (ex_len0 Tryz.underlying149 rfl rfl) ?_
 by_cases hb116 : (ns.length : Int) > 0
 ·refine uG (.bool true) rfl (ex_gtr rfl rfl rfl (qT hb116)) (uW k115 ?_)
  refine cT rfl ?_
  obtain ⟨n0, hn0⟩ : ∃ n, ns[0]? = some n := ⟨_, List.getElem?_eq_getElem (show 0 < ns.length by omega)⟩
  have hv9 := hv
  obtain ⟨ib, io, had, hrd0⟩ := int_reads hri hn0
  subst had
  have hv := hv9
  clear hv9
  refine rL (uM rfl ?_)
  refine uG (.pointer (some ⟨ib, io + 0, none⟩)) rfl (ex_index rfl rfl rfl (run_idx1 (k := 0) Tryz.underlying149 s11es149 (by omega))) ?_
  refine uL _ rfl (run_load1 s2na3 (hrd0 _ _ _ (Base.Le.refl _) no_res hv 0 _ rfl)) (uA rfl ?_)
  refine uZ (then_normal (hJ16 n0 (some ⟨ib, io, none⟩) _ _ _ _ _ _ _ (headD_at hn0) hv))
 refine uG (.bool false) rfl (ex_gtr rfl rfl rfl (qF hb116)) (uW k115 ?_)
 refine cF rfl (kS ?_)
 exact then_normal (hJ16 1 ia _ _ _ _ _ _ _ (headD_no (by omega)) hv)
theorem j3al153 : AL Tryz.prog 153 [vS [], vS []] := fun w => by kernel_rfl
theorem j3sz153 : (Tryz.prog.info? 153).map (·.size) = some 2 := by kernel_rfl
theorem j3al154 : AL Tryz.prog 154 [.bool false, .bool false] := fun w => by kernel_rfl
theorem j3ea154 (w : World) : (sizeOf 4).run Tryz.prog w = .ok 1 w := by kernel_rfl
theorem j3ua154 : Tryz.prog.underlying 154 = some (.array 2 4) := by kernel_rfl
theorem j3sz4 : (Tryz.prog.info? 4).map (·.size) = some 1 := by kernel_rfl
theorem j3ea153 (w : World) : (sizeOf 9).run Tryz.prog w = .ok 1 w := by kernel_rfl
theorem j3ua153 : Tryz.prog.underlying 153 = some (.array 2 9) := by kernel_rfl
theorem j3sa153 (w : World) (b o : Nat) : (Instr.sliceAt 153 (.pointer (some ⟨b, o, none⟩)) none none none).run Tryz.prog w = .ok (.slice (some ⟨b, o, none⟩) 2 2) w := by kernel_rfl
theorem j3mk28 : (Tryz.prog.info? 28).map (fun i => (i.zero, i.size, i.bytes)) = some (some (.agg #[vI 0, vS [], vI 0, vN]), 4, 56) := by kernel_rfl
theorem j3el26 : Elem Tryz.prog 26 28 (.agg #[vI 0, vS [], vI 0, vN]) 4 56 := elem_of Tryz.underlying26 j3mk28 (by rfl) (by decide)
theorem j3callable77 : Callable Tryz.prog 77 := cb Tryz.func77 (by kernel_rfl)
theorem clistFind (B : Base) (H : List Res) (w : World) (v t m s p wb : Nat) (va : Option Addr) (vc : Nat) (sv : Value) (clk : Int) (es : List (List UInt8 × Value)) (M : List (List UInt8 × Ver)) (hM : VM B es M) (hO : OkM M) (aa : Option Addr) (an ac : Nat) (key x9 : List UInt8) (xa : Option Addr) (xc : Nat) (xs : Tx) (hokx : SliceOk xa xs.length xc) (hrx : RdV B [] xa (textCells xs)) (hmx : xs.length ≤ 10000) (hxl : ∀ x ∈ xs, x.length ≤ 9223372036854775807) (hN : NumB B) (hv : Inv B (Res.cell v [.iface 62 (vP t)] 36 :: txR t m s p wb va vc sv clk es :: H) w) :
  Calls Tryz.prog 48 #[.agg #[vP v, .slice aa an ac], vS key, vS x9, .slice xa xs.length xc] w fun e w' => ∃ C es' M' r cs, B.Le C ∧ e = .returned (.agg cs.toArray) ∧ RpAt C r cs ∧ VM C es' M' ∧ CmdR M M' r ∧ Inv C (Res.cell v [.iface 62 (vP t)] 36 :: txR t m s p wb va vc sv clk es' :: H) w' := by
 refine cW Tryz.func48 rfl Tryz.ntmps48 ?_
 simp only [al]
 refine sK fun _ k1 => rL (sl_box (L := [vP v, .slice aa an ac]) tV (wn rfl) rfl rfl hv (fun w => by kernel_rfl) (fun b2 w3 hv => ?_))
 simp only [zP, po]
 refine sl_alloc tV (wn rfl) rfl hv j3al28 (fun b4 w5 hv => ?_)
 refine uW k1 (sK fun _ k6 => ?_)
 refine rL (uG (.agg #[vS [49], vS [49]]) rfl (ex_buildN (vs := #[(0, vS [49]), (1, vS [49])]) rfl (by simp only [List.map_toArray, List.map_cons, List.map_nil]; rfl) (by kernel_rfl)) ?_)
 refine sl_alloc tV (wn rfl) rfl hv j3al153 (fun b7 w8 hv => ?_)
 simp only [zP, po]
 refine xS 0 rfl hv j3sz153 rfl (by exact ⟨rfl, rfl, trivial⟩) (fun w9 hv => ?_)
 simp only [zO, sp] at hv
 refine uW k6 (sK fun _ k10 => ?_)
 refine rL (sl_alloc tV (wn rfl) rfl hv j3al154 (fun b11 w12 hv => ?_))
 refine uW k10 (sK fun _ k13 => ?_)
 refine sK fun _ k14 => rL (uA rfl ?_)
 refine uW k14 (bB ?_)
 gi_loopw [11] (fun x11 wr => ∃ (k : Nat) (t0 t1 : List UInt8) (b0 b1 : Bool), x11 = vI ((2 * k : Nat) : Int) ∧ 2 * k ≤ xs.length ∧ Inv B (Res.cell b11 [.bool b0, .bool b1] 154 :: Res.cell b7 [vS t0, vS t1] 153 :: Res.cell b4 [vI 0, vS [], vI 0, vN] 28 :: Res.cell b2 [vP v, .slice aa an ac] 74 :: Res.cell v [.iface 62 (vP t)] 36 :: txR t m s p wb va vc sv clk es :: H) wr) (fun x11 _ => xs.length - (intOf x11).toNat)
 case atStart => exact ⟨0, ([49] : List UInt8), ([49] : List UInt8), false, false, rfl, Nat.zero_le _, hv⟩
 case round =>
  obtain ⟨k, t0, t1, b0, b1, rfl, hk, hv⟩ := hrel
  refine sK fun _ k16 => sK fun _ k17 => rL (uM rfl ?_)
  refine uM rfl ?_
  refine uG (vI (xs.length : Int)) rfl (ex_len0 Tryz.underlying22 rfl rfl) ?_
  by_cases hb18 : ((2 * k : Nat) : Int) < (xs.length : Int)
  ·refine uG (.bool true) rfl (ex_lss rfl rfl rfl (qT hb18)) (uW k17 ?_)
   refine cT rfl (kS ?_)
   refine tK k16 (sK fun _ k19 => ?_)
   refine bB (sK fun _ k20 => ?_)
   obtain ⟨x, hx⟩ : ∃ x, xs[(2 * k : Nat)]? = some x := ⟨_, List.getElem?_eq_getElem (show (2 * k : Nat) < xs.length by omega)⟩
   obtain ⟨xb, xo, had, hrdx⟩ := text_reads hrx hx
   subst had
   refine rL (uM rfl ?_)
   refine uM rfl ?_
   refine uG (.pointer (some ⟨xb, xo + (2 * k : Nat), none⟩)) rfl (ex_index rfl rfl rfl (run_idx1 (k := (2 * k : Nat)) Tryz.underlying22 s9es22 (by omega))) ?_
   refine uL _ rfl (run_load1 s9na9 (hrdx _ _ _ (Base.Le.refl _) no_res hv 0 _ rfl)) ?_
   refine sl_rowN (pv := #[(0, vS [82, 65, 78, 75]), (1, vS [67, 79, 85, 78, 84])]) (L := [vS [82, 65, 78, 75], vS [67, 79, 85, 78, 84]]) (e := 9) tV (wn rfl) rfl (by simp only [List.map_toArray, List.map_cons, List.map_nil]; rfl) hv (fun w => by kernel_rfl) (fun b21 w22 hv => ?_)
   simp only [zP, po]
   obtain ⟨K23, hK23, hv, hrkK23, hokK23, -⟩ := (hv.cellRow (n := 2) (c := 2) (size := 1) rfl (by decide) (by decide)).rowBy
   refine xC j1callable44 rfl ((viewIs K23 _ _ x _ 2 [([82, 65, 78, 75] : List UInt8), ([67, 79, 85, 78, 84] : List UInt8)] hrkK23 (Nat.le_of_ble_eq_true rfl) (hxl x (List.mem_of_getElem? hx)) hv).mono ?_) rfl
   rintro e w26 ⟨ri24, rfl, his25, hv⟩
   refine ⟨_, rfl, ?_⟩
   rcases is2 his25 with ⟨rfl, -⟩ | ⟨rfl, -⟩ | ⟨rfl, -⟩
   ·refine uA rfl (uW k20 ?_)
    refine sK fun _ k27 => sK fun _ k28 => rL (uM rfl ?_)
    refine uG (.bool true) rfl (ex_lss rfl rfl rfl (by decide)) (uM rfl ?_)
    iterate 3 refine uP rfl ?_
    refine uK rfl (uM rfl ?_)
    iterate 5 refine uP rfl ?_
    refine uK rfl (uW k28 ?_)
    refine cT rfl (sK fun _ k29 => ?_)
    refine rL (xC rscallable25 rfl ((viewWrong K23 _ _ 42 hv).mono ?_) rfl)
    rintro e w31 ⟨s30, rfl, hv⟩
    refine ⟨_, rfl, ?_⟩
    simp only [zP, po]
    refine xS 2 rfl hv rssz28 rfl (by exact ⟨rfl, rfl, rfl, rfl, trivial⟩) (fun w32 hv => ?_)
    simp only [zS, zO, sp] at hv
    refine uW k29 (rR ?_)
    refine tR (bZ ?_)
    refine tR (tR ?_)
    refine bZ (tR ?_)
    refine bC 2 rswd28 hv rfl rfl rfl rfl (⟨K23, es, M, (.mk 1 s30 0 []), _, hK23, rfl, rpAt_leaf, hM.more hK23, ⟨hO, fun _ => rfl⟩, (hv.kp [5, 5] 2 4)⟩)
   ·refine uA rfl (uW k20 ?_)
    refine sK fun _ k33 => sK fun _ k34 => rL (uM rfl ?_)
    refine uG (.bool false) rfl (ex_lss rfl rfl rfl (by decide)) (uM rfl ?_)
    refine uM rfl ?_
    refine uG (vP b11) rfl (ex_index rfl rfl rfl (run_idxA1 (k := 0) j3ua154 j3ea154 (by omega))) ?_
    refine uL _ rfl (run_load1 s2na4 (hv.load 0 0 rfl rfl)) (uK rfl ?_)
    refine uM rfl ?_
    cases b0
    ·refine uM rfl ?_
     refine uG (vI ((2 * k + 1 : Nat) : Int)) rfl (ex_add rfl rfl rfl (by rw [i64_in (by omega)]; omega)) ?_
     refine uM rfl ?_
     refine uG (vI (xs.length : Int)) rfl (ex_len0 Tryz.underlying22 rfl rfl) ?_
     by_cases hb35 : ((2 * k + 1 : Nat) : Int) = (xs.length : Int)
     ·refine uG (.bool true) rfl (ex_eql rfl rfl rfl (qT hb35)) (uK rfl ?_)
      refine uW k34 (cT rfl ?_)
      refine sK fun _ k36 => rL (xC rscallable25 rfl ((viewWrong K23 _ _ 42 hv).mono ?_) rfl)
      rintro e w38 ⟨s37, rfl, hv⟩
      refine ⟨_, rfl, ?_⟩
      simp only [zP, po]
      refine xS 2 rfl hv rssz28 rfl (by exact ⟨rfl, rfl, rfl, rfl, trivial⟩) (fun w39 hv => ?_)
      simp only [zS, zO, sp] at hv
      refine uW k36 (rR ?_)
      refine tR (bZ ?_)
      refine tR (tR ?_)
      refine bZ (tR ?_)
      refine bC 2 rswd28 hv rfl rfl rfl rfl (⟨K23, es, M, (.mk 1 s37 0 []), _, hK23, rfl, rpAt_leaf, hM.more hK23, ⟨hO, fun _ => rfl⟩, (hv.kp [5, 5] 2 4)⟩)
     refine uG (.bool false) rfl (ex_eql rfl rfl rfl (qF hb35)) (uK rfl ?_)
     refine uW k34 (cF rfl ?_)
     refine kS (tK k33 ?_)
     obtain ⟨x2, hx2⟩ : ∃ x, xs[(2 * k + 1 : Nat)]? = some x := ⟨_, List.getElem?_eq_getElem (show (2 * k + 1 : Nat) < xs.length by omega)⟩
     obtain ⟨b9, o9, had9, hrdx2⟩ := text_reads hrx hx2
     cases had9
     refine rW mixed [8, 10] [0,1,2,3,4,5,6,7,8,9,10] 122 rfl (by kernel_rfl) hv ?_
     simp only [qm, opAt]
     refine dM (vI 0) rfl (dM (vI 0) rfl ?_)
     refine dM (.slice (some ⟨xb, xo, none⟩) xs.length xc) rfl ?_
     simp only [zP, po]
     refine dM (vI ((2 * k : Nat) : Int)) rfl (dG (vI ((2 * k + 1 : Nat) : Int)) rfl (ex_add rfl rfl rfl (by rw [i64_in (by omega)]; omega)) ?_)
     refine dG (.pointer (some ⟨xb, xo + (2 * k + 1 : Nat), none⟩)) rfl (ex_index rfl rfl rfl (run_idx1 (k := (2 * k + 1 : Nat)) Tryz.underlying22 s9es22 (by omega))) ?_
     simp only [zP, po]
     refine dF _ rfl (fun hv => ex_load rfl rfl (run_load1 s9na9 (hrdx2 _ _ _ hK23 no_res hv 0 _ rfl))) fun f40 hf40 => dG (vP b11) rfl (ex_index rfl rfl rfl (run_idxA1 (k := 0) j3ua154 j3ea154 (by omega))) (dS rfl fun w41 hv => ?_)
     refine mV 0 (.bool true) rfl hv j3sz4 rfl rfl (fun w42 hv => ?_)
     simp only [zO, sp] at hv
     refine dV hv (fC (fun ww hv => hf40 ww (ex_load rfl rfl (run_load1 s9na9 (hrdx2 _ _ _ hK23 no_res hv 0 _ rfl)))) fN) ?_
     simp only [zP, po]
     refine dG (vP b7) rfl (ex_index rfl rfl rfl (run_idxA1 (k := 0) j3ua153 j3ea153 (by omega))) (dS rfl fun w43 hv => ?_)
     refine mV 1 (vS x2) rfl hv s12sz9 rfl rfl (fun w44 hv => ?_)
     simp only [zS, zO, sp] at hv
     refine dV hv (fK rfl fN) (dE fun w45 hv => ?_)
     simp only [zP, po]
     refine bN (tK k19 ?_)
     refine rL (uM rfl ?_)
     refine uG (vI ((2 * (k + 1) : Nat) : Int)) rfl (ex_add rfl rfl rfl (by rw [i64_in (by omega)]; omega)) (uA rfl ?_)
     refine uZ (then_normal ?_)
     go_roundw
     case rel => exact ⟨k + 1, x2, t1, true, b1, rfl, by omega, ((((((((hv.front 5 rfl).front 5 rfl).front 5 rfl).front 5 rfl).front 5 rfl).front 5 rfl)).weak hK23)⟩
     case measure => show xs.length - ((2 * (k + 1) : Nat) : Int).toNat < xs.length - ((2 * k : Nat) : Int).toNat; omega
    iterate 5 refine uP rfl ?_
    refine uK rfl (uW k34 ?_)
    refine cT rfl (sK fun _ k46 => ?_)
    refine rL (xC rscallable25 rfl ((viewWrong K23 _ _ 42 hv).mono ?_) rfl)
    rintro e w48 ⟨s47, rfl, hv⟩
    refine ⟨_, rfl, ?_⟩
    simp only [zP, po]
    refine xS 2 rfl hv rssz28 rfl (by exact ⟨rfl, rfl, rfl, rfl, trivial⟩) (fun w49 hv => ?_)
    simp only [zS, zO, sp] at hv
    refine uW k46 (rR ?_)
    refine tR (bZ ?_)
    refine tR (tR ?_)
    refine bZ (tR ?_)
    refine bC 2 rswd28 hv rfl rfl rfl rfl (⟨K23, es, M, (.mk 1 s47 0 []), _, hK23, rfl, rpAt_leaf, hM.more hK23, ⟨hO, fun _ => rfl⟩, (hv.kp [5, 5] 2 4)⟩)
   refine uA rfl (uW k20 ?_)
   refine sK fun _ k50 => sK fun _ k51 => rL (uM rfl ?_)
   refine uG (.bool false) rfl (ex_lss rfl rfl rfl (by decide)) (uM rfl ?_)
   refine uM rfl ?_
   refine uG (.pointer (some ⟨b11, 1, none⟩)) rfl (ex_index rfl rfl rfl (run_idxA1 (k := 1) j3ua154 j3ea154 (by omega))) ?_
   refine uL _ rfl (run_load1 s2na4 (hv.load 0 1 rfl rfl)) (uK rfl ?_)
   refine uM rfl ?_
   cases b1
   ·refine uM rfl ?_
    refine uG (vI ((2 * k + 1 : Nat) : Int)) rfl (ex_add rfl rfl rfl (by rw [i64_in (by omega)]; omega)) ?_
    refine uM rfl ?_
    refine uG (vI (xs.length : Int)) rfl (ex_len0 Tryz.underlying22 rfl rfl) ?_
    by_cases hb52 : ((2 * k + 1 : Nat) : Int) = (xs.length : Int)
    ·refine uG (.bool true) rfl (ex_eql rfl rfl rfl (qT hb52)) (uK rfl ?_)
     refine uW k51 (cT rfl ?_)
     refine sK fun _ k53 => rL (xC rscallable25 rfl ((viewWrong K23 _ _ 42 hv).mono ?_) rfl)
     rintro e w55 ⟨s54, rfl, hv⟩
     refine ⟨_, rfl, ?_⟩
     simp only [zP, po]
     refine xS 2 rfl hv rssz28 rfl (by exact ⟨rfl, rfl, rfl, rfl, trivial⟩) (fun w56 hv => ?_)
     simp only [zS, zO, sp] at hv
     refine uW k53 (rR ?_)
     refine tR (bZ ?_)
     refine tR (tR ?_)
     refine bZ (tR ?_)
     refine bC 2 rswd28 hv rfl rfl rfl rfl (⟨K23, es, M, (.mk 1 s54 0 []), _, hK23, rfl, rpAt_leaf, hM.more hK23, ⟨hO, fun _ => rfl⟩, (hv.kp [5, 5] 2 4)⟩)
    refine uG (.bool false) rfl (ex_eql rfl rfl rfl (qF hb52)) (uK rfl ?_)
    refine uW k51 (cF rfl ?_)
    refine kS (tK k50 ?_)
    obtain ⟨x2, hx2⟩ : ∃ x, xs[(2 * k + 1 : Nat)]? = some x := ⟨_, List.getElem?_eq_getElem (show (2 * k + 1 : Nat) < xs.length by omega)⟩
    obtain ⟨b9, o9, had9, hrdx2⟩ := text_reads hrx hx2
    cases had9
    refine rW mixed [8, 10] [0,1,2,3,4,5,6,7,8,9,10] 122 rfl (by kernel_rfl) hv ?_
    simp only [qm, opAt]
    refine dM (vI 1) rfl (dM (vI 1) rfl ?_)
    refine dM (.slice (some ⟨xb, xo, none⟩) xs.length xc) rfl ?_
    simp only [zP, po]
    refine dM (vI ((2 * k : Nat) : Int)) rfl (dG (vI ((2 * k + 1 : Nat) : Int)) rfl (ex_add rfl rfl rfl (by rw [i64_in (by omega)]; omega)) ?_)
    refine dG (.pointer (some ⟨xb, xo + (2 * k + 1 : Nat), none⟩)) rfl (ex_index rfl rfl rfl (run_idx1 (k := (2 * k + 1 : Nat)) Tryz.underlying22 s9es22 (by omega))) ?_
    simp only [zP, po]
    refine dF _ rfl (fun hv => ex_load rfl rfl (run_load1 s9na9 (hrdx2 _ _ _ hK23 no_res hv 0 _ rfl))) fun f57 hf57 => dG (.pointer (some ⟨b11, 1, none⟩)) rfl (ex_index rfl rfl rfl (run_idxA1 (k := 1) j3ua154 j3ea154 (by omega))) (dS rfl fun w58 hv => ?_)
    refine mV 0 (.bool true) rfl hv j3sz4 rfl rfl (fun w59 hv => ?_)
    simp only [zO, sp] at hv
    refine dV hv (fC (fun ww hv => hf57 ww (ex_load rfl rfl (run_load1 s9na9 (hrdx2 _ _ _ hK23 no_res hv 0 _ rfl)))) fN) ?_
    simp only [zP, po]
    refine dG (.pointer (some ⟨b7, 1, none⟩)) rfl (ex_index rfl rfl rfl (run_idxA1 (k := 1) j3ua153 j3ea153 (by omega))) (dS rfl fun w60 hv => ?_)
    refine mV 1 (vS x2) rfl hv s12sz9 rfl rfl (fun w61 hv => ?_)
    simp only [zS, zO, sp] at hv
    refine dV hv (fK rfl fN) (dE fun w62 hv => ?_)
    simp only [zP, po]
    refine bN (tK k19 ?_)
    refine rL (uM rfl ?_)
    refine uG (vI ((2 * (k + 1) : Nat) : Int)) rfl (ex_add rfl rfl rfl (by rw [i64_in (by omega)]; omega)) (uA rfl ?_)
    refine uZ (then_normal ?_)
    go_roundw
    case rel => exact ⟨k + 1, t0, x2, b0, true, rfl, by omega, ((((((((hv.front 5 rfl).front 5 rfl).front 5 rfl).front 5 rfl).front 5 rfl).front 5 rfl)).weak hK23)⟩
    case measure => show xs.length - ((2 * (k + 1) : Nat) : Int).toNat < xs.length - ((2 * k : Nat) : Int).toNat; omega
   iterate 5 refine uP rfl ?_
   refine uK rfl (uW k51 ?_)
   refine cT rfl (sK fun _ k63 => ?_)
   refine rL (xC rscallable25 rfl ((viewWrong K23 _ _ 42 hv).mono ?_) rfl)
   rintro e w65 ⟨s64, rfl, hv⟩
   refine ⟨_, rfl, ?_⟩
   simp only [zP, po]
   refine xS 2 rfl hv rssz28 rfl (by exact ⟨rfl, rfl, rfl, rfl, trivial⟩) (fun w66 hv => ?_)
   simp only [zS, zO, sp] at hv
   refine uW k63 (rR ?_)
   refine tR (bZ ?_)
   refine tR (tR ?_)
   refine bZ (tR ?_)
   refine bC 2 rswd28 hv rfl rfl rfl rfl (⟨K23, es, M, (.mk 1 s64 0 []), _, hK23, rfl, rpAt_leaf, hM.more hK23, ⟨hO, fun _ => rfl⟩, (hv.kp [5, 5] 2 4)⟩)
  refine uG (.bool false) rfl (ex_lss rfl rfl rfl (qF hb18)) (uW k17 ?_)
  refine cF rfl (xE ?_)
  refine tX (tX ?_)
  refine bH (tK k13 ?_)
  refine sK fun _ k67 => rL (uG (.slice (some ⟨b7, 0, none⟩) 2 2) rfl (ex_slice rfl rfl rfl rfl rfl (j3sa153 _ _ _)) ?_)
  replace hv := hv.front 1 rfl
  simp only [eS, eZ] at hv
  obtain ⟨K68, hK68, hv, hrkK68, hokK68, -⟩ := (hv.cellRow (n := 2) (c := 2) (size := 1) rfl (by decide) (by decide)).rowBy
  refine xC j1callable76 rfl ((viewInts K68 _ _ _ 2 [t0, t1] hrkK68 (Nat.le_of_ble_eq_true rfl) (hN.more hK68) hv).mono ?_) rfl
  rintro e w69 ⟨E, ia, ic, ns, ei, hE, rfl, hri, hir, hv⟩
  refine ⟨_, rfl, ?_⟩
  rcases ints_two hir with ⟨rfl, n0, n1, rfl, hn0, hn1⟩ | ⟨rfl, rfl, -⟩
  ·refine uG (.tuple #[.slice ia 2 ic, vI 0]) rfl (ex_move rfl rfl) ?_
   refine uG (.slice ia 2 ic) rfl (ex_extract rfl rfl rfl) (uE rfl ?_)
   refine uA rfl (uA rfl ?_)
   refine uW k67 (sK fun _ k70 => ?_)
   refine sK fun _ k71 => rL (uM rfl ?_)
   refine uG (.bool false) rfl (ex_neq rfl rfl rfl (by decide)) (uW k71 ?_)
   refine cF rfl (kS ?_)
   refine tK k70 (sK fun _ k72 => ?_)
   refine sK fun _ k73 => ?_
   have hv9 := hv
   obtain ⟨ib, io, had, hrd0⟩ := int_reads hri (show [n0, n1][0]? = some n0 from rfl)
   obtain ⟨ib2, io2, had2, hrd1⟩ := int_reads hri (show [n0, n1][1]? = some n1 from rfl)
   subst had
   cases had2
   have hv := hv9
   clear hv9
   have hf0 := numP_rng hn0
   have hf1 := numP_rng hn1
   refine rL (uG (.slice (some ⟨ib, io, none⟩) 2 ic) rfl (ex_move rfl rfl) ?_)
   refine uG (.pointer (some ⟨ib, io + 0, none⟩)) rfl (ex_index rfl rfl rfl (run_idx1 (k := 0) Tryz.underlying149 s11es149 (by omega))) ?_
   refine uL _ rfl (run_load1 s2na3 (hrd0 _ _ _ (Base.Le.refl _) no_res hv 0 _ rfl)) ?_
   by_cases hb74 : n0 = 0
   ·refine uG (.bool true) rfl (ex_eql rfl rfl rfl (qT hb74)) (uM rfl ?_)
    iterate 4 refine uP rfl ?_
    refine uK rfl (uW k73 ?_)
    refine cT rfl (sK fun _ k75 => ?_)
    refine rL (xC rscallable25 rfl ((viewWrong E _ _ 44 hv).mono ?_) rfl)
    rintro e w77 ⟨s76, rfl, hv⟩
    refine ⟨_, rfl, ?_⟩
    simp only [zP, po]
    refine xS 1 rfl hv rssz28 rfl (by exact ⟨rfl, rfl, rfl, rfl, trivial⟩) (fun w78 hv => ?_)
    simp only [zS, zO, sp] at hv
    refine uW k75 (rR ?_)
    refine tR (bC 1 rswd28 hv rfl rfl rfl rfl ?_)
    exact ⟨E, es, M, (.mk 1 s76 0 []), _, (hK68.trans hE), rfl, rpAt_leaf, hM.more (hK68.trans hE), ⟨hO, fun _ => rfl⟩, (hv.kp [4, 4] 2 3)⟩
   refine uG (.bool false) rfl (ex_eql rfl rfl rfl (qF hb74)) (uM rfl ?_)
   refine uG (.slice (some ⟨ib, io, none⟩) 2 ic) rfl (ex_move rfl rfl) ?_
   refine uG (.pointer (some ⟨ib, io + 1, none⟩)) rfl (ex_index rfl rfl rfl (run_idx1 (k := 1) Tryz.underlying149 s11es149 (by omega))) ?_
   refine uL _ rfl (run_load1 s2na3 (hrd1 _ _ _ (Base.Le.refl _) no_res hv 0 _ rfl)) ?_
   by_cases hb79 : n1 < 0
   ·refine uG (.bool true) rfl (ex_lss rfl rfl rfl (qT hb79)) (uK rfl ?_)
    refine uW k73 (cT rfl ?_)
    refine sK fun _ k80 => rL (xC rscallable25 rfl ((viewWrong E _ _ 44 hv).mono ?_) rfl)
    rintro e w82 ⟨s81, rfl, hv⟩
    refine ⟨_, rfl, ?_⟩
    simp only [zP, po]
    refine xS 1 rfl hv rssz28 rfl (by exact ⟨rfl, rfl, rfl, rfl, trivial⟩) (fun w83 hv => ?_)
    simp only [zS, zO, sp] at hv
    refine uW k80 (rR ?_)
    refine tR (bC 1 rswd28 hv rfl rfl rfl rfl ?_)
    exact ⟨E, es, M, (.mk 1 s81 0 []), _, (hK68.trans hE), rfl, rpAt_leaf, hM.more (hK68.trans hE), ⟨hO, fun _ => rfl⟩, (hv.kp [4, 4] 2 3)⟩
   refine uG (.bool false) rfl (ex_lss rfl rfl rfl (qF hb79)) (uK rfl ?_)
   refine uW k73 (cF rfl ?_)
   refine kS (tK k72 ?_)
   refine sK fun _ k84 => rL (uF (vP b2) rfl (j1fa74_0 _ _ _) ?_)
   refine uL _ rfl (run_load1 j1na24 (hv.load 2 0 rfl rfl)) (uM rfl ?_)
   replace hv := hv.front 4 rfl
   simp only [eS, eZ] at hv
   replace hv := hv.front 4 rfl
   simp only [eS, eZ] at hv
   refine xC j1callable41 rfl ((viewOf E _ _ v t m s p wb va vc sv clk es M key 3 (hM.more (hK68.trans hE)) hv).mono ?_) rfl
   rintro e w85 ⟨C, y, yp, yt, yz, ec, hC, rfl, hyv, hof, hv⟩
   refine ⟨_, rfl, ?_⟩
   obtain ⟨pa, pc, sa, sc, za, zc, rfl, rfl, rfl, hokp, hrp, hoks, hrs, hokz, hrz⟩ := valAt_open hyv
   refine uM rfl (uE rfl ?_)
   refine uE rfl ?_
   refine sl_alloc tV (wn rfl) rfl hv j3al85 (fun b86 w87 hv => ?_)
   simp only [zP, po]
   refine xS 0 rfl hv x0sz85 rfl (by exact ⟨rfl, rfl, rfl, rfl, rfl, rfl, rfl, rfl, trivial⟩) (fun w88 hv => ?_)
   simp only [zO, sp] at hv
   refine uA rfl (uW k84 ?_)
   refine sK fun _ k89 => sK fun _ k90 => rL (uM rfl ?_)
   by_cases hb91 : ec ≠ 0
   ·refine uG (.bool true) rfl (ex_neq rfl rfl rfl (qT hb91)) (uW k90 ?_)
    refine cT rfl (sK fun _ k92 => ?_)
    refine rL (uM rfl ?_)
    refine xC rscallable25 rfl ((viewWrong C _ _ ec hv).mono ?_) rfl
    rintro e w94 ⟨s93, rfl, hv⟩
    refine ⟨_, rfl, ?_⟩
    simp only [zP, po]
    refine xS 4 rfl hv rssz28 rfl (by exact ⟨rfl, rfl, rfl, rfl, trivial⟩) (fun w95 hv => ?_)
    simp only [zS, zO, sp] at hv
    refine uW k92 (rR ?_)
    refine tR (bC 4 rswd28 hv rfl rfl rfl rfl ?_)
    exact ⟨C, es, M, (.mk 1 s93 0 []), _, ((hK68.trans hE).trans hC), rfl, rpAt_leaf, hM.more ((hK68.trans hE).trans hC), ⟨hO, fun _ => rfl⟩, (hv.kp [2, 2] 2 4)⟩
   refine uG (.bool false) rfl (ex_neq rfl rfl rfl (qF hb91)) (uW k90 ?_)
   refine cF rfl (kS ?_)
   refine tK k89 (sK fun _ k96 => ?_)
   refine rL (uA rfl ?_)
   refine uW k96 (sK fun _ k97 => ?_)
   refine sK fun _ k98 => rW mixed [10] [0,1,2,3,4,5,6,7,8,9,12,10,11] 122 rfl (by kernel_rfl) hv ?_
   simp only [qm, opAt]
   refine dG (.pointer (some ⟨b86, 3, none⟩)) rfl (ex_field rfl rfl (x2fa85_3 _ _ _)) (dG (.pointer (some ⟨b86, 6, none⟩)) rfl (ex_field rfl rfl (s1fa78_3 _ _ _)) ?_)
   refine dL _ rfl (fun hv => ex_load rfl rfl (run_load1 s1na22 (hv.load 0 6 rfl rfl))) ?_
   simp only [zP, po]
   refine dM (vS x9) rfl (dM (.slice (some ⟨ib, io, none⟩) 2 ic) rfl ?_)
   refine dG (.pointer (some ⟨ib, io + 0, none⟩)) rfl (ex_index rfl rfl rfl (run_idx1 (k := 0) Tryz.underlying149 s11es149 (by omega))) ?_
   simp only [zP, po]
   refine dL _ rfl (fun hv => ex_load rfl rfl (run_load1 s2na3 (hrd0 _ _ _ hC no_res hv 0 _ rfl))) (dM (.slice (some ⟨ib, io, none⟩) 2 ic) rfl ?_)
   refine dG (.pointer (some ⟨ib, io + 1, none⟩)) rfl (ex_index rfl rfl rfl (run_idx1 (k := 1) Tryz.underlying149 s11es149 (by omega))) ?_
   simp only [zP, po]
   refine dL _ rfl (fun hv => ex_load rfl rfl (run_load1 s2na3 (hrd1 _ _ _ hC no_res hv 0 _ rfl))) (dM (vI 0) rfl ?_)
   refine dS rfl fun w99 hv => mC i4callable79 rfl ((listFind C _ _ sa sc y.val.texts hoks hrs hyv.tm x9 n0 n1 hf0 hv).mono ?_) rfl
   rintro e w100 ⟨fpa, fpc, pl, rfl, hpl, hv⟩
   have hpm := hyv.tm
   obtain ⟨D, hD, hv, hrp9, -, -⟩ := hv.rowBy
   refine ⟨_, rfl, dW hv ?_⟩
   simp only [zP, po]
   refine dG (vI (pl.length : Int)) rfl (ex_len0 Tryz.underlying149 rfl rfl) (dE fun w101 hv => ?_)
   simp only [zP, po]
   refine tK k98 (bB ?_)
   gi_loopw [99, 16] (fun x99 x16 wr => ∃ (i : Nat) (ls : List Leaf) (ra : Option Addr) (rc : Nat), x99 = vI i ∧ x16 = .slice ra ls.length rc ∧ i ≤ pl.length ∧ ls.length = i ∧ Inv D (Res.row 28 4 (.slice ra ls.length rc) ls.length (ls.flatMap leafN) :: Res.cell b86 [vI y.stamp, .bool y.gone, vI y.expire, vI y.val.kind, vS y.val.text, .slice pa y.val.pairs.length pc, .slice sa y.val.texts.length sc, .slice za y.val.zset.length zc] 85 :: Res.cell v [.iface 62 (vP t)] 36 :: txR t m s p wb va vc sv clk es :: Res.cell b11 [.bool b0, .bool b1] 154 :: Res.cell b4 [vI 0, vS [], vI 0, vN] 28 :: Res.cell b2 [vP v, .slice aa an ac] 74 :: H) wr) (fun x99 x16 _ => pl.length - (intOf x99).toNat)
   case atStart => exact ⟨0, [], none, 0, rfl, rfl, Nat.zero_le _, rfl, (((((((hv.front 5 rfl).front 5 rfl).front 5 rfl).front 5 rfl).front 5 rfl).front 5 rfl)).rowNil 28 4⟩
   case round =>
    obtain ⟨i, ls, ra, rc, rfl, rfl, hi, hll, hv⟩ := hrel
    refine sK fun _ k103 => rL ?_
    by_cases hb104 : (i : Int) < (pl.length : Int)
    ·refine uG (.bool true) rfl (ex_lss rfl rfl rfl (qT hb104)) (uW k103 ?_)
     refine sK fun _ k105 => cT rfl (kS ?_)
     refine tK k105 (sK fun _ k106 => ?_)
     refine bB (sK fun _ k107 => ?_)
     obtain ⟨q, hq⟩ : ∃ x, pl[i]? = some x := ⟨_, List.getElem?_eq_getElem (show i < pl.length by omega)⟩
     have hv9 := hv
     obtain ⟨qb, qo, had9, hrdq⟩ := int_reads hrp9 hq
     subst had9
     have hv := hv9
     clear hv9
     refine rL (uG (.pointer (some ⟨qb, qo + i, none⟩)) rfl (ex_index rfl rfl rfl (run_idx1 (k := i) Tryz.underlying149 s11es149 (by omega))) ?_)
     refine uL _ rfl (run_load1 s2na3 (hrdq _ _ _ (Base.Le.refl _) no_res hv 0 _ rfl)) (uA rfl ?_)
     refine uW k107 (rL ?_)
     refine uM rfl (uM rfl ?_)
     refine xC j1callable43 rfl ((respInt D _ _ q hv).mono ?_) rfl
     rintro e w108 ⟨rfl, hv⟩
     refine ⟨_, rfl, ?_⟩
     simp only [zP, po]
     refine sl_rowAgg (L := [vI 2, vS [], vI q, vN]) tV (wn rfl) rfl rfl hv j3el26 rfl (by decide) (fun b109 w110 hv => ?_)
     simp only [zP, po]
     replace hv := hv.front 1 rfl
     simp only [eS, eZ] at hv
     refine sl_append (news := [vI 2, vS [], vI q, vN]) tV (wn rfl) rfl rfl rfl j3el26 hv (ok_full (by omega)) rfl (rd_all (hv.get 1 rfl)) (by intro u hu; simp only [List.mem_cons, List.not_mem_nil, or_false] at hu; rcases hu with rfl | rfl | rfl | rfl <;> rfl) (by unfold maxLen; omega) (by omega) (fun rv111 w114 hv => ?_)
     obtain ⟨ra112, rc113, rfl⟩ := row_slice hv.head
     refine uA rfl (uZ ?_)
     refine bN (tK k106 ?_)
     refine rL (uG (vI ((i + 1 : Nat) : Int)) rfl (ex_add rfl rfl rfl (by rw [i64_in (by omega)]; omega)) ?_)
     refine uM rfl (uZ ?_)
     refine then_normal ?_
     go_roundw
     case rel => exact ⟨i + 1, ls ++ [⟨2, [], q⟩], _, _, rfl, by rw [List.length_append, List.length_singleton], by omega, by rw [List.length_append, List.length_singleton, hll], by rw [List.length_append, List.length_singleton, List.flatMap_append]; exact (hv.kp [7, 7, 7, 7, 7, 7, 6] 7 1)⟩
     case measure => show pl.length - (((i + 1 : Nat) : Int)).toNat < pl.length - ((i : Int)).toNat; omega
    refine uG (.bool false) rfl (ex_lss rfl rfl rfl (qF hb104)) (uW k103 ?_)
    refine sK fun _ k115 => cF rfl (xE ?_)
    refine tX (tX ?_)
    refine bH (tK k97 ?_)
    refine sK fun _ k116 => bB (sK fun _ k117 => ?_)
    obtain ⟨G, hG, hv, hre, hoke, -⟩ := hv.rowBy
    refine rL (uG (.pointer (some ⟨b11, 1, none⟩)) rfl (ex_index rfl rfl rfl (run_idxA1 (k := 1) j3ua154 j3ea154 (by omega))) ?_)
    refine uL _ rfl (run_load1 s2na4 (hv.load 3 1 rfl rfl)) (uA rfl ?_)
    refine uW k117 (wpIn_cond_split (t := b1) rfl (fun hc118 => ?_) (fun hc118 => ?_))
    ·refine sK fun _ k119 => rL (uM rfl ?_)
     refine xC j3callable77 rfl ((respList G _ _ ra ls.length rc _ (rList (ls.map leafR)) hoke hre (.inl ⟨ls, rfl, rfl, rfl⟩) (by omega) hv).mono ?_) rfl
     rintro e w123 ⟨J120, lw121, hJ120, rfl, hrw122, hv⟩
     refine ⟨_, rfl, ?_⟩
     simp only [zP, po]
     refine xS 4 rfl hv rssz28 rfl (by exact ⟨rfl, rfl, rfl, hrw122.lv.2, trivial⟩) (fun w124 hv => ?_)
     simp only [zS, zO, sp] at hv
     refine uW k119 (rR ?_)
     refine bZ (tR ?_)
     refine bC 4 rswd28 hv rfl rfl rfl rfl (⟨J120, es, M, rList (ls.map leafR), _, (((((hK68.trans hE).trans hC).trans hD).trans hG).trans hJ120), rfl, (hrw122.more (Base.Le.refl _)), hM.more (((((hK68.trans hE).trans hC).trans hD).trans hG).trans hJ120), ⟨hO, fun _ => rfl⟩, (hv.kp [2, 2] 2 4)⟩)
    refine sK fun _ k125 => rL (uM rfl ?_)
    refine uG (vI (ls.length : Int)) rfl (ex_len0 Tryz.underlying26 rfl rfl) ?_
    by_cases hb126 : (ls.length : Int) = 0
    ·refine uG (.bool true) rfl (ex_eql rfl rfl rfl (qT hb126)) (uA rfl ?_)
     refine uW k125 (cT rfl ?_)
     refine sK fun _ k127 => rL (xC j1callable68 rfl ((respNone G _ _ hv).mono ?_) rfl)
     rintro e w128 ⟨rfl, hv⟩
     refine ⟨_, rfl, ?_⟩
     simp only [zP, po]
     refine xS 4 rfl hv rssz28 rfl (by exact ⟨rfl, rfl, rfl, rfl, trivial⟩) (fun w129 hv => ?_)
     simp only [zS, zO, sp] at hv
     refine uW k127 (rR ?_)
     refine bZ (tR ?_)
     refine bC 4 rswd28 hv rfl rfl rfl rfl (⟨G, es, M, (.mk 4 ([] : List UInt8) 0 []), _, ((((hK68.trans hE).trans hC).trans hD).trans hG), rfl, rpAt_leaf, hM.more ((((hK68.trans hE).trans hC).trans hD).trans hG), ⟨hO, fun _ => rfl⟩, (hv.kp [2, 2] 2 4)⟩)
    refine uG (.bool false) rfl (ex_eql rfl rfl rfl (qF hb126)) (uA rfl ?_)
    refine uW k125 (cF rfl ?_)
    refine kS (bN ?_)
    refine tK k116 (sK fun _ k130 => ?_)
    obtain ⟨lf, hlf⟩ : ∃ x, ls[0]? = some x := ⟨_, List.getElem?_eq_getElem (show 0 < ls.length by omega)⟩
    have hv9 := hv
    obtain ⟨lb, lo, had9, hrdl⟩ := rowk_reads (f := leafN) (k := 4) (fun _ => rfl) (by decide) hre hlf
    subst had9
    have hv := hv9
    clear hv9
    refine rL (uM rfl ?_)
    refine uG (.pointer (some ⟨lb, lo + 0 * 4, none⟩)) rfl (ex_index rfl rfl rfl (run_idx (k := 0) Tryz.underlying26 l0es26 (by omega))) ?_
    refine uL (.agg #[vI lf.k, vS lf.s, vI lf.n, vN]) rfl (run_loadR (cs := [vI lf.k, vS lf.s, vI lf.n, vN]) rswd28 (Reads.mid (pre := []) (mid := [vI lf.k, vS lf.s, vI lf.n, vN]) (post := []) hrdl _ _ _ (Base.Le.refl _) no_res hv)) ?_
    refine xS 4 rfl hv rssz28 rfl (by exact ⟨rfl, rfl, rfl, rfl, trivial⟩) (fun w131 hv => ?_)
    simp only [zS, zO, sp] at hv
    refine uW k130 (rR ?_)
    refine bC 4 rswd28 hv rfl rfl rfl rfl (⟨G, es, M, (.mk lf.k lf.s lf.n []), _, ((((hK68.trans hE).trans hC).trans hD).trans hG), rfl, rpAt_leaf, hM.more ((((hK68.trans hE).trans hC).trans hD).trans hG), ⟨hO, fun _ => rfl⟩, (hv.kp [2, 2] 2 4)⟩)
  refine uM rfl (uE rfl ?_)
  refine uE rfl (uA rfl ?_)
  refine uA rfl (uW k67 ?_)
  refine sK fun _ k132 => sK fun _ k133 => rL (uM rfl ?_)
  refine uG (.bool true) rfl (ex_neq rfl rfl rfl (by decide)) (uW k133 ?_)
  refine cT rfl (sK fun _ k134 => ?_)
  refine rL (uM rfl ?_)
  refine xC rscallable25 rfl ((viewWrong E _ _ 41 hv).mono ?_) rfl
  rintro e w136 ⟨s135, rfl, hv⟩
  refine ⟨_, rfl, ?_⟩
  simp only [zP, po]
  refine xS 1 rfl hv rssz28 rfl (by exact ⟨rfl, rfl, rfl, rfl, trivial⟩) (fun w137 hv => ?_)
  simp only [zS, zO, sp] at hv
  refine uW k134 (rR ?_)
  refine tR (bC 1 rswd28 hv rfl rfl rfl rfl ?_)
  exact ⟨E, es, M, (.mk 1 s135 0 []), _, (hK68.trans hE), rfl, rpAt_leaf, hM.more (hK68.trans hE), ⟨hO, fun _ => rfl⟩, (hv.kp [4, 4] 2 3)⟩
end Go.Proofs.YtmhdpjifhfoabaaGreatDoor
