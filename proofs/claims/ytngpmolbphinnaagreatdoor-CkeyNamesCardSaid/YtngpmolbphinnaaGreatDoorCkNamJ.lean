/- ckey: SORT. -/
import Derived.Test.YtngpmolbphinnaaGreatDoorCkNamB
import Derived.Test.YtngpmolbphinnaaGreatDoorCkNamH
import Derived.Test.YtngpmolbphinnaaGreatDoorCkNamI
import Derived.Test.YtngpmolbphinnaaGreatDoorRows
import Derived.Test.YtngpmolbphinnaaGreatDoorCkNamE
set_option maxRecDepth 100000
set_option maxHeartbeats 16000000
set_option synthInstance.maxSize 4096
set_option synthInstance.maxHeartbeats 400000
namespace Go.Proofs.YtngpmolbphinnaaGreatDoor
open Go.RowKit Go.Pm Go.Sort
theorem kJal34 : AL Tryz.prog 34 [vI 0, vS [], vI 0, vN] := fun w => by kernel_rfl
theorem kJcallable90 : Callable Tryz.prog 90 := cb Tryz.func90 (by kernel_rfl)
theorem kJal157 : AL Tryz.prog 157 [.bool false, .bool false, .bool false, .bool false, .bool false, vI 0, vI 0, vS []] := fun w => by kernel_rfl
theorem kJcallable91 : Callable Tryz.prog 91 := cb Tryz.func91 (by kernel_rfl)
theorem kJea155 (w : World) : (sizeOf 4).run Tryz.prog w = .ok 1 w := by kernel_rfl
theorem kJua155 : Tryz.prog.underlying 155 = some (.array 5 4) := by kernel_rfl
theorem kJcallable92 : Callable Tryz.prog 92 := cb Tryz.func92 (by kernel_rfl)
theorem kJcallable94 : Callable Tryz.prog 94 := cb Tryz.func94 (by kernel_rfl)
theorem kJcallable93 : Callable Tryz.prog 93 := cb Tryz.func93 (by kernel_rfl)
theorem ckSort (B : Base) (H : List Res) (w : World) (v t m s p wb : Nat) (va : Option Addr) (vc : Nat) (sv : Value) (clk : Int) (es : List (List UInt8 × Value)) (M : List (List UInt8 × Ver)) (hM : VM B es M) (aa : Option Addr) (an ac : Nat) (k : List UInt8) (wa : Option Addr) (wc : Nat) (ws : List (List UInt8)) (hokw : SliceOk wa ws.length wc) (hrw : RdV B [] wa (textCells ws)) (hmw : ws.length ≤ 1000000) (hxl : ∀ x ∈ ws, x.length ≤ 9223372036854775807) (hN : NumB B) (hsrt : ∀ s, wishF ws wish0 = some s → SortedOk s.g0) (hv : Inv B (Res.cell v [.iface 100 (vP t)] 56 :: txR t m s p wb va vc sv clk es :: H) w) :
  Calls Tryz.prog 64 #[.agg #[vP v, .slice aa an ac], vS k, .slice wa ws.length wc] w fun e w' => ∃ C es' M' r cs, B.Le C ∧ e = .returned (.agg cs.toArray) ∧ RpAt C r cs ∧ VM C es' M' ∧ SrtR M clk k ws M' r ∧ Inv C (Res.cell v [.iface 100 (vP t)] 56 :: txR t m s p wb va vc sv clk es' :: H) w' := by
 refine cW Tryz.func64 rfl Tryz.ntmps64 ?_
 simp only [al]
 refine sK fun _ k1 => rL (sl_box (L := [vP v, .slice aa an ac]) tV (wn rfl) rfl rfl hv (fun w => by kernel_rfl) (fun b2 w3 hv => ?_))
 refine sl_alloc tV (wn rfl) rfl hv kJal34 (fun b4 w5 hv => ?_)
 refine uW k1 (sK fun _ k6 => ?_)
 refine rL (uM rfl ?_)
 refine xC kJcallable90 rfl ((ckWishes B _ _ wa wc ws hokw hrw hmw hxl hN hv).mono ?_) rfl
 rintro e w7 ⟨g0, g1, g2, g3, g4, om, mo, tg, ec, rfl, hws, hv⟩
 refine ⟨_, rfl, uM rfl ?_⟩
 refine uE rfl (uE rfl ?_)
 refine sl_alloc tV (wn rfl) rfl hv kJal157 (fun b8 w9 hv => ?_)
 simp only [zP, po]
 refine xS 0 rfl hv kIsz157 rfl (by exact ⟨rfl, rfl, rfl, rfl, rfl, rfl, rfl, rfl, trivial⟩) (fun w10 hv => ?_)
 simp only [zO, sp] at hv
 refine uA rfl (uW k6 ?_)
 refine sK fun _ k11 => sK fun _ k12 => rL (uM rfl ?_)
 by_cases hb13 : ec ≠ 0
 ·refine uG (.bool true) rfl (ex_neq rfl rfl rfl (qT hb13)) (uW k12 ?_)
  refine cT rfl (sK fun _ k14 => ?_)
  refine rL (uM rfl ?_)
  refine xC rscallable29 rfl ((viewWrong B _ _ ec hv).mono ?_) rfl
  rintro e w16 ⟨s15, rfl, hv⟩
  refine ⟨_, rfl, ?_⟩
  refine xS 1 rfl hv rssz34 rfl (by exact ⟨rfl, rfl, rfl, rfl, trivial⟩) (fun w17 hv => ?_)
  simp only [zS, zO, sp] at hv
  refine uW k14 (rR ?_)
  refine tR (bC 1 rswd34 hv rfl rfl rfl rfl ?_)
  exact ⟨B, es, M, (.mk 1 s15 0 []), _, (Base.Le.refl _), rfl, rpAt_leaf, hM.more (Base.Le.refl _), (hws.elim (fun h => .inl ⟨h.2, rfl, rfl⟩) fun ⟨s, hs, h⟩ => .inr ⟨s, hs, h.elim (fun h => .inl ⟨h.2, rfl, rfl⟩) fun h => absurd h.1 hb13⟩), (hv.kp [4, 4] 2 3)⟩
 refine uG (.bool false) rfl (ex_neq rfl rfl rfl (qF hb13)) (uW k12 ?_)
 refine cF rfl (kS ?_)
 refine tK k11 (sK fun _ k18 => ?_)
 obtain ⟨s9, hw9, rfl, rfl, rfl, rfl, rfl, rfl, hnum⟩ : ∃ s, wishF ws wish0 = some s ∧ s.g0 = g0 ∧ s.g1 = g1 ∧ s.g2 = g2 ∧ s.g3 = g3 ∧ s.g4 = g4 ∧ s.tg = tg ∧ (g3 = true → ∃ p q, s.ns = [p, q] ∧ NumP p om true ∧ NumP q mo true) := by
  rcases hws with ⟨h, -⟩ | ⟨s, hs, ⟨h, -⟩ | ⟨-, h1, h2, h3, h4, h5, h6, h7⟩⟩
  ·omega
  ·omega
  exact ⟨s, hs, h1, h2, h3, h4, h5, h6, h7⟩
 refine rL (uL (.agg #[vP v, .slice aa an ac]) rfl (lM 2 k6wd80 hv rfl rfl rfl rfl) ?_)
 refine uM rfl ?_
 replace hv := hv.front 4 rfl
 simp only [eS, eZ] at hv
 replace hv := hv.front 4 rfl
 simp only [eS, eZ] at hv
 refine xC kJcallable91 rfl ((ckThings B _ _ v t m s p wb va vc sv clk es M hM aa an ac k hv).mono ?_) rfl
 rintro e w19 ⟨T, ta, tc, xs, ex, hT, rfl, hth, htl, hot, hrt, hv⟩
 refine ⟨_, rfl, uM rfl ?_⟩
 refine uE rfl (uE rfl ?_)
 refine uA rfl (uA rfl ?_)
 refine uW k18 (sK fun _ k20 => ?_)
 refine sK fun _ k21 => rL (uM rfl ?_)
 by_cases hb22 : ex ≠ 0
 ·refine uG (.bool true) rfl (ex_neq rfl rfl rfl (qT hb22)) (uW k21 ?_)
  refine cT rfl (sK fun _ k23 => ?_)
  refine rL (uM rfl ?_)
  refine xC rscallable29 rfl ((viewWrong T _ _ ex hv).mono ?_) rfl
  rintro e w25 ⟨s24, rfl, hv⟩
  refine ⟨_, rfl, ?_⟩
  refine xS 3 rfl hv rssz34 rfl (by exact ⟨rfl, rfl, rfl, rfl, trivial⟩) (fun w26 hv => ?_)
  simp only [zS, zO, sp] at hv
  refine uW k23 (rR ?_)
  refine tR (bC 3 rswd34 hv rfl rfl rfl rfl ?_)
  exact ⟨T, es, M, (.mk 1 s24 0 []), _, hT, rfl, rpAt_leaf, hM.more hT, .inr ⟨s9, hw9, .inr ⟨xs, ex, hth, .inl ⟨hb22, rfl, rfl⟩⟩⟩, (hv.kp [1, 1] 2 3)⟩
 refine uG (.bool false) rfl (ex_neq rfl rfl rfl (qF hb22)) (uW k21 ?_)
 refine cF rfl (kS ?_)
 refine tK k20 (sK fun _ k27 => ?_)
 refine rL (uF (vP b8) rfl (kIfa157_0 _ _ _) ?_)
 refine uG (vP b8) rfl (ex_index rfl rfl rfl (run_idxA1 (k := 0) kJua155 kJea155 (by omega))) ?_
 refine uL _ rfl (run_load1 s2na4 (hv.load 2 0 rfl rfl)) (uM rfl ?_)
 refine xC kJcallable92 rfl ((hsrt s9 hw9 T _ _ ta tc xs hot hrt htl (hN.more hT) hv).mono ?_) rfl
 rintro e w28 ⟨S, oa, oc, ys, ey, hS, rfl, hsr, hv⟩
 refine ⟨_, rfl, ?_⟩
 have hyl : ys.length ≤ 1000000 := Nat.le_trans hsr.2 htl
 refine uM rfl (uE rfl ?_)
 refine uE rfl (uA rfl ?_)
 refine uA rfl (uW k27 ?_)
 refine sK fun _ k29 => sK fun _ k30 => rL (uM rfl ?_)
 by_cases hb31 : ey ≠ 0
 ·refine uG (.bool true) rfl (ex_neq rfl rfl rfl (qT hb31)) (uW k30 ?_)
  refine cT rfl (sK fun _ k32 => ?_)
  refine rL (uM rfl ?_)
  refine xC rscallable29 rfl ((viewWrong S _ _ ey hv).mono ?_) rfl
  rintro e w34 ⟨s33, rfl, hv⟩
  refine ⟨_, rfl, ?_⟩
  refine xS 4 rfl hv rssz34 rfl (by exact ⟨rfl, rfl, rfl, rfl, trivial⟩) (fun w35 hv => ?_)
  simp only [zS, zO, sp] at hv
  refine uW k32 (rR ?_)
  refine tR (bC 4 rswd34 hv rfl rfl rfl rfl ?_)
  exact ⟨S, es, M, (.mk 1 s33 0 []), _, (hT.trans hS), rfl, rpAt_leaf, hM.more (hT.trans hS), .inr ⟨s9, hw9, .inr ⟨xs, ex, hth, .inr ⟨by omega, ys, ey, hsr, .inl ⟨hb31, rfl, rfl⟩⟩⟩⟩, (hv.kp [2, 2] 2 4)⟩
 refine uG (.bool false) rfl (ex_neq rfl rfl rfl (qF hb31)) (uW k30 ?_)
 refine cF rfl (kS ?_)
 refine tK k29 (sK fun K36 k36 => ?_)
 have hJ36 : ∀ (zs : List (List UInt8)) (j41 j42 j43 j44 j45 : Value) (w37 : World), (zs = if s9.g2 = true then ys.reverse else ys) → (zs.length = ys.length) → Inv S (Res.row 9 1 (.slice oa ys.length oc) ys.length (textCells zs) :: Res.cell v [.iface 100 (vP t)] 56 :: txR t m s p wb va vc sv clk es :: Res.cell b8 [.bool s9.g0, .bool s9.g1, .bool s9.g2, .bool s9.g3, .bool s9.g4, vI om, vI mo, vS s9.tg] 157 :: Res.cell b4 [vI 0, vS [], vI 0, vN] 34 :: Res.cell b2 [vP v, .slice aa an ac] 80 :: H) w37 → K36 { tmps := List.toArray (.agg #[vP v, .slice aa an ac] :: vS k :: .slice wa ws.length wc :: vP b2 :: undef :: undef :: vP b4 :: vP b8 :: vI ey :: .slice oa ys.length oc :: .tuple #[.agg #[.bool s9.g0, .bool s9.g1, .bool s9.g2, .bool s9.g3, .bool s9.g4, vI om, vI mo, vS s9.tg], vI ec] :: .slice wa ws.length wc :: .tuple #[.agg #[.bool s9.g0, .bool s9.g1, .bool s9.g2, .bool s9.g3, .bool s9.g4, vI om, vI mo, vS s9.tg], vI ec] :: .agg #[.bool s9.g0, .bool s9.g1, .bool s9.g2, .bool s9.g3, .bool s9.g4, vI om, vI mo, vS s9.tg] :: vI ec :: vI ec :: .bool false :: undef :: undef :: .tuple #[.slice ta xs.length tc, vI ex] :: .agg #[vP v, .slice aa an ac] :: vS k :: .tuple #[.slice ta xs.length tc, vI ex] :: .slice ta xs.length tc :: vI ex :: vI ex :: .bool false :: undef :: undef :: .tuple #[.slice oa ys.length oc, vI ey] :: vP b8 :: vP b8 :: .bool s9.g0 :: .slice ta xs.length tc :: .tuple #[.slice oa ys.length oc, vI ey] :: .slice oa ys.length oc :: vI ey :: vI ey :: .bool false :: undef :: undef :: j41 :: j42 :: j43 :: j44 :: j45 :: undef :: undef :: undef :: undef :: undef :: undef :: undef :: undef :: undef :: undef :: undef :: undef :: undef :: undef :: undef :: undef :: undef :: undef :: undef :: undef :: undef :: []), defers := [] } w37 := by
  intro zs j41 j42 j43 j44 j45 w37 hzs hzl hv
  refine k36 _ _ ?_
  rw [← hzl] at hv ⊢
  refine sK fun _ k38 => ?_
  obtain ⟨E, hE, hv, hrz, hoz, -⟩ := hv.rowBy
  refine rL (uL (.agg #[.bool s9.g0, .bool s9.g1, .bool s9.g2, .bool s9.g3, .bool s9.g4, vI om, vI mo, vS s9.tg]) rfl (lM 2 kIwd157 hv rfl rfl rfl rfl) ?_)
  refine uM rfl ?_
  refine xC kJcallable94 rfl ((ckLimited E _ _ s9.g0 s9.g1 s9.g2 s9.g3 s9.g4 om mo s9.tg oa oc zs hoz hrz (by omega) hv).mono ?_) rfl
  rintro e w39 ⟨la, lc, out, rfl, hlim, hol, hoo, hro, hv⟩
  refine ⟨_, rfl, uA rfl ?_⟩
  refine uW k38 (sK fun _ k40 => ?_)
  refine sK fun _ k41 => rL (uF (vP b8) rfl (kIfa157_0 _ _ _) ?_)
  refine uG (.pointer (some ⟨b8, 4, none⟩)) rfl (ex_index rfl rfl rfl (run_idxA1 (k := 4) kJua155 kJea155 (by omega))) ?_
  refine uL _ rfl (run_load1 s2na4 (hv.load 2 4 rfl rfl)) ?_
  refine uG (.bool (!s9.g4)) rfl (ex_not rfl rfl rfl) (uW k41 ?_)
  refine wpIn_cond_split (t := !s9.g4) rfl (fun hc42 => ?_) (fun hc42 => ?_)
  ·refine sK fun _ k43 => rL (uM rfl ?_)
   refine xC k1callable59 rfl ((respStrsR E _ _ la lc out (hro.more (Base.Le.refl _) (fun _ h => h)) (hol) hv).mono ?_) rfl
   rintro e w48 ⟨D44, da45, dc46, hD44, rfl, hrp47o, hrp47, hv⟩
   refine ⟨_, rfl, ?_⟩
   refine xS 3 rfl hv rssz34 rfl (by exact ⟨rfl, rfl, rfl, rfl, trivial⟩) (fun w49 hv => ?_)
   simp only [zS, zO, sp] at hv
   refine uW k43 (rR ?_)
   refine tR (bC 3 rswd34 hv rfl rfl rfl rfl ?_)
   exact ⟨D44, es, M, (rStrs out), _, (((hT.trans hS).trans hE).trans hD44), rfl, (rpAt_strs hrp47o (hrp47.more (Base.Le.refl _) (fun _ h => h))), hM.more (((hT.trans hS).trans hE).trans hD44), .inr ⟨s9, hw9, .inr ⟨xs, ex, hth, .inr ⟨by omega, ys, ey, hsr, .inr ⟨by omega, om, mo, out, hnum, hzs ▸ hlim, .inl ⟨by simpa using hc42, rfl, rfl⟩⟩⟩⟩⟩, (hv.kp [1, 1] 2 3)⟩
  refine kS (tK k40 ?_)
  refine sK fun _ k50 => rL (uF (vP b2) rfl (k1fa80_0 _ _ _) ?_)
  refine uL _ rfl (run_load1 k1na24 (hv.load 4 0 rfl rfl)) ?_
  refine uF (.pointer (some ⟨b8, 7, none⟩)) rfl (kIfa157_3 _ _ _) ?_
  refine uL _ rfl (run_load1 s9na9 (hv.load 2 7 rfl rfl)) (uM rfl ?_)
  refine uG (.agg #[vI 3, vS [], vN, .slice la out.length lc, vN]) rfl (ex_buildN (vs := #[(0, vI 3), (3, .slice la out.length lc)]) rfl (by simp only [List.map_toArray, List.map_cons, List.map_nil]; rfl) (by kernel_rfl)) ?_
  replace hv := hv.front 1 rfl
  simp only [eS, eZ] at hv
  replace hv := hv.front 1 rfl
  simp only [eS, eZ] at hv
  refine xC k6callable16 rfl ((viewKeep E _ _ v t m s p wb va vc sv clk es M s9.tg ⟨3, [], [], out, []⟩ (vN) (.slice la out.length lc) (vN) 0 (hM.more ((hT.trans hS).trans hE)) ⟨⟨none, 0, rfl, ⟨Nat.le_refl _, Nat.zero_le _, fun _ => rfl⟩, rdV_nil⟩, ⟨la, lc, rfl, hoo, hro⟩, ⟨none, 0, rfl, ⟨Nat.le_refl _, Nat.zero_le _, fun _ => rfl⟩, rdV_nil⟩, Nat.zero_le _, hol, Nat.zero_le _⟩ hv).mono ?_) rfl
  rintro e w51 ⟨D, es1, M1, e1, hD, rfl, hM1, hkp, hv⟩
  refine ⟨_, rfl, uA rfl ?_⟩
  refine uW k50 (sK fun _ k52 => ?_)
  refine rL (uM rfl ?_)
  refine uM rfl ?_
  refine uG (vI (out.length : Int)) rfl (ex_len0 Tryz.underlying26 rfl rfl) ?_
  refine xC k6callable54 rfl ((respInt D _ _ (out.length : Int) hv).mono ?_) rfl
  rintro e w53 ⟨rfl, hv⟩
  refine ⟨_, rfl, ?_⟩
  refine xC k6callable56 rfl ((viewDone D _ _ e1 2 (out.length : Int) ([] : List UInt8) (vN) rfl rfl hv).mono ?_) rfl
  rintro e w54 ⟨xr, hxr, rfl, hv⟩
  refine ⟨_, rfl, ?_⟩
  rcases hxr with ⟨hec0, rfl⟩ | ⟨hec0, s55, rfl⟩
  ·refine xS 3 rfl hv rssz34 rfl (by exact ⟨rfl, rfl, rfl, rfl, trivial⟩) (fun w56 hv => ?_)
   simp only [zS, zO, sp] at hv
   refine uW k52 (rR ?_)
   refine bC 3 rswd34 hv rfl rfl rfl rfl (⟨D, es1, M1, (.mk 2 ([] : List UInt8) (out.length : Int) []), _, (((hT.trans hS).trans hE).trans hD), rfl, rpAt_leaf, hM1.more (Base.Le.refl _), .inr ⟨s9, hw9, .inr ⟨xs, ex, hth, .inr ⟨by omega, ys, ey, hsr, .inr ⟨by omega, om, mo, out, hnum, hzs ▸ hlim, .inr ⟨by simpa using hc42, e1, hkp, .inl ⟨by omega, rfl⟩⟩⟩⟩⟩⟩, (hv.kp [1, 1] 2 3)⟩)
  refine xS 3 rfl hv rssz34 rfl (by exact ⟨rfl, rfl, rfl, rfl, trivial⟩) (fun w57 hv => ?_)
  simp only [zS, zO, sp] at hv
  refine uW k52 (rR ?_)
  refine bC 3 rswd34 hv rfl rfl rfl rfl (⟨D, es1, M1, (.mk 1 s55 0 []), _, (((hT.trans hS).trans hE).trans hD), rfl, rpAt_leaf, hM1.more (Base.Le.refl _), .inr ⟨s9, hw9, .inr ⟨xs, ex, hth, .inr ⟨by omega, ys, ey, hsr, .inr ⟨by omega, om, mo, out, hnum, hzs ▸ hlim, .inr ⟨by simpa using hc42, e1, hkp, .inr ⟨by omega, rfl⟩⟩⟩⟩⟩⟩, (hv.kp [1, 1] 2 3)⟩)
 refine sK fun _ k58 => rL (uF (vP b8) rfl (kIfa157_0 _ _ _) ?_)
 refine uG (.pointer (some ⟨b8, 2, none⟩)) rfl (ex_index rfl rfl rfl (run_idxA1 (k := 2) kJua155 kJea155 (by omega))) ?_
 refine uL _ rfl (run_load1 s2na4 (hv.load 3 2 rfl rfl)) (uW k58 ?_)
 refine wpIn_cond_split (t := s9.g2) rfl (fun hc59 => ?_) (fun hc59 => ?_)
 ·refine rL (uM rfl ?_)
  refine xC kJcallable93 rfl ((reverseTexts S _ _ _ ys hyl hv).mono ?_) rfl
  rintro e w60 ⟨rfl, hv⟩
  refine ⟨_, rfl, uZ ?_⟩
  exact then_normal (hJ36 ys.reverse _ _ _ _ _ _ ((if_pos hc59).symm) (by simp) ((((((hv.front 5 rfl).front 5 rfl).front 5 rfl).front 5 rfl).front 5 rfl).front 5 rfl))
 refine kS (then_normal (hJ36 ys _ _ _ _ _ _ ((if_neg (by rw [hc59]; decide)).symm) rfl ((((((hv.front 5 rfl).front 5 rfl).front 5 rfl).front 5 rfl).front 5 rfl).front 5 rfl)))
def fitsI (n : Int) : Prop := -9223372036854775808 ≤ n ∧ n ≤ 9223372036854775807
instance (n : Int) : Decidable (fitsI n) := inferInstanceAs (Decidable (_ ∧ _))
def addF (a : Int) : List Int → Option Int
 | [] => some a
 | b :: bs => if fitsI (a + b) then addF (a + b) bs else none
theorem addF_at {bs : List Int} {i : Nat} {b s : Int} {r : Option Int} (h : r = addF s (bs.drop i)) (hb : bs[i]? = some b) : r = if fitsI (s + b) then addF (s + b) (bs.drop (i + 1)) else none := by
 obtain ⟨hi, rfl⟩ := List.getElem?_eq_some_iff.1 hb
 rw [h, List.drop_eq_getElem_cons hi]; rfl
theorem ndes145 (w : World) : (sizeOf (Tryz.prog.elem 145)).run Tryz.prog w = .ok 1 w := by kernel_rfl
theorem ndna3 (w : World) : (isAgg 3).run Tryz.prog w = .ok false w := by kernel_rfl
theorem numAdd (B : Base) (H : List Res) (w : World) (a : Int) (ha : -9223372036854775808 ≤ a ∧ a ≤ 9223372036854775807) (ba : Option Addr) (bc : Nat) (bs : List Int) (hrb : RdV B [] ba (intCells bs)) (hm : bs.length ≤ 1000000) (hbs : ∀ b ∈ bs, -9223372036854775808 ≤ b ∧ b ≤ 9223372036854775807) (hv : Inv B H w) :
  Calls Tryz.prog 83 #[vI a, .slice ba bs.length bc] w fun e w' => ∃ r ok, e = .returned (.tuple #[vI r, .bool ok]) ∧ ((ok = true ∧ (-9223372036854775808 ≤ r ∧ r ≤ 9223372036854775807) ∧ addF a bs = some r) ∨ (ok = false ∧ addF a bs = none)) ∧ Inv B H w' := by
 refine cW Tryz.func83 rfl Tryz.ntmps83 ?_
 simp only [al]
 refine sK fun _ k1 => rL (uA rfl ?_)
 refine uA rfl (uW k1 ?_)
 refine sK fun _ k2 => rL (uM rfl ?_)
 refine uA rfl (uW k2 ?_)
 refine sK fun _ k3 => sK fun _ k4 => rL (uM rfl ?_)
 refine uG (vI (bs.length : Int)) rfl (ex_len0 Tryz.underlying145 rfl rfl) (uM rfl ?_)
 refine uW k4 (bB ?_)
 gi_loopw [6, 12] (fun x6 x12 wr => ∃ (i : Nat) (s : Int), x6 = vI s ∧ x12 = vI i ∧ i ≤ bs.length ∧ (-9223372036854775808 ≤ s ∧ s ≤ 9223372036854775807) ∧ addF a bs = addF s (bs.drop i) ∧ Inv B H wr) (fun x6 x12 _ => bs.length - (intOf x12).toNat)
 case atStart => exact ⟨0, a, rfl, rfl, Nat.zero_le _, ha, rfl, hv⟩
 case round =>
  obtain ⟨i, s, rfl, rfl, hi, hs, hsum, hv⟩ := hrel
  refine sK fun _ k6 => rL ?_
  by_cases hb7 : (i : Int) < (bs.length : Int)
  ·refine uG (.bool true) rfl (ex_lss rfl rfl rfl (qT hb7)) (uW k6 ?_)
   refine sK fun _ k8 => cT rfl (kS ?_)
   refine tK k8 (sK fun _ k9 => ?_)
   refine bB (sK fun _ k10 => ?_)
   obtain ⟨b, hb⟩ : ∃ x, bs[i]? = some x := ⟨_, List.getElem?_eq_getElem (show i < bs.length by omega)⟩
   have hbf : -9223372036854775808 ≤ b ∧ b ≤ 9223372036854775807 := hbs b (List.mem_of_getElem? hb)
   obtain ⟨ib, io, had, hrdb⟩ := int_reads hrb hb
   subst had
   refine rL (uG (.pointer (some ⟨ib, io + i, none⟩)) rfl (ex_index rfl rfl rfl (run_idx1 (k := i) Tryz.underlying145 ndes145 (by omega))) ?_)
   refine uL _ rfl (run_load1 ndna3 (hrdb _ _ _ (Base.Le.refl _) no_res hv 0 _ rfl)) (uA rfl ?_)
   refine uW k10 (sK fun _ k11 => ?_)
   refine sK fun _ k12 => rL (uM rfl ?_)
   by_cases hb13 : b > 0
   ·refine uG (.bool true) rfl (ex_gtr rfl rfl rfl (qT hb13)) (uM rfl ?_)
    refine uM rfl ?_
    refine uM rfl ?_
    refine uG (vI (9223372036854775807 - b)) rfl (ex_sub rfl rfl rfl (i64_in (by omega))) ?_
    by_cases hb14 : s > (9223372036854775807 - b)
    ·refine uG (.bool true) rfl (ex_gtr rfl rfl rfl (qT hb14)) (uK rfl ?_)
     refine uW k12 (cT rfl ?_)
     refine sK fun _ k15 => rL (uA rfl ?_)
     refine uA rfl (uW k15 ?_)
     refine rR (tR ?_)
     refine bZ (tR ?_)
     refine tR (bZ ?_)
     refine tR (bodyPost_ret (results_tmp2 rfl _ _ _) rfl ?_)
     exact ⟨0, false, rfl, .inr ⟨rfl, by rw [addF_at hsum hb, if_neg (fun h9 : fitsI (s + b) => by have h8 := h9.1; have h7 := h9.2; omega)]⟩, hv⟩
    refine uG (.bool false) rfl (ex_gtr rfl rfl rfl (qF hb14)) (uK rfl ?_)
    refine uW k12 (cF rfl ?_)
    refine kS (tK k11 ?_)
    refine sK fun _ k16 => sK fun _ k17 => rL (uM rfl ?_)
    by_cases hb18 : b < 0
    ·refine uG (.bool true) rfl (ex_lss rfl rfl rfl (qT hb18)) (uM rfl ?_)
     refine uM rfl ?_
     refine uM rfl ?_
     refine uG (vI ((-9223372036854775808) - b)) rfl (ex_sub rfl rfl rfl (i64_in (by omega))) ?_
     by_cases hb19 : s < ((-9223372036854775808) - b)
     ·refine uG (.bool true) rfl (ex_lss rfl rfl rfl (qT hb19)) (uK rfl ?_)
      refine uW k17 (cT rfl ?_)
      refine sK fun _ k20 => rL (uA rfl ?_)
      refine uA rfl (uW k20 ?_)
      refine rR (tR ?_)
      refine bZ (tR ?_)
      refine tR (bZ ?_)
      refine tR (bodyPost_ret (results_tmp2 rfl _ _ _) rfl ?_)
      exact ⟨0, false, rfl, .inr ⟨rfl, by rw [addF_at hsum hb, if_neg (fun h9 : fitsI (s + b) => by have h8 := h9.1; have h7 := h9.2; omega)]⟩, hv⟩
     refine uG (.bool false) rfl (ex_lss rfl rfl rfl (qF hb19)) (uK rfl ?_)
     refine uW k17 (cF rfl ?_)
     refine kS (tK k16 ?_)
     refine rL (uM rfl ?_)
     refine uM rfl ?_
     refine uG (vI (s + b)) rfl (ex_add rfl rfl rfl (i64_in (by omega))) (uA rfl ?_)
     refine uZ (bN ?_)
     refine tK k9 (rL ?_)
     refine uG (vI ((i + 1 : Nat) : Int)) rfl (ex_add rfl rfl rfl (by rw [i64_in (by omega)]; omega)) (uM rfl ?_)
     refine uZ (then_normal ?_)
     go_roundw
     case rel => exact ⟨i + 1, s + b, rfl, rfl, by omega, by omega, by rw [addF_at hsum hb, if_pos (show fitsI (s + b) from ⟨by omega, by omega⟩)], hv⟩
     case measure => show bs.length - (((i + 1 : Nat) : Int)).toNat < bs.length - ((i : Int)).toNat; omega
    refine uG (.bool false) rfl (ex_lss rfl rfl rfl (qF hb18)) (uM rfl ?_)
    iterate 4 refine uP rfl ?_
    refine uK rfl (uW k17 ?_)
    refine cF rfl (kS ?_)
    refine tK k16 (rL ?_)
    refine uM rfl (uM rfl ?_)
    refine uG (vI (s + b)) rfl (ex_add rfl rfl rfl (i64_in (by omega))) (uA rfl ?_)
    refine uZ (bN ?_)
    refine tK k9 (rL ?_)
    refine uG (vI ((i + 1 : Nat) : Int)) rfl (ex_add rfl rfl rfl (by rw [i64_in (by omega)]; omega)) (uM rfl ?_)
    refine uZ (then_normal ?_)
    go_roundw
    case rel => exact ⟨i + 1, s + b, rfl, rfl, by omega, by omega, by rw [addF_at hsum hb, if_pos (show fitsI (s + b) from ⟨by omega, by omega⟩)], hv⟩
    case measure => show bs.length - (((i + 1 : Nat) : Int)).toNat < bs.length - ((i : Int)).toNat; omega
   refine uG (.bool false) rfl (ex_gtr rfl rfl rfl (qF hb13)) (uM rfl ?_)
   iterate 4 refine uP rfl ?_
   refine uK rfl (uW k12 ?_)
   refine cF rfl (kS ?_)
   refine tK k11 (sK fun _ k21 => ?_)
   refine sK fun _ k22 => rL (uM rfl ?_)
   by_cases hb23 : b < 0
   ·refine uG (.bool true) rfl (ex_lss rfl rfl rfl (qT hb23)) (uM rfl ?_)
    refine uM rfl ?_
    refine uM rfl ?_
    refine uG (vI ((-9223372036854775808) - b)) rfl (ex_sub rfl rfl rfl (i64_in (by omega))) ?_
    by_cases hb24 : s < ((-9223372036854775808) - b)
    ·refine uG (.bool true) rfl (ex_lss rfl rfl rfl (qT hb24)) (uK rfl ?_)
     refine uW k22 (cT rfl ?_)
     refine sK fun _ k25 => rL (uA rfl ?_)
     refine uA rfl (uW k25 ?_)
     refine rR (tR ?_)
     refine bZ (tR ?_)
     refine tR (bZ ?_)
     refine tR (bodyPost_ret (results_tmp2 rfl _ _ _) rfl ?_)
     exact ⟨0, false, rfl, .inr ⟨rfl, by rw [addF_at hsum hb, if_neg (fun h9 : fitsI (s + b) => by have h8 := h9.1; have h7 := h9.2; omega)]⟩, hv⟩
    refine uG (.bool false) rfl (ex_lss rfl rfl rfl (qF hb24)) (uK rfl ?_)
    refine uW k22 (cF rfl ?_)
    refine kS (tK k21 ?_)
    refine rL (uM rfl ?_)
    refine uM rfl ?_
    refine uG (vI (s + b)) rfl (ex_add rfl rfl rfl (i64_in (by omega))) (uA rfl ?_)
    refine uZ (bN ?_)
    refine tK k9 (rL ?_)
    refine uG (vI ((i + 1 : Nat) : Int)) rfl (ex_add rfl rfl rfl (by rw [i64_in (by omega)]; omega)) (uM rfl ?_)
    refine uZ (then_normal ?_)
    go_roundw
    case rel => exact ⟨i + 1, s + b, rfl, rfl, by omega, by omega, by rw [addF_at hsum hb, if_pos (show fitsI (s + b) from ⟨by omega, by omega⟩)], hv⟩
    case measure => show bs.length - (((i + 1 : Nat) : Int)).toNat < bs.length - ((i : Int)).toNat; omega
   refine uG (.bool false) rfl (ex_lss rfl rfl rfl (qF hb23)) (uM rfl ?_)
   iterate 4 refine uP rfl ?_
   refine uK rfl (uW k22 ?_)
   refine cF rfl (kS ?_)
   refine tK k21 (rL ?_)
   refine uM rfl (uM rfl ?_)
   refine uG (vI (s + b)) rfl (ex_add rfl rfl rfl (i64_in (by omega))) (uA rfl ?_)
   refine uZ (bN ?_)
   refine tK k9 (rL ?_)
   refine uG (vI ((i + 1 : Nat) : Int)) rfl (ex_add rfl rfl rfl (by rw [i64_in (by omega)]; omega)) (uM rfl ?_)
   refine uZ (then_normal ?_)
   go_roundw
   case rel => exact ⟨i + 1, s + b, rfl, rfl, by omega, by omega, by rw [addF_at hsum hb, if_pos (show fitsI (s + b) from ⟨by omega, by omega⟩)], hv⟩
   case measure => show bs.length - (((i + 1 : Nat) : Int)).toNat < bs.length - ((i : Int)).toNat; omega
  refine uG (.bool false) rfl (ex_lss rfl rfl rfl (qF hb7)) (uW k6 ?_)
  refine sK fun _ k26 => cF rfl (xE ?_)
  refine tX (tX ?_)
  refine bH (tK k3 ?_)
  refine sK fun _ k27 => rL (uM rfl ?_)
  refine uA rfl (uA rfl ?_)
  refine uW k27 (rR ?_)
  refine bodyPost_ret (results_tmp2 rfl _ _ _) rfl ?_
  obtain rfl : i = bs.length := by omega
  rw [List.drop_length] at hsum
  exact ⟨s, true, rfl, .inl ⟨rfl, hs, hsum⟩, hv⟩
theorem ckRef1 (B : Base) (H : List Res) (w : World) (a b : Int) (hv : Inv B H w) :
  Calls Tryz.prog 77 #[vI a, vI b] w fun e w' => ∃ r, e = .returned (.bool r) ∧ Inv B H w' := by
 refine cW Tryz.func77 rfl Tryz.ntmps77 ?_
 simp only [al]
 refine sK fun _ k1 => rL (uA rfl ?_)
 refine uW k1 (sK fun _ k2 => ?_)
 refine rL (uA rfl ?_)
 refine uW k2 (rR ?_)
 refine bR rfl rfl (⟨_, rfl, hv⟩)
theorem ckRef2 (B : Base) (H : List Res) (w : World) (a b : Int) (hv : Inv B H w) :
  Calls Tryz.prog 78 #[vI a, vI b] w fun e w' => ∃ r, e = .returned (.bool r) ∧ Inv B H w' := by
 refine cW Tryz.func78 rfl Tryz.ntmps78 ?_
 simp only [al]
 refine sK fun _ k1 => rL (uA rfl ?_)
 refine uW k1 (sK fun _ k2 => ?_)
 refine rL (uM rfl ?_)
 by_cases hb3 : a ≠ 0
 ·refine uG (.bool true) rfl (ex_neq rfl rfl rfl (qT hb3)) (uA rfl ?_)
  refine uW k2 (rR ?_)
  refine bR rfl rfl (⟨_, rfl, hv⟩)
 refine uG (.bool false) rfl (ex_neq rfl rfl rfl (qF hb3)) (uA rfl ?_)
 refine uW k2 (rR ?_)
 refine bR rfl rfl (⟨_, rfl, hv⟩)
theorem ckRef3 (B : Base) (H : List Res) (w : World) (a b : Int) (hv : Inv B H w) :
  Calls Tryz.prog 79 #[vI a, vI b] w fun e w' => ∃ r, e = .returned (.bool r) ∧ Inv B H w' := by
 refine cW Tryz.func79 rfl Tryz.ntmps79 ?_
 simp only [al]
 refine sK fun _ k1 => rL (uA rfl ?_)
 refine uW k1 (sK fun _ k2 => ?_)
 refine rL (uM rfl ?_)
 by_cases hb3 : a = 0
 ·refine uG (.bool true) rfl (ex_eql rfl rfl rfl (qT hb3)) (uA rfl ?_)
  refine uW k2 (rR ?_)
  refine bR rfl rfl (⟨_, rfl, hv⟩)
 refine uG (.bool false) rfl (ex_eql rfl rfl rfl (qF hb3)) (uA rfl ?_)
 refine uW k2 (rR ?_)
 refine bR rfl rfl (⟨_, rfl, hv⟩)
theorem ckRef4 (B : Base) (H : List Res) (w : World) (a b : Int) (hv : Inv B H w) :
  Calls Tryz.prog 80 #[vI a, vI b] w fun e w' => ∃ r, e = .returned (.bool r) ∧ Inv B H w' := by
 refine cW Tryz.func80 rfl Tryz.ntmps80 ?_
 simp only [al]
 refine sK fun _ k1 => rL (uA rfl ?_)
 refine uW k1 (sK fun _ k2 => ?_)
 refine rL (uM rfl ?_)
 by_cases hb3 : a = 0
 ·refine uG (.bool true) rfl (ex_eql rfl rfl rfl (qT hb3)) (uM rfl ?_)
  iterate 3 refine uP rfl ?_
  refine uK rfl (uA rfl ?_)
  refine uW k2 (rR ?_)
  refine bR rfl rfl (⟨_, rfl, hv⟩)
 refine uG (.bool false) rfl (ex_eql rfl rfl rfl (qF hb3)) (uM rfl ?_)
 refine uM rfl ?_
 refine uM rfl ?_
 by_cases hb4 : a ≥ b
 ·refine uG (.bool true) rfl (ex_geq rfl rfl rfl (qT hb4)) (uK rfl ?_)
  refine uA rfl (uW k2 ?_)
  refine rR (bR rfl rfl ?_)
  exact ⟨_, rfl, hv⟩
 refine uG (.bool false) rfl (ex_geq rfl rfl rfl (qF hb4)) (uK rfl ?_)
 refine uA rfl (uW k2 ?_)
 refine rR (bR rfl rfl ?_)
 exact ⟨_, rfl, hv⟩
theorem ckRef5 (B : Base) (H : List Res) (w : World) (a b : Int) (hv : Inv B H w) :
  Calls Tryz.prog 81 #[vI a, vI b] w fun e w' => ∃ r, e = .returned (.bool r) ∧ Inv B H w' := by
 refine cW Tryz.func81 rfl Tryz.ntmps81 ?_
 simp only [al]
 refine sK fun _ k1 => rL (uA rfl ?_)
 refine uW k1 (sK fun _ k2 => ?_)
 refine rL (uM rfl ?_)
 by_cases hb3 : a ≠ 0
 ·refine uG (.bool true) rfl (ex_neq rfl rfl rfl (qT hb3)) (uM rfl ?_)
  refine uM rfl ?_
  refine uM rfl ?_
  by_cases hb4 : a ≤ b
  ·refine uG (.bool true) rfl (ex_leq rfl rfl rfl (qT hb4)) (uK rfl ?_)
   refine uA rfl (uW k2 ?_)
   refine rR (bR rfl rfl ?_)
   exact ⟨_, rfl, hv⟩
  refine uG (.bool false) rfl (ex_leq rfl rfl rfl (qF hb4)) (uK rfl ?_)
  refine uA rfl (uW k2 ?_)
  refine rR (bR rfl rfl ?_)
  exact ⟨_, rfl, hv⟩
 refine uG (.bool false) rfl (ex_neq rfl rfl rfl (qF hb3)) (uM rfl ?_)
 iterate 3 refine uP rfl ?_
 refine uK rfl (uA rfl ?_)
 refine uW k2 (rR ?_)
 refine bR rfl rfl (⟨_, rfl, hv⟩)
def RefF (f : FuncId) : Prop := Callable Tryz.prog f ∧ ∀ (B : Base) (H : List Res) (w : World) (a b : Int), Inv B H w → Calls Tryz.prog f #[vI a, vI b] w fun e w' => ∃ r, e = .returned (.bool r) ∧ Inv B H w'
theorem refF1 : RefF 77 := ⟨⟨_, Tryz.func77, by kernel_rfl, by kernel_rfl⟩, ckRef1⟩
theorem refF2 : RefF 78 := ⟨⟨_, Tryz.func78, by kernel_rfl, by kernel_rfl⟩, ckRef2⟩
theorem refF3 : RefF 79 := ⟨⟨_, Tryz.func79, by kernel_rfl, by kernel_rfl⟩, ckRef3⟩
theorem refF4 : RefF 80 := ⟨⟨_, Tryz.func80, by kernel_rfl, by kernel_rfl⟩, ckRef4⟩
theorem refF5 : RefF 81 := ⟨⟨_, Tryz.func81, by kernel_rfl, by kernel_rfl⟩, ckRef5⟩
theorem is_4 {arg : List UInt8} {ws : List (List UInt8)} {r : Int} (h : IsI arg ws r) (hl : ws.length = 4) : r = -1 ∨ r = 0 ∨ r = 1 ∨ r = 2 ∨ r = 3 := by
 rcases h with ⟨rfl, -⟩ | ⟨i, x, rfl, hx, -⟩
 ·exact .inl rfl
 have := (List.getElem?_eq_some_iff.1 hx).1
 omega
theorem DelI.cmd {M M' : List (List UInt8 × Ver)} {clk e : Int} {k : List UInt8} {y : Ver} {r : Rp} {n : Int} (hO : OkM M) (hg : gotM M clk k = some y) (h : DelI M [k] e M') (hd : DoneR e (rInt n) r) : CmdR M M' r := by
 have hk := (hO.alive (got_some hg).1 (got_some hg).2).1
 rcases h with ⟨rfl, -, rfl⟩ | ⟨-, ⟨q, h1, h2⟩, -⟩
 ·refine ⟨hO.upd (.inl rfl), fun hf => ?_⟩
  rcases hd with ⟨-, rfl⟩ | ⟨h, -⟩
  ·exact absurd hf isF_int
  exact absurd rfl h
 rw [List.mem_singleton.1 h1] at h2; omega
theorem kMal34 : AL Tryz.prog 34 [vI 0, vS [], vI 0, vN] := fun w => by kernel_rfl
theorem kMmk9 : (Tryz.prog.info? 9).map (fun i => (i.zero, i.size, i.bytes)) = some (some (vS []), 1, 16) := by kernel_rfl
theorem kMel26 : Elem Tryz.prog 26 9 (vS []) 1 16 := elem_of Tryz.underlying26 kMmk9 (by rfl) (by decide)
theorem kMcallable213 : Callable Tryz.prog 213 := cb Tryz.func213 (by kernel_rfl)
theorem kMal50 : AL Tryz.prog 50 [vI 0, .bool false, vI 0, vI 0, vS [], vN, vN, vN] := fun w => by kernel_rfl
theorem kMmk3 : (Tryz.prog.info? 3).map (fun i => (i.zero, i.size, i.bytes)) = some (some (vI 0), 1, 8) := by kernel_rfl
theorem kMel145 : Elem Tryz.prog 145 3 (vI 0) 1 8 := elem_of Tryz.underlying145 kMmk3 (by rfl) (by decide)
theorem kMcallable83 : Callable Tryz.prog 83 := cb Tryz.func83 (by kernel_rfl)
theorem ckExpire (B : Base) (H : List Res) (w : World) (v t m s p wb : Nat) (va : Option Addr) (vc : Nat) (sv : Value) (clk : Int) (es : List (List UInt8 × Value)) (M : List (List UInt8 × Ver)) (hM : VM B es M) (hO : OkM M) (aa : Option Addr) (an ac : Nat) (rel : Bool) (k num : List UInt8) (wa : Option Addr) (wc : Nat) (ws : List (List UInt8)) (hrw : RdV B [] wa (textCells ws)) (hmw : ws.length ≤ 1000000) (hxl : ∀ x ∈ ws, x.length ≤ 9223372036854775807) (hN : NumB B) (h0c : 0 ≤ clk) (h1c : clk ≤ 1099511627776) (hv : Inv B (Res.cell v [.iface 100 (vP t)] 56 :: txR t m s p wb va vc sv clk es :: H) w) :
  Calls Tryz.prog 57 #[.agg #[vP v, .slice aa an ac], .bool rel, vS k, vS num, .slice wa ws.length wc] w fun e w' => ∃ C es' M' r cs, B.Le C ∧ e = .returned (.agg cs.toArray) ∧ RpAt C r cs ∧ VM C es' M' ∧ CmdR M M' r ∧ Inv C (Res.cell v [.iface 100 (vP t)] 56 :: txR t m s p wb va vc sv clk es' :: H) w' := by
 refine cW Tryz.func57 rfl Tryz.ntmps57 ?_
 simp only [al]
 refine sK fun _ k1 => rL (sl_box (L := [vP v, .slice aa an ac]) tV (wn rfl) rfl rfl hv (fun w => by kernel_rfl) (fun b2 w3 hv => ?_))
 simp only [zP, po]
 refine sl_alloc tV (wn rfl) rfl hv kMal34 (fun b4 w5 hv => ?_)
 refine uW k1 (sK fun _ k6 => ?_)
 refine rL (uA rfl ?_)
 refine uW k6 (sK fun _ k7 => ?_)
 refine sK fun _ k8 => rL (uM rfl ?_)
 refine uG (vI (ws.length : Int)) rfl (ex_len0 Tryz.underlying26 rfl rfl) (uM rfl ?_)
 refine uW k8 (bB ?_)
 gi_loopw [11, 24] (fun x11 x24 wr => ∃ (i : Nat) (fn : FuncId), x11 = .func (.func fn) #[] #[] ∧ x24 = vI i ∧ i ≤ ws.length ∧ RefF fn ∧ Inv B (Res.cell b4 [vI 0, vS [], vI 0, vN] 34 :: Res.cell b2 [vP v, .slice aa an ac] 80 :: Res.cell v [.iface 100 (vP t)] 56 :: txR t m s p wb va vc sv clk es :: H) wr) (fun x11 x24 _ => ws.length - (intOf x24).toNat)
 case atStart => exact ⟨0, _, rfl, rfl, Nat.zero_le _, refF1, hv⟩
 case round =>
  obtain ⟨i, fn, rfl, rfl, hi, hfn, hv⟩ := hrel
  refine sK fun _ k10 => rL ?_
  by_cases hb11 : (i : Int) < (ws.length : Int)
  ·refine uG (.bool true) rfl (ex_lss rfl rfl rfl (qT hb11)) (uW k10 ?_)
   refine sK fun _ k12 => cT rfl (kS ?_)
   refine tK k12 (sK fun _ k13 => ?_)
   refine bB (sK fun _ k14 => ?_)
   obtain ⟨x, hx⟩ : ∃ x, ws[i]? = some x := ⟨_, List.getElem?_eq_getElem (show i < ws.length by omega)⟩
   obtain ⟨kb, ko, had, hrdx⟩ := text_reads hrw hx
   subst had
   refine rL (uG (.pointer (some ⟨kb, ko + i, none⟩)) rfl (ex_index rfl rfl rfl (run_idx1 (k := i) Tryz.underlying26 s9es26 (by omega))) ?_)
   refine uL _ rfl (run_load1 s9na9 (hrdx _ _ _ (Base.Le.refl _) no_res hv 0 _ rfl)) (uA rfl ?_)
   refine uW k14 (sK fun _ k15 => ?_)
   refine rL (uM rfl ?_)
   refine sl_rowN (pv := #[(0, vS [78, 88]), (1, vS [88, 88]), (2, vS [71, 84]), (3, vS [76, 84])]) (L := [vS [78, 88], vS [88, 88], vS [71, 84], vS [76, 84]]) (e := 9) tV (wn rfl) rfl (by simp only [List.map_toArray, List.map_cons, List.map_nil]; rfl) hv (fun w => by kernel_rfl) (fun b16 w17 hv => ?_)
   simp only [zP, po]
   obtain ⟨D1, hD1, hv, hrk, -, -⟩ := (hv.cellRow (n := 4) (c := 4) (size := 1) rfl (by decide) (by decide)).rowBy
   refine xC v8callable75 rfl ((viewIs D1 _ _ x _ 4 [[78, 88], [88, 88], [71, 84], [76, 84]] hrk (by simp) (hxl x (List.mem_of_getElem? hx)) hv).mono ?_) rfl
   rintro e w18 ⟨r, rfl, his, hv⟩
   refine ⟨_, rfl, ?_⟩
   replace hv := hv.weak hD1
   rcases is_4 his rfl with rfl | rfl | rfl | rfl | rfl
   ·refine uW k15 (bB ?_)
    refine sK fun _ k19 => rL (uG (.bool false) rfl (ex_eql rfl rfl rfl (by decide)) ?_)
    refine uA rfl (uW k19 ?_)
    refine cF rfl (sK fun _ k20 => ?_)
    refine rL (uG (.bool false) rfl (ex_eql rfl rfl rfl (by decide)) ?_)
    refine uA rfl (uW k20 ?_)
    refine cF rfl (sK fun _ k21 => ?_)
    refine rL (uG (.bool false) rfl (ex_eql rfl rfl rfl (by decide)) ?_)
    refine uA rfl (uW k21 ?_)
    refine cF rfl (sK fun _ k22 => ?_)
    refine rL (uG (.bool false) rfl (ex_eql rfl rfl rfl (by decide)) ?_)
    refine uA rfl (uW k22 ?_)
    refine cF rfl (sK fun _ k23 => ?_)
    refine rL (xC rscallable29 rfl ((viewWrong B _ _ 42 hv).mono ?_) rfl)
    rintro e w25 ⟨s24, rfl, hv⟩
    refine ⟨_, rfl, ?_⟩
    simp only [zP, po]
    refine xS 0 rfl hv rssz34 rfl (by exact ⟨rfl, rfl, rfl, rfl, trivial⟩) (fun w26 hv => ?_)
    simp only [zO, sp] at hv
    refine uW k23 (rR ?_)
    refine bZ (bZ ?_)
    refine tR (tR ?_)
    refine bZ (tR ?_)
    refine bC 0 rswd34 hv rfl rfl rfl rfl (⟨B, es, M, (.mk 1 s24 0 []), _, (Base.Le.refl _), rfl, rpAt_leaf, hM.more (Base.Le.refl _), ⟨hO, fun _ => rfl⟩, (hv.kp [3, 3] 2 2)⟩)
   ·refine uW k15 (bB ?_)
    refine sK fun _ k27 => rL (uG (.bool true) rfl (ex_eql rfl rfl rfl (by decide)) ?_)
    refine uA rfl (uW k27 ?_)
    refine cT rfl (rL ?_)
    refine uA rfl (uZ ?_)
    refine bN (bN ?_)
    refine tK k13 (rL ?_)
    refine uG (vI ((i + 1 : Nat) : Int)) rfl (ex_add rfl rfl rfl (by rw [i64_in (by omega)]; omega)) (uM rfl ?_)
    refine uZ (then_normal ?_)
    simp only [vP, vI, vS, vN]
    go_roundw
    case rel => exact ⟨i + 1, _, rfl, rfl, by omega, refF2, ((((hv.front 3 rfl).front 3 rfl).front 3 rfl).front 3 rfl)⟩
    case measure => show ws.length - (((i + 1 : Nat) : Int)).toNat < ws.length - ((i : Int)).toNat; omega
   ·refine uW k15 (bB ?_)
    refine sK fun _ k28 => rL (uG (.bool false) rfl (ex_eql rfl rfl rfl (by decide)) ?_)
    refine uA rfl (uW k28 ?_)
    refine cF rfl (sK fun _ k29 => ?_)
    refine rL (uG (.bool true) rfl (ex_eql rfl rfl rfl (by decide)) ?_)
    refine uA rfl (uW k29 ?_)
    refine cT rfl (rL ?_)
    refine uA rfl (uZ ?_)
    refine bN (bN ?_)
    refine tK k13 (rL ?_)
    refine uG (vI ((i + 1 : Nat) : Int)) rfl (ex_add rfl rfl rfl (by rw [i64_in (by omega)]; omega)) (uM rfl ?_)
    refine uZ (then_normal ?_)
    simp only [vP, vI, vS, vN]
    go_roundw
    case rel => exact ⟨i + 1, _, rfl, rfl, by omega, refF3, ((((hv.front 3 rfl).front 3 rfl).front 3 rfl).front 3 rfl)⟩
    case measure => show ws.length - (((i + 1 : Nat) : Int)).toNat < ws.length - ((i : Int)).toNat; omega
   ·refine uW k15 (bB ?_)
    refine sK fun _ k30 => rL (uG (.bool false) rfl (ex_eql rfl rfl rfl (by decide)) ?_)
    refine uA rfl (uW k30 ?_)
    refine cF rfl (sK fun _ k31 => ?_)
    refine rL (uG (.bool false) rfl (ex_eql rfl rfl rfl (by decide)) ?_)
    refine uA rfl (uW k31 ?_)
    refine cF rfl (sK fun _ k32 => ?_)
    refine rL (uG (.bool true) rfl (ex_eql rfl rfl rfl (by decide)) ?_)
    refine uA rfl (uW k32 ?_)
    refine cT rfl (rL ?_)
    refine uA rfl (uZ ?_)
    refine bN (bN ?_)
    refine tK k13 (rL ?_)
    refine uG (vI ((i + 1 : Nat) : Int)) rfl (ex_add rfl rfl rfl (by rw [i64_in (by omega)]; omega)) (uM rfl ?_)
    refine uZ (then_normal ?_)
    simp only [vP, vI, vS, vN]
    go_roundw
    case rel => exact ⟨i + 1, _, rfl, rfl, by omega, refF4, ((((hv.front 3 rfl).front 3 rfl).front 3 rfl).front 3 rfl)⟩
    case measure => show ws.length - (((i + 1 : Nat) : Int)).toNat < ws.length - ((i : Int)).toNat; omega
   refine uW k15 (bB ?_)
   refine sK fun _ k33 => rL (uG (.bool false) rfl (ex_eql rfl rfl rfl (by decide)) ?_)
   refine uA rfl (uW k33 ?_)
   refine cF rfl (sK fun _ k34 => ?_)
   refine rL (uG (.bool false) rfl (ex_eql rfl rfl rfl (by decide)) ?_)
   refine uA rfl (uW k34 ?_)
   refine cF rfl (sK fun _ k35 => ?_)
   refine rL (uG (.bool false) rfl (ex_eql rfl rfl rfl (by decide)) ?_)
   refine uA rfl (uW k35 ?_)
   refine cF rfl (sK fun _ k36 => ?_)
   refine rL (uG (.bool true) rfl (ex_eql rfl rfl rfl (by decide)) ?_)
   refine uA rfl (uW k36 ?_)
   refine cT rfl (rL ?_)
   refine uA rfl (uZ ?_)
   refine bN (bN ?_)
   refine tK k13 (rL ?_)
   refine uG (vI ((i + 1 : Nat) : Int)) rfl (ex_add rfl rfl rfl (by rw [i64_in (by omega)]; omega)) (uM rfl ?_)
   refine uZ (then_normal ?_)
   simp only [vP, vI, vS, vN]
   go_roundw
   case rel => exact ⟨i + 1, _, rfl, rfl, by omega, refF5, ((((hv.front 3 rfl).front 3 rfl).front 3 rfl).front 3 rfl)⟩
   case measure => show ws.length - (((i + 1 : Nat) : Int)).toNat < ws.length - ((i : Int)).toNat; omega
  refine uG (.bool false) rfl (ex_lss rfl rfl rfl (qF hb11)) (uW k10 ?_)
  refine sK fun _ k37 => cF rfl (xE ?_)
  refine tX (tX ?_)
  refine bH (tK k7 ?_)
  refine sK fun _ k38 => rL (uM rfl ?_)
  refine sl_rowOne (v := vS num) tV (wn rfl) rfl rfl hv kMel26 rfl (fun b39 w40 hv => ?_)
  simp only [zP, po]
  obtain ⟨K41, hK41, hv, hrkK41, hokK41, -⟩ := (hv.cellRow (n := 1) (c := 1) (size := 1) rfl (by decide) (by decide)).rowBy
  refine xC v8callable82 rfl ((viewInts K41 _ _ _ 1 [num] hrkK41 (Nat.le_of_ble_eq_true rfl) (hN.more hK41) hv).mono ?_) rfl
  rintro e w42 ⟨E, ia, ic, ns, ei, hE, rfl, hri, hir, hv⟩
  refine ⟨_, rfl, uM rfl ?_⟩
  refine uE rfl (uE rfl ?_)
  refine uA rfl (uA rfl ?_)
  refine uW k38 (sK fun _ k43 => ?_)
  refine sK fun _ k44 => rL (uM rfl ?_)
  by_cases hb45 : ei ≠ 0
  ·refine uG (.bool true) rfl (ex_neq rfl rfl rfl (qT hb45)) (uW k44 ?_)
   refine cT rfl (sK fun _ k46 => ?_)
   refine rL (uM rfl ?_)
   refine xC rscallable29 rfl ((viewWrong E _ _ ei hv).mono ?_) rfl
   rintro e w48 ⟨s47, rfl, hv⟩
   refine ⟨_, rfl, ?_⟩
   simp only [zP, po]
   refine xS 0 rfl hv rssz34 rfl (by exact ⟨rfl, rfl, rfl, rfl, trivial⟩) (fun w49 hv => ?_)
   simp only [zO, sp] at hv
   refine uW k46 (rR ?_)
   refine tR (bC 0 rswd34 hv rfl rfl rfl rfl ?_)
   exact ⟨E, es, M, (.mk 1 s47 0 []), _, (hK41.trans hE), rfl, rpAt_leaf, hM.more (hK41.trans hE), ⟨hO, fun _ => rfl⟩, (hv.kp [3, 3] 2 2)⟩
  refine uG (.bool false) rfl (ex_neq rfl rfl rfl (qF hb45)) (uW k44 ?_)
  refine cF rfl (kS ?_)
  refine tK k43 (sK fun _ k50 => ?_)
  obtain ⟨hnl, hnum⟩ : ns.length = 1 ∧ ∀ (i : Nat) t n, [num][i]? = some t → ns[i]? = some n → NumP t n true := hir.elim (fun h => ⟨h.2.1, h.2.2⟩) fun h => absurd h.1 (by omega)
  obtain ⟨at0, rfl⟩ : ∃ n0, ns = [n0] := by
   match ns, hnl with
   | [n0], _ => exact ⟨n0, rfl⟩
  have hrg := numP_rng (hnum 0 num at0 rfl rfl)
  obtain ⟨ib, io, had, hrd0⟩ := int_reads hri (show [at0][0]? = some at0 from rfl)
  subst had
  refine rW mixed [8] [0,1,2,3,4,5,6,7,8,9,10] 121 rfl (by kernel_rfl) hv ?_
  simp only [qm, opAt]
  refine dM (.slice (some ⟨ib, io, none⟩) ([at0].length) ic) rfl (dG (.pointer (some ⟨ib, io + 0, none⟩)) rfl (ex_index rfl rfl rfl (run_idx1 (k := 0) Tryz.underlying145 s11es145 (by omega))) ?_)
  refine dF _ rfl (fun hv => ex_load rfl rfl (run_load1 s2na3 (hrd0 _ _ _ (Base.Le.refl _) no_res hv 0 _ rfl))) fun f51 hf51 => ?_
  simp only [zP, po]
  refine dG (vP b2) rfl (ex_field rfl rfl (k1fa80_0 _ _ _)) (dL _ rfl (fun hv => ex_load rfl rfl (run_load1 k1na24 (hv.load 1 0 rfl rfl))) ?_)
  refine dG (vP v) rfl (ex_nil rfl rfl) ?_
  simp only [zP, po]
  refine dG (vP v) rfl (ex_field rfl rfl (v1fa56_0 _ _ _)) (dL _ rfl (fun hv => ex_load rfl rfl (run_load1 v1na54 (hv.load 2 0 rfl rfl))) ?_)
  refine dS rfl fun w52 hv => ?_
  replace hv := hv.front 3 rfl
  simp only [eS, eZ] at hv
  refine stepMem_callI kMcallable213 rfl rfl rfl (r := vP t) (fun w => by kernel_rfl) (args := #[]) (by simp only [List.map_toArray, List.map_nil]) ((txnClock E _ _ t m s p wb va vc sv clk es hv).mono ?_)
  rintro e w53 ⟨rfl, hv⟩
  refine ⟨_, rfl, dV hv (fC (fun ww hv => hf51 ww (ex_load rfl rfl (run_load1 s2na3 (hrd0 _ _ _ (Base.Le.refl _) no_res hv 0 _ rfl)))) fN) ?_⟩
  simp only [zP, po]
  refine dA (vI at0) rfl (dA (vI clk) rfl ?_)
  refine dE fun w54 hv => ?_
  simp only [zP, po]
  refine tK k50 (sK fun K55 k55 => ?_)
  have hJ55 : ∀ (at1 : Int) (j18 j19 j60 j61 j62 j63 j64 j65 j66 j67 j68 j69 j70 j71 j72 j73 j74 j75 : Value) (w56 : World), Inv E (txR t m s p wb va vc sv clk es :: Res.cell b4 [vI 0, vS [], vI 0, vN] 34 :: Res.cell b2 [vP v, .slice aa an ac] 80 :: Res.cell v [.iface 100 (vP t)] 56 :: H) w56 → K55 { tmps := List.toArray (.agg #[vP v, .slice aa an ac] :: .bool rel :: vS k :: vS num :: .slice wa ws.length wc :: vP b2 :: undef :: undef :: undef :: undef :: vP b4 :: .func (.func fn) #[] #[] :: undef :: u13 :: .slice (some ⟨ib, io, none⟩) ([at0].length) ic :: vI ei :: vI at1 :: vI clk :: j18 :: j19 :: undef :: undef :: .slice wa ws.length wc :: vI (ws.length : Int) :: vI i :: .bool false :: u26 :: u27 :: u28 :: u29 :: u30 :: u31 :: u32 :: u33 :: u34 :: u35 :: u36 :: u37 :: u38 :: u39 :: u40 :: .tuple #[.slice (some ⟨ib, io, none⟩) ([at0].length) ic, vI ei] :: vS num :: .slice (some ⟨b39, 0, none⟩) 1 1 :: .tuple #[.slice (some ⟨ib, io, none⟩) ([at0].length) ic, vI ei] :: .slice (some ⟨ib, io, none⟩) ([at0].length) ic :: vI ei :: vI ei :: .bool false :: undef :: undef :: .slice (some ⟨ib, io, none⟩) ([at0].length) ic :: .pointer (some ⟨ib, io + 0, none⟩) :: vI at0 :: vP b2 :: vP v :: vP v :: vP v :: .iface 100 (vP t) :: vI clk :: j60 :: j61 :: j62 :: j63 :: j64 :: j65 :: j66 :: j67 :: j68 :: j69 :: j70 :: j71 :: j72 :: j73 :: j74 :: j75 :: undef :: undef :: undef :: undef :: undef :: undef :: undef :: undef :: undef :: undef :: undef :: undef :: undef :: undef :: undef :: undef :: undef :: undef :: undef :: undef :: undef :: undef :: undef :: undef :: undef :: undef :: undef :: undef :: undef :: undef :: undef :: undef :: undef :: undef :: undef :: undef :: undef :: undef :: undef :: undef :: undef :: undef :: undef :: undef :: undef :: []), defers := [] } w56 := by
   intro at1 j18 j19 j60 j61 j62 j63 j64 j65 j66 j67 j68 j69 j70 j71 j72 j73 j74 j75 w56 hv
   refine k55 _ _ (sK fun _ k57 => ?_)
   refine sK fun _ k58 => rL (uM rfl ?_)
   by_cases hb59 : at1 > 1099511627776
   ·refine uG (.bool true) rfl (ex_gtr rfl rfl rfl (qT hb59)) (uW k58 ?_)
    refine cT rfl (sK fun _ k60 => ?_)
    refine rL (xC rscallable29 rfl ((viewWrong E _ _ 13 hv).mono ?_) rfl)
    rintro e w62 ⟨s61, rfl, hv⟩
    refine ⟨_, rfl, ?_⟩
    simp only [zP, po]
    refine xS 1 rfl hv rssz34 rfl (by exact ⟨rfl, rfl, rfl, rfl, trivial⟩) (fun w63 hv => ?_)
    simp only [zS, zO, sp] at hv
    refine uW k60 (rR ?_)
    refine tR (bC 1 rswd34 hv rfl rfl rfl rfl ?_)
    exact ⟨E, es, M, (.mk 1 s61 0 []), _, (hK41.trans hE), rfl, rpAt_leaf, hM.more (hK41.trans hE), ⟨hO, fun _ => rfl⟩, (hv.kp [3] 2 2)⟩
   refine uG (.bool false) rfl (ex_gtr rfl rfl rfl (qF hb59)) (uW k58 ?_)
   refine cF rfl (kS ?_)
   refine tK k57 (sK fun _ k64 => ?_)
   refine rL (uF (vP b2) rfl (k1fa80_0 _ _ _) ?_)
   refine uL _ rfl (run_load1 k1na24 (hv.load 2 0 rfl rfl)) ?_
   refine uG (vP v) rfl (ex_nil rfl rfl) ?_
   refine uF (vP v) rfl (v1fa56_0 _ _ _) ?_
   refine uL _ rfl (run_load1 v1na54 (hv.load 3 0 rfl rfl)) (uM rfl ?_)
   refine wpi_callI v1callable215 tV wideC rfl (wn rfl) rfl rfl (r := vP t) (fun w => by kernel_rfl) (args := #[vS k]) (by simp only [List.map_toArray, List.map_cons, List.map_nil]; rfl) ((txnGet E _ _ t m s p wb va vc sv clk es M k (hM.more (hK41.trans hE)) hv).mono ?_)
   rintro e w65 ⟨G, y, yp, yt, yz, oky, hG, rfl, hgot, hyv, hv⟩
   refine ⟨_, rfl, ?_⟩
   rcases got_of hgot with ⟨rfl, hg⟩ | ⟨rfl, rfl, hg⟩
   ·refine uM rfl (uE rfl ?_)
    refine uE rfl ?_
    refine sl_alloc tV (wn rfl) rfl hv kMal50 (fun b66 w67 hv => ?_)
    simp only [zP, po]
    refine xS 0 rfl hv x0sz50 rfl (by exact ⟨rfl, rfl, rfl, rfl, rfl, hyv.p.one, hyv.t.one, hyv.z.one, trivial⟩) (fun w68 hv => ?_)
    simp only [zO, sp] at hv
    refine uA rfl (uW k64 ?_)
    refine sK fun _ k69 => sK fun _ k70 => rL (uM rfl ?_)
    refine uG (.bool false) rfl (ex_not rfl rfl rfl) (uM rfl ?_)
    refine uM rfl ?_
    refine uF (.pointer (some ⟨b66, 2, none⟩)) rfl (s2fa50_2 _ _ _) ?_
    refine uL _ rfl (run_load1 s2na3 (hv.load 0 2 rfl rfl)) ?_
    refine uM rfl ?_
    refine wpi_callV hfn.1 tV wideC rfl (wanted_of (j := 2) (d := 91) (b := false) rfl rfl rfl) rfl rfl (args := #[vI y.expire, vI at1]) (by simp only [List.map_toArray, List.map_cons, List.map_nil]; rfl) ((hfn.2 G _ _ _ _ hv).mono ?_)
    rintro e w72 ⟨rf71, rfl, hv⟩
    refine ⟨_, rfl, uK rfl ?_⟩
    refine uW k70 (wpIn_cond_split (t := rf71) rfl (fun hc73 => ?_) (fun hc73 => ?_))
    ·refine sK fun _ k74 => rL (xC k6callable54 rfl ((respInt G _ _ 0 hv).mono ?_) rfl)
     rintro e w75 ⟨rfl, hv⟩
     refine ⟨_, rfl, ?_⟩
     simp only [zP, po]
     refine xS 2 rfl hv rssz34 rfl (by exact ⟨rfl, rfl, rfl, rfl, trivial⟩) (fun w76 hv => ?_)
     simp only [zS, zO, sp] at hv
     refine uW k74 (rR ?_)
     refine tR (bC 2 rswd34 hv rfl rfl rfl rfl ?_)
     exact ⟨G, es, M, (.mk 2 ([] : List UInt8) 0 []), _, ((hK41.trans hE).trans hG), rfl, rpAt_leaf, hM.more ((hK41.trans hE).trans hG), ⟨hO, fun _ => rfl⟩, (hv.kp [1, 4] 2 3)⟩
    refine kS (tK k69 ?_)
    refine sK fun _ k77 => sK fun _ k78 => rL (uM rfl ?_)
    refine uM rfl ?_
    by_cases hb79 : at1 ≤ clk
    ·refine uG (.bool true) rfl (ex_leq rfl rfl rfl (qT hb79)) (uW k78 ?_)
     refine cT rfl (sK fun _ k80 => ?_)
     refine rL (uF (vP b2) rfl (k1fa80_0 _ _ _) ?_)
     refine uL _ rfl (run_load1 k1na24 (hv.load 3 0 rfl rfl)) ?_
     refine uG (vP v) rfl (ex_nil rfl rfl) ?_
     refine uF (vP v) rfl (v1fa56_0 _ _ _) ?_
     refine uL _ rfl (run_load1 v1na54 (hv.load 4 0 rfl rfl)) (uM rfl ?_)
     refine sl_rowOne (v := vS k) tV (wn rfl) rfl rfl hv kMel26 rfl (fun b81 w82 hv => ?_)
     simp only [zP, po]
     obtain ⟨K83, hK83, hv, hrkK83, hokK83, -⟩ := (hv.cellRow (n := 1) (c := 1) (size := 1) rfl (by decide) (by decide)).rowBy
     replace hv := hv.front 1 rfl
     simp only [eS, eZ] at hv
     refine wpi_callI v1callable214 tV wideC rfl (wn rfl) rfl rfl (r := vP t) (fun w => by kernel_rfl) (args := #[.slice (some ⟨b81, 0, none⟩) 1 1]) (by simp only [List.map_toArray, List.map_cons, List.map_nil]; rfl) ((txnDel K83 _ _ t m s p wb va vc sv clk es M _ 1 [k] hrkK83 (by simp) (hM.more (((hK41.trans hE).trans hG).trans hK83)) hv).mono ?_)
     rintro e w84 ⟨es2, e2, rfl, hdel, hv⟩
     refine ⟨_, rfl, ?_⟩
     obtain ⟨M2, hM2, hdl⟩ := delI_of (hM.more (((hK41.trans hE).trans hG).trans hK83)) hdel
     simp only [zP, po]
     refine xC k6callable54 rfl ((respInt K83 _ _ 1 hv).mono ?_) rfl
     rintro e w85 ⟨rfl, hv⟩
     refine ⟨_, rfl, ?_⟩
     simp only [zP, po]
     refine xC k6callable56 rfl ((viewDone K83 _ _ e2 2 1 ([] : List UInt8) (vN) rfl rfl hv).mono ?_) rfl
     rintro e w86 ⟨xr, hxr, rfl, hv⟩
     refine ⟨_, rfl, ?_⟩
     rcases hxr with ⟨hec0, rfl⟩ | ⟨hec0, s87, rfl⟩
     ·simp only [zP, po]
      refine xS 2 rfl hv rssz34 rfl (by exact ⟨rfl, rfl, rfl, rfl, trivial⟩) (fun w88 hv => ?_)
      simp only [zS, zO, sp] at hv
      refine uW k80 (rR ?_)
      refine tR (bC 2 rswd34 hv rfl rfl rfl rfl ?_)
      exact ⟨K83, es2, M2, (.mk 2 ([] : List UInt8) 1 []), _, (((hK41.trans hE).trans hG).trans hK83), rfl, rpAt_leaf, hM2.more (Base.Le.refl _), DelI.cmd (n := 1) hO hg hdl (.inl ⟨by omega, rfl⟩), (hv.kp [4] 2 3)⟩
     simp only [zP, po]
     refine xS 2 rfl hv rssz34 rfl (by exact ⟨rfl, rfl, rfl, rfl, trivial⟩) (fun w89 hv => ?_)
     simp only [zS, zO, sp] at hv
     refine uW k80 (rR ?_)
     refine tR (bC 2 rswd34 hv rfl rfl rfl rfl ?_)
     exact ⟨K83, es2, M2, (.mk 1 s87 0 []), _, (((hK41.trans hE).trans hG).trans hK83), rfl, rpAt_leaf, hM2.more (Base.Le.refl _), DelI.cmd (n := 1) hO hg hdl (.inr ⟨by omega, rfl⟩), (hv.kp [4] 2 3)⟩
    refine uG (.bool false) rfl (ex_leq rfl rfl rfl (qF hb79)) (uW k78 ?_)
    refine cF rfl (kS ?_)
    refine tK k77 (sK fun _ k90 => ?_)
    refine rL (uF (vP b2) rfl (k1fa80_0 _ _ _) ?_)
    refine uL _ rfl (run_load1 k1na24 (hv.load 3 0 rfl rfl)) (uM rfl ?_)
    refine uF (.pointer (some ⟨b66, 3, none⟩)) rfl (x2fa50_3 _ _ _) ?_
    refine uL (.agg #[vI y.val.kind, vS y.val.text, yp, yt, yz]) rfl (lM 0 s1wd43 hv rfl rfl rfl rfl) (uM rfl ?_)
    replace hv := hv.front 1 rfl
    simp only [eS, eZ] at hv
    replace hv := hv.front 4 rfl
    simp only [eS, eZ] at hv
    refine xC k6callable16 rfl ((viewKeep G _ _ v t m s p wb va vc sv clk es M k y.val yp yt yz at1 (hM.more ((hK41.trans hE).trans hG)) (hyv.more (Base.Le.refl _)) hv).mono ?_) rfl
    rintro e w91 ⟨D, es1, M1, e1, hD, rfl, hM1, hkp, hv⟩
    refine ⟨_, rfl, ?_⟩
    simp only [zP, po]
    refine xC k6callable54 rfl ((respInt D _ _ 1 hv).mono ?_) rfl
    rintro e w92 ⟨rfl, hv⟩
    refine ⟨_, rfl, ?_⟩
    simp only [zP, po]
    refine xC k6callable56 rfl ((viewDone D _ _ e1 2 1 ([] : List UInt8) (vN) rfl rfl hv).mono ?_) rfl
    rintro e w93 ⟨xr, hxr, rfl, hv⟩
    refine ⟨_, rfl, ?_⟩
    rcases hxr with ⟨hec0, rfl⟩ | ⟨hec0, s94, rfl⟩
    ·simp only [zP, po]
     refine xS 3 rfl hv rssz34 rfl (by exact ⟨rfl, rfl, rfl, rfl, trivial⟩) (fun w95 hv => ?_)
     simp only [zS, zO, sp] at hv
     refine uW k90 (rR ?_)
     refine bC 3 rswd34 hv rfl rfl rfl rfl (⟨D, es1, M1, (.mk 2 ([] : List UInt8) 1 []), _, (((hK41.trans hE).trans hG).trans hD), rfl, rpAt_leaf, hM1.more (Base.Le.refl _), DoneR.keep (ec := e1) hO hkp (r0 := rInt 1) (.inl ⟨by omega, rfl⟩) isF_int, (hv.kp [1, 1] 2 3)⟩)
    simp only [zP, po]
    refine xS 3 rfl hv rssz34 rfl (by exact ⟨rfl, rfl, rfl, rfl, trivial⟩) (fun w96 hv => ?_)
    simp only [zS, zO, sp] at hv
    refine uW k90 (rR ?_)
    refine bC 3 rswd34 hv rfl rfl rfl rfl (⟨D, es1, M1, (.mk 1 s94 0 []), _, (((hK41.trans hE).trans hG).trans hD), rfl, rpAt_leaf, hM1.more (Base.Le.refl _), DoneR.keep (ec := e1) hO hkp (r0 := rInt 1) (.inr ⟨by omega, rfl⟩) isF_int, (hv.kp [1, 1] 2 3)⟩)
   refine uM rfl (uE rfl ?_)
   refine uE rfl ?_
   refine sl_alloc tV (wn rfl) rfl hv kMal50 (fun b97 w98 hv => ?_)
   simp only [zP, po]
   refine xS 0 rfl hv x0sz50 rfl (by exact ⟨rfl, rfl, rfl, rfl, rfl, hyv.p.one, hyv.t.one, hyv.z.one, trivial⟩) (fun w99 hv => ?_)
   simp only [zO, sp] at hv
   refine uA rfl (uW k64 ?_)
   refine sK fun _ k100 => sK fun _ k101 => rL (uM rfl ?_)
   refine uG (.bool true) rfl (ex_not rfl rfl rfl) (uM rfl ?_)
   iterate 5 refine uP rfl ?_
   refine uK rfl (uW k101 ?_)
   refine cT rfl (sK fun _ k102 => ?_)
   refine rL (xC k6callable54 rfl ((respInt G _ _ 0 hv).mono ?_) rfl)
   rintro e w103 ⟨rfl, hv⟩
   refine ⟨_, rfl, ?_⟩
   simp only [zP, po]
   refine xS 2 rfl hv rssz34 rfl (by exact ⟨rfl, rfl, rfl, rfl, trivial⟩) (fun w104 hv => ?_)
   simp only [zS, zO, sp] at hv
   refine uW k102 (rR ?_)
   refine tR (bC 2 rswd34 hv rfl rfl rfl rfl ?_)
   exact ⟨G, es, M, (.mk 2 ([] : List UInt8) 0 []), _, ((hK41.trans hE).trans hG), rfl, rpAt_leaf, hM.more ((hK41.trans hE).trans hG), ⟨hO, fun _ => rfl⟩, (hv.kp [1, 4] 2 3)⟩
  refine sK fun _ k105 => rL (uM rfl ?_)
  refine uW k105 (wpIn_cond_split (t := rel) rfl (fun hc106 => ?_) (fun hc106 => ?_))
  ·refine sK fun _ k107 => rL (uM rfl ?_)
   refine uM rfl ?_
   refine sl_rowOne (v := vI at0) tV (wn rfl) rfl rfl hv kMel145 rfl (fun b108 w109 hv => ?_)
   simp only [zP, po]
   obtain ⟨P, hP, hv, hrp, -, -⟩ := (hv.cellRow (n := 1) (c := 1) (size := 1) rfl (by decide) (by decide)).rowBy
   refine xC kMcallable83 rfl ((numAdd P _ _ clk (by omega) _ 1 [at0] hrp (Nat.le_of_ble_eq_true rfl) (fun b hb => by rw [List.mem_singleton.1 hb]; exact hrg) hv).mono ?_) rfl
   rintro e w110 ⟨sm, sok, rfl, hadd, hv⟩
   refine ⟨_, rfl, ?_⟩
   cases sok
   ·refine uM rfl (uE rfl ?_)
    refine uE rfl (uA rfl ?_)
    refine uA rfl (uW k107 ?_)
    refine sK fun _ k111 => sK fun _ k112 => rL (uM rfl ?_)
    refine uG (.bool true) rfl (ex_not rfl rfl rfl) (uM rfl ?_)
    refine uM rfl ?_
    by_cases hb113 : at0 > 0
    ·refine uG (.bool true) rfl (ex_gtr rfl rfl rfl (qT hb113)) (uK rfl ?_)
     refine uW k112 (cT rfl ?_)
     refine sK fun _ k114 => rL (xC rscallable29 rfl ((viewWrong P _ _ 13 hv).mono ?_) rfl)
     rintro e w116 ⟨s115, rfl, hv⟩
     refine ⟨_, rfl, ?_⟩
     simp only [zP, po]
     refine xS 1 rfl hv rssz34 rfl (by exact ⟨rfl, rfl, rfl, rfl, trivial⟩) (fun w117 hv => ?_)
     simp only [zS, zO, sp] at hv
     refine uW k114 (rR ?_)
     refine tR (tR ?_)
     clear hJ55
     refine bC 1 rswd34 hv rfl rfl rfl rfl (⟨P, es, M, (.mk 1 s115 0 []), _, ((hK41.trans hE).trans hP), rfl, rpAt_leaf, hM.more ((hK41.trans hE).trans hP), ⟨hO, fun _ => rfl⟩, (hv.kp [3] 2 2)⟩)
    refine uG (.bool false) rfl (ex_gtr rfl rfl rfl (qF hb113)) (uK rfl ?_)
    refine uW k112 (cF rfl ?_)
    refine kS (tK k111 ?_)
    refine rL (uM rfl ?_)
    refine uA rfl (uZ ?_)
    exact then_normal (hJ55 sm _ _ _ _ _ _ _ _ _ _ _ _ _ _ _ _ _ _ _ ((((((hv.front 3 rfl).front 3 rfl).front 3 rfl).front 3 rfl)).weak hP))
   refine uM rfl (uE rfl ?_)
   refine uE rfl (uA rfl ?_)
   refine uA rfl (uW k107 ?_)
   refine sK fun _ k118 => sK fun _ k119 => rL (uM rfl ?_)
   refine uG (.bool false) rfl (ex_not rfl rfl rfl) (uM rfl ?_)
   refine uP rfl ?_
   refine uP rfl (uK rfl ?_)
   refine uW k119 (cF rfl ?_)
   refine kS (tK k118 ?_)
   refine rL (uM rfl ?_)
   refine uA rfl (uZ ?_)
   exact then_normal (hJ55 sm _ _ _ _ _ _ _ _ _ _ _ _ _ _ _ _ _ _ _ ((((((hv.front 3 rfl).front 3 rfl).front 3 rfl).front 3 rfl)).weak hP))
  refine kS (then_normal (hJ55 at0 _ _ _ _ _ _ _ _ _ _ _ _ _ _ _ _ _ _ _ (((((hv.front 3 rfl).front 3 rfl).front 3 rfl).front 3 rfl))))
theorem kNal34 : AL Tryz.prog 34 [vI 0, vS [], vI 0, vN] := fun w => by kernel_rfl
theorem kNal50 : AL Tryz.prog 50 [vI 0, .bool false, vI 0, vI 0, vS [], vN, vN, vN] := fun w => by kernel_rfl
theorem kNcallable213 : Callable Tryz.prog 213 := cb Tryz.func213 (by kernel_rfl)
theorem ckTime (B : Base) (H : List Res) (w : World) (v t m s p wb : Nat) (va : Option Addr) (vc : Nat) (sv : Value) (clk : Int) (es : List (List UInt8 × Value)) (M : List (List UInt8 × Ver)) (hM : VM B es M) (hO : OkM M) (aa : Option Addr) (an ac : Nat) (name k : List UInt8) (hv : Inv B (Res.cell v [.iface 100 (vP t)] 56 :: txR t m s p wb va vc sv clk es :: H) w) :
  Calls Tryz.prog 66 #[.agg #[vP v, .slice aa an ac], vS name, vS k] w fun e w' => ∃ C es' M' r cs, B.Le C ∧ e = .returned (.agg cs.toArray) ∧ RpAt C r cs ∧ VM C es' M' ∧ CmdR M M' r ∧ Inv C (Res.cell v [.iface 100 (vP t)] 56 :: txR t m s p wb va vc sv clk es' :: H) w' := by
 refine cW Tryz.func66 rfl Tryz.ntmps66 ?_
 simp only [al]
 refine sK fun _ k1 => rL (sl_box (L := [vP v, .slice aa an ac]) tV (wn rfl) rfl rfl hv (fun w => by kernel_rfl) (fun b2 w3 hv => ?_))
 refine sl_alloc tV (wn rfl) rfl hv kNal34 (fun b4 w5 hv => ?_)
 refine uW k1 (sK fun _ k6 => ?_)
 refine rL (uF (vP b2) rfl (k1fa80_0 _ _ _) ?_)
 refine uL _ rfl (run_load1 k1na24 (hv.load 1 0 rfl rfl)) ?_
 refine uG (vP v) rfl (ex_nil rfl rfl) ?_
 refine uF (vP v) rfl (v1fa56_0 _ _ _) ?_
 refine uL _ rfl (run_load1 v1na54 (hv.load 2 0 rfl rfl)) (uM rfl ?_)
 replace hv := hv.front 3 rfl
 simp only [eS, eZ] at hv
 refine wpi_callI v1callable215 tV wideC rfl (wn rfl) rfl rfl (r := vP t) (fun w => by kernel_rfl) (args := #[vS k]) (by simp only [List.map_toArray, List.map_cons, List.map_nil]; rfl) ((txnGet B _ _ t m s p wb va vc sv clk es M k (hM.more (Base.Le.refl _)) hv).mono ?_)
 rintro e w7 ⟨G, y, yp, yt, yz, oky, hG, rfl, hgot, hyv, hv⟩
 refine ⟨_, rfl, ?_⟩
 rcases got_of hgot with ⟨rfl, hg⟩ | ⟨rfl, rfl, hg⟩
 ·refine uM rfl (uE rfl ?_)
  refine uE rfl ?_
  refine sl_alloc tV (wn rfl) rfl hv kNal50 (fun b8 w9 hv => ?_)
  refine xS 0 rfl hv x0sz50 rfl (by exact ⟨rfl, rfl, rfl, rfl, rfl, hyv.p.one, hyv.t.one, hyv.z.one, trivial⟩) (fun w10 hv => ?_)
  simp only [zO, sp] at hv
  refine uA rfl (uW k6 ?_)
  refine sK fun _ k11 => rL (uM rfl ?_)
  refine uM rfl ?_
  refine uF (.pointer (some ⟨b8, 2, none⟩)) rfl (s2fa50_2 _ _ _) ?_
  refine uL _ rfl (run_load1 s2na3 (hv.load 0 2 rfl rfl)) ?_
  by_cases hb12 : y.expire = 0
  ·refine uG (.bool true) rfl (ex_eql rfl rfl rfl (qT hb12)) (uK rfl ?_)
   refine uA rfl (uW k11 ?_)
   refine sK fun _ k13 => bB (sK fun _ k14 => ?_)
   refine rL (uM rfl ?_)
   by_cases hb15 : name = ([80, 69, 82, 83, 73, 83, 84] : List UInt8)
   ·refine uG (.bool true) rfl (ex_seql rfl rfl rfl (qT hb15)) (uA rfl ?_)
    refine uW k14 (cT rfl ?_)
    refine sK fun _ k16 => sK fun _ k17 => rL (uM rfl ?_)
    refine uG (.bool false) rfl (ex_not rfl rfl rfl) (uM rfl ?_)
    refine uM rfl (uK rfl ?_)
    refine uW k17 (cT rfl ?_)
    refine sK fun _ k18 => rL (xC k6callable54 rfl ((respInt G _ _ 0 hv).mono ?_) rfl)
    rintro e w19 ⟨rfl, hv⟩
    refine ⟨_, rfl, ?_⟩
    refine xS 2 rfl hv rssz34 rfl (by exact ⟨rfl, rfl, rfl, rfl, trivial⟩) (fun w20 hv => ?_)
    simp only [zS, zO, sp] at hv
    refine uW k18 (rR ?_)
    refine tR (bZ ?_)
    refine tR (bC 2 rswd34 hv rfl rfl rfl rfl ?_)
    exact ⟨G, es, M, (.mk 2 ([] : List UInt8) 0 []), _, hG, rfl, rpAt_leaf, hM.more hG, ⟨hO, fun _ => rfl⟩, (hv.kp [1, 4] 2 3)⟩
   refine uG (.bool false) rfl (ex_seql rfl rfl rfl (qF hb15)) (uA rfl ?_)
   refine uW k14 (cF rfl ?_)
   refine sK fun _ k21 => rL (uM rfl ?_)
   refine uG (.bool false) rfl (ex_not rfl rfl rfl) (uA rfl ?_)
   refine uW k21 (cF rfl ?_)
   refine sK fun _ k22 => rL (uM rfl ?_)
   refine uA rfl (uW k22 ?_)
   refine cT rfl (sK fun _ k23 => ?_)
   refine rL (xC k6callable54 rfl ((respInt G _ _ (-1) hv).mono ?_) rfl)
   rintro e w24 ⟨rfl, hv⟩
   refine ⟨_, rfl, ?_⟩
   refine xS 2 rfl hv rssz34 rfl (by exact ⟨rfl, rfl, rfl, rfl, trivial⟩) (fun w25 hv => ?_)
   simp only [zS, zO, sp] at hv
   refine uW k23 (rR ?_)
   refine bZ (tR ?_)
   refine bC 2 rswd34 hv rfl rfl rfl rfl (⟨G, es, M, (.mk 2 ([] : List UInt8) (-1) []), _, hG, rfl, rpAt_leaf, hM.more hG, ⟨hO, fun _ => rfl⟩, (hv.kp [1, 4] 2 3)⟩)
  refine uG (.bool false) rfl (ex_eql rfl rfl rfl (qF hb12)) (uK rfl ?_)
  refine uA rfl (uW k11 ?_)
  refine sK fun _ k26 => bB (sK fun _ k27 => ?_)
  refine rL (uM rfl ?_)
  by_cases hb28 : name = ([80, 69, 82, 83, 73, 83, 84] : List UInt8)
  ·refine uG (.bool true) rfl (ex_seql rfl rfl rfl (qT hb28)) (uA rfl ?_)
   refine uW k27 (cT rfl ?_)
   refine sK fun _ k29 => sK fun _ k30 => rL (uM rfl ?_)
   refine uG (.bool false) rfl (ex_not rfl rfl rfl) (uM rfl ?_)
   refine uM rfl (uK rfl ?_)
   refine uW k30 (cF rfl ?_)
   refine kS (tK k29 ?_)
   refine sK fun _ k31 => rL (uF (vP b2) rfl (k1fa80_0 _ _ _) ?_)
   refine uL _ rfl (run_load1 k1na24 (hv.load 3 0 rfl rfl)) (uM rfl ?_)
   refine uF (.pointer (some ⟨b8, 3, none⟩)) rfl (x2fa50_3 _ _ _) ?_
   refine uL (.agg #[vI y.val.kind, vS y.val.text, yp, yt, yz]) rfl (lM 0 s1wd43 hv rfl rfl rfl rfl) ?_
   replace hv := hv.front 1 rfl
   simp only [eS, eZ] at hv
   replace hv := hv.front 4 rfl
   simp only [eS, eZ] at hv
   refine xC k6callable16 rfl ((viewKeep G _ _ v t m s p wb va vc sv clk es M k y.val yp yt yz 0 (hM.more hG) (hyv.more (Base.Le.refl _)) hv).mono ?_) rfl
   rintro e w32 ⟨D, es1, M1, e1, hD, rfl, hM1, hkp, hv⟩
   refine ⟨_, rfl, ?_⟩
   simp only [zP, po]
   refine xC k6callable54 rfl ((respInt D _ _ 1 hv).mono ?_) rfl
   rintro e w33 ⟨rfl, hv⟩
   refine ⟨_, rfl, ?_⟩
   refine xC k6callable56 rfl ((viewDone D _ _ e1 2 1 ([] : List UInt8) (vN) rfl rfl hv).mono ?_) rfl
   rintro e w34 ⟨xr, hxr, rfl, hv⟩
   refine ⟨_, rfl, ?_⟩
   rcases hxr with ⟨hec0, rfl⟩ | ⟨hec0, s35, rfl⟩
   ·refine xS 3 rfl hv rssz34 rfl (by exact ⟨rfl, rfl, rfl, rfl, trivial⟩) (fun w36 hv => ?_)
    simp only [zS, zO, sp] at hv
    refine uW k31 (rR ?_)
    refine bZ (tR ?_)
    refine bC 3 rswd34 hv rfl rfl rfl rfl (⟨D, es1, M1, (.mk 2 ([] : List UInt8) 1 []), _, (hG.trans hD), rfl, rpAt_leaf, hM1.more (Base.Le.refl _), DoneR.keep (ec := e1) hO hkp (r0 := rInt 1) (.inl ⟨by omega, rfl⟩) isF_int, (hv.kp [1, 1] 2 3)⟩)
   refine xS 3 rfl hv rssz34 rfl (by exact ⟨rfl, rfl, rfl, rfl, trivial⟩) (fun w37 hv => ?_)
   simp only [zS, zO, sp] at hv
   refine uW k31 (rR ?_)
   refine bZ (tR ?_)
   refine bC 3 rswd34 hv rfl rfl rfl rfl (⟨D, es1, M1, (.mk 1 s35 0 []), _, (hG.trans hD), rfl, rpAt_leaf, hM1.more (Base.Le.refl _), DoneR.keep (ec := e1) hO hkp (r0 := rInt 1) (.inr ⟨by omega, rfl⟩) isF_int, (hv.kp [1, 1] 2 3)⟩)
  refine uG (.bool false) rfl (ex_seql rfl rfl rfl (qF hb28)) (uA rfl ?_)
  refine uW k27 (cF rfl ?_)
  refine sK fun _ k38 => rL (uM rfl ?_)
  refine uG (.bool false) rfl (ex_not rfl rfl rfl) (uA rfl ?_)
  refine uW k38 (cF rfl ?_)
  refine sK fun _ k39 => rL (uM rfl ?_)
  refine uA rfl (uW k39 ?_)
  refine cF rfl (sK fun _ k40 => ?_)
  refine rL (uM rfl ?_)
  by_cases hb41 : name = ([84, 84, 76] : List UInt8)
  ·refine uG (.bool true) rfl (ex_seql rfl rfl rfl (qT hb41)) (uA rfl ?_)
   refine uW k40 (cT rfl ?_)
   refine sK fun _ k42 => rW mixed [7, 9, 10] [0,1,2,3,4,5,6,7,8,9,10] 66 rfl (by kernel_rfl) hv ?_
   simp only [qm, opAt]
   refine dG (.pointer (some ⟨b8, 2, none⟩)) rfl (ex_field rfl rfl (s2fa50_2 _ _ _)) (dF _ rfl (fun hv => ex_load rfl rfl (run_load1 s2na3 (hv.load 0 2 rfl rfl))) fun f43 hf43 => ?_)
   refine dG (vP b2) rfl (ex_field rfl rfl (k1fa80_0 _ _ _)) ?_
   simp only [zP, po]
   refine dL _ rfl (fun hv => ex_load rfl rfl (run_load1 k1na24 (hv.load 3 0 rfl rfl))) (dG (vP v) rfl (ex_nil rfl rfl) ?_)
   refine dG (vP v) rfl (ex_field rfl rfl (v1fa56_0 _ _ _)) ?_
   simp only [zP, po]
   refine dL _ rfl (fun hv => ex_load rfl rfl (run_load1 v1na54 (hv.load 4 0 rfl rfl))) (dS rfl fun w44 hv => ?_)
   replace hv := hv.front 1 rfl
   simp only [eS, eZ] at hv
   refine stepMem_callI kNcallable213 rfl rfl rfl (r := vP t) (fun w => by kernel_rfl) (args := #[]) (by simp only [List.map_toArray, List.map_nil]) ((txnClock G _ _ t m s p wb va vc sv clk es hv).mono ?_)
   rintro e w45 ⟨rfl, hv⟩
   refine ⟨_, rfl, dV hv (fC (fun ww hv => hf43 ww (ex_load rfl rfl (run_load1 s2na3 (hv.load 1 2 rfl rfl)))) fN) ?_⟩
   refine dG (vI (IntKind.i64.wrap (y.expire - clk))) rfl (ex_sub rfl rfl rfl (rfl)) ?_
   simp only [zP, po]
   refine dS rfl fun w46 hv => mC k6callable54 rfl ((respInt G _ _ (IntKind.i64.wrap (y.expire - clk)) hv).mono ?_) rfl
   rintro e w47 ⟨rfl, hv⟩
   refine ⟨_, rfl, dV hv (fK rfl fN) ?_⟩
   refine dS rfl fun w48 hv => mS 2 rfl hv rssz34 rfl (by exact ⟨rfl, rfl, rfl, rfl, trivial⟩) (fun w49 hv => ?_)
   simp only [zS, zO, sp] at hv
   refine dV hv (fK rfl fN) (dE fun w50 hv => ?_)
   simp only [zP, po]
   refine tK k42 (rR ?_)
   refine bZ (tR ?_)
   refine bC 2 rswd34 hv rfl rfl rfl rfl (⟨G, es, M, (.mk 2 ([] : List UInt8) (IntKind.i64.wrap (y.expire - clk)) []), _, hG, rfl, rpAt_leaf, hM.more hG, ⟨hO, fun _ => rfl⟩, (hv.kp [4] 2 3)⟩)
  refine uG (.bool false) rfl (ex_seql rfl rfl rfl (qF hb41)) (uA rfl ?_)
  refine uW k40 (cF rfl ?_)
  refine kS (bN ?_)
  refine tK k26 (sK fun _ k51 => ?_)
  refine rL (uF (.pointer (some ⟨b8, 2, none⟩)) rfl (s2fa50_2 _ _ _) ?_)
  refine uL _ rfl (run_load1 s2na3 (hv.load 0 2 rfl rfl)) ?_
  refine xC k6callable54 rfl ((respInt G _ _ y.expire hv).mono ?_) rfl
  rintro e w52 ⟨rfl, hv⟩
  refine ⟨_, rfl, ?_⟩
  simp only [zP, po]
  refine xS 2 rfl hv rssz34 rfl (by exact ⟨rfl, rfl, rfl, rfl, trivial⟩) (fun w53 hv => ?_)
  simp only [zS, zO, sp] at hv
  refine uW k51 (rR ?_)
  refine bC 2 rswd34 hv rfl rfl rfl rfl (⟨G, es, M, (.mk 2 ([] : List UInt8) y.expire []), _, hG, rfl, rpAt_leaf, hM.more hG, ⟨hO, fun _ => rfl⟩, (hv.kp [1, 4] 2 3)⟩)
 refine uM rfl (uE rfl ?_)
 refine uE rfl ?_
 refine sl_alloc tV (wn rfl) rfl hv kNal50 (fun b54 w55 hv => ?_)
 refine xS 0 rfl hv x0sz50 rfl (by exact ⟨rfl, rfl, rfl, rfl, rfl, hyv.p.one, hyv.t.one, hyv.z.one, trivial⟩) (fun w56 hv => ?_)
 simp only [zO, sp] at hv
 refine uA rfl (uW k6 ?_)
 refine sK fun _ k57 => rL (uM rfl ?_)
 refine uM rfl ?_
 iterate 3 refine uP rfl ?_
 refine uK rfl (uA rfl ?_)
 refine uW k57 (sK fun _ k58 => ?_)
 refine bB (sK fun _ k59 => ?_)
 refine rL (uM rfl ?_)
 by_cases hb60 : name = ([80, 69, 82, 83, 73, 83, 84] : List UInt8)
 ·refine uG (.bool true) rfl (ex_seql rfl rfl rfl (qT hb60)) (uA rfl ?_)
  refine uW k59 (cT rfl ?_)
  refine sK fun _ k61 => sK fun _ k62 => rL (uM rfl ?_)
  refine uG (.bool true) rfl (ex_not rfl rfl rfl) (uM rfl ?_)
  refine uP rfl (uK rfl ?_)
  refine uW k62 (cT rfl ?_)
  refine sK fun _ k63 => rL (xC k6callable54 rfl ((respInt G _ _ 0 hv).mono ?_) rfl)
  rintro e w64 ⟨rfl, hv⟩
  refine ⟨_, rfl, ?_⟩
  refine xS 2 rfl hv rssz34 rfl (by exact ⟨rfl, rfl, rfl, rfl, trivial⟩) (fun w65 hv => ?_)
  simp only [zS, zO, sp] at hv
  refine uW k63 (rR ?_)
  refine tR (bZ ?_)
  refine tR (bC 2 rswd34 hv rfl rfl rfl rfl ?_)
  exact ⟨G, es, M, (.mk 2 ([] : List UInt8) 0 []), _, hG, rfl, rpAt_leaf, hM.more hG, ⟨hO, fun _ => rfl⟩, (hv.kp [1, 4] 2 3)⟩
 refine uG (.bool false) rfl (ex_seql rfl rfl rfl (qF hb60)) (uA rfl ?_)
 refine uW k59 (cF rfl ?_)
 refine sK fun _ k66 => rL (uM rfl ?_)
 refine uG (.bool true) rfl (ex_not rfl rfl rfl) (uA rfl ?_)
 refine uW k66 (cT rfl ?_)
 refine sK fun _ k67 => rL (xC k6callable54 rfl ((respInt G _ _ (-2) hv).mono ?_) rfl)
 rintro e w68 ⟨rfl, hv⟩
 refine ⟨_, rfl, ?_⟩
 refine xS 2 rfl hv rssz34 rfl (by exact ⟨rfl, rfl, rfl, rfl, trivial⟩) (fun w69 hv => ?_)
 simp only [zS, zO, sp] at hv
 refine uW k67 (rR ?_)
 refine bZ (tR ?_)
 refine bC 2 rswd34 hv rfl rfl rfl rfl (⟨G, es, M, (.mk 2 ([] : List UInt8) (-2) []), _, hG, rfl, rpAt_leaf, hM.more hG, ⟨hO, fun _ => rfl⟩, (hv.kp [1, 4] 2 3)⟩)
theorem names_nil {clk : Int} : (namesT [] clk).length = 0 := by simp [namesT]
theorem kOmk9 : (Tryz.prog.info? 9).map (fun i => (i.zero, i.size, i.bytes)) = some (some (vS []), 1, 16) := by kernel_rfl
theorem kOel26 : Elem Tryz.prog 26 9 (vS []) 1 16 := elem_of Tryz.underlying26 kOmk9 (by rfl) (by decide)
theorem ckMatching (B : Base) (H : List Res) (w : World) (v t m s p wb : Nat) (va : Option Addr) (vc : Nat) (sv : Value) (clk : Int) (es : List (List UInt8 × Value)) (M : List (List UInt8 × Ver)) (hM : VM B es M) (aa : Option Addr) (an ac : Nat) (p9 : List UInt8) (hkl : ∀ k ∈ M.map (·.1), k.length ≤ 256) (hMl : M.length ≤ 1000000) (hsm : p9.length ≤ 1000000 ∨ M = []) (hv : Inv B (Res.cell v [.iface 100 (vP t)] 56 :: txR t m s p wb va vc sv clk es :: H) w) :
  Calls Tryz.prog 60 #[.agg #[vP v, .slice aa an ac], vS p9] w fun e w' => ∃ C oa oc out, B.Le C ∧ e = .returned (.slice oa out.length oc) ∧ out.length ≤ 1000000 ∧ SliceOk oa out.length oc ∧ RdV C [] oa (textCells out) ∧ Inv C (Res.cell v [.iface 100 (vP t)] 56 :: txR t m s p wb va vc sv clk es :: H) w' := by
 refine cW Tryz.func60 rfl Tryz.ntmps60 ?_
 simp only [al]
 refine sK fun _ k1 => rL (sl_box (L := [vP v, .slice aa an ac]) tV (wn rfl) rfl rfl hv (fun w => by kernel_rfl) (fun b2 w3 hv => ?_))
 refine uA rfl (uW k1 ?_)
 refine sK fun _ k4 => rL (uA rfl ?_)
 refine uW k4 (sK fun _ k5 => ?_)
 refine sK fun _ k6 => rL (uF (vP b2) rfl (k1fa80_0 _ _ _) ?_)
 refine uL _ rfl (run_load1 k1na24 (hv.load 0 0 rfl rfl)) ?_
 refine uG (vP v) rfl (ex_nil rfl rfl) ?_
 refine uF (vP v) rfl (v1fa56_0 _ _ _) ?_
 refine uL _ rfl (run_load1 v1na54 (hv.load 1 0 rfl rfl)) ?_
 replace hv := hv.front 2 rfl
 simp only [eS, eZ] at hv
 refine wpi_callI k1callable216 tV wideC rfl (wn rfl) rfl rfl (r := vP t) (fun w => by kernel_rfl) (args := #[]) (by simp only [List.map_toArray, List.map_nil]) ((txnNamesC B _ _ t m s p wb va vc sv clk es M (hM.more (Base.Le.refl _)) hkl (by omega) hv).mono ?_)
 rintro e w7 ⟨C, na, nc, hC, rfl, hnr, hokn, hv⟩
 refine ⟨_, rfl, ?_⟩
 have hnl := namesT_le M clk
 refine uG (vI (((namesT M clk).length) : Int)) rfl (ex_len0 Tryz.underlying26 rfl rfl) (uM rfl ?_)
 refine uW k6 (bB ?_)
 gi_loopw [5, 15] (fun x5 x15 wr => ∃ (i : Nat) (ft : List (List UInt8)) (fa : Option Addr) (fc : Nat), x5 = .slice fa ft.length fc ∧ x15 = vI i ∧ i ≤ (namesT M clk).length ∧ ft.length ≤ i ∧ Inv C (Res.row 9 1 (.slice fa ft.length fc) ft.length (textCells ft) :: txR t m s p wb va vc sv clk es :: Res.cell b2 [vP v, .slice aa an ac] 80 :: Res.cell v [.iface 100 (vP t)] 56 :: H) wr) (fun x5 x15 _ => (namesT M clk).length - (intOf x15).toNat)
 case atStart => exact ⟨0, [], none, 0, rfl, rfl, Nat.zero_le _, Nat.zero_le _, ((((hv.front 2 rfl).front 2 rfl).front 2 rfl)).rowNil 9 1⟩
 case round =>
  obtain ⟨i, ft, fa, fc, rfl, rfl, hi9, hfl, hv⟩ := hrel
  refine sK fun _ k9 => rL ?_
  by_cases hb10 : (i : Int) < (((namesT M clk).length) : Int)
  ·refine uG (.bool true) rfl (ex_lss rfl rfl rfl (qT hb10)) (uW k9 ?_)
   refine sK fun _ k11 => cT rfl (kS ?_)
   refine tK k11 (sK fun _ k12 => ?_)
   refine bB (sK fun _ k13 => ?_)
   obtain ⟨x, hx⟩ : ∃ x, (namesT M clk)[i]? = some x := ⟨_, List.getElem?_eq_getElem (show i < (namesT M clk).length by omega)⟩
   obtain ⟨mb, mo, had, hrdx⟩ := text_reads hnr hx
   subst had
   refine rL (uG (.pointer (some ⟨mb, mo + i, none⟩)) rfl (ex_index rfl rfl rfl (run_idx1 (k := i) Tryz.underlying26 s9es26 (by omega))) ?_)
   refine uL _ rfl (run_load1 s9na9 (hrdx _ _ _ (Base.Le.refl _) no_res hv 0 _ rfl)) (uA rfl ?_)
   refine uW k13 (sK fun _ k14 => ?_)
   refine rL (uM rfl ?_)
   refine uM rfl ?_
   refine xC v8callable85 rfl ((globMatch C _ _ p9 (hsm.resolve_right (fun h9 => by subst h9; exact absurd (List.getElem?_eq_some_iff.1 hx).1 (by rw [names_nil]; exact Nat.not_lt_zero _))) x (by have := namesT_short hkl x (List.mem_of_getElem? hx); omega) hv).mono ?_) rfl
   rintro e w15 ⟨b, rfl, hb, hv⟩
   refine ⟨_, rfl, ?_⟩
   cases b
   ·refine uW k14 (cF rfl ?_)
    refine kS (bN ?_)
    refine tK k12 (rL ?_)
    refine uG (vI ((i + 1 : Nat) : Int)) rfl (ex_add rfl rfl rfl (by rw [i64_in (by omega)]; omega)) (uM rfl ?_)
    refine uZ (then_normal ?_)
    go_roundw
    case rel => exact ⟨i + 1, ft, fa, fc, rfl, rfl, by omega, by omega, ((((hv.front 3 rfl).front 3 rfl).front 3 rfl).front 3 rfl)⟩
    case measure => show (namesT M clk).length - (((i + 1 : Nat) : Int)).toNat < (namesT M clk).length - ((i : Int)).toNat; omega
   refine uW k14 (cT rfl ?_)
   refine rL (uM rfl ?_)
   refine uM rfl ?_
   refine sl_rowOne (v := vS x) tV (wn rfl) rfl rfl hv kOel26 rfl (fun b16 w17 hv => ?_)
   simp only [zP, po]
   replace hv := hv.front 1 rfl
   simp only [eS, eZ] at hv
   refine sl_append (news := [vS x]) tV (wn rfl) rfl rfl rfl kOel26 hv (ok_full (by omega)) rfl (rd_all (hv.get 1 rfl)) (by intro u hu; simp only [List.mem_cons, List.not_mem_nil, or_false] at hu; rcases hu with rfl <;> rfl) (by unfold maxLen; omega) (by omega) (fun rv18 w21 hv => ?_)
   obtain ⟨ra19, rc20, rfl⟩ := row_slice hv.head
   refine uA rfl (uZ ?_)
   refine bN (tK k12 ?_)
   refine rL (uG (vI ((i + 1 : Nat) : Int)) rfl (ex_add rfl rfl rfl (by rw [i64_in (by omega)]; omega)) ?_)
   refine uM rfl (uZ ?_)
   refine then_normal ?_
   go_roundw
   case rel => exact ⟨i + 1, ft ++ [x], _, _, by rw [List.length_append, List.length_singleton], rfl, by omega, by rw [List.length_append, List.length_singleton]; omega, by rw [List.length_append, List.length_singleton, ← text_snoc]; exact (hv.kp [4, 4, 4, 3] 4 1)⟩
   case measure => show (namesT M clk).length - (((i + 1 : Nat) : Int)).toNat < (namesT M clk).length - ((i : Int)).toNat; omega
  refine uG (.bool false) rfl (ex_lss rfl rfl rfl (qF hb10)) (uW k9 ?_)
  refine sK fun _ k22 => cF rfl (xE ?_)
  refine tX (tX ?_)
  refine bH (tK k5 ?_)
  refine sK fun _ k23 => rL (uM rfl ?_)
  refine uA rfl (uW k23 ?_)
  refine rR (bR rfl rfl ?_)
  obtain ⟨E, hE, hv, hrf, hokf, -⟩ := (((((hv.front 1 rfl).front 3 rfl).front 2 rfl).sub (sC _ (sC _ (sC _ (sD _ (sR _))))))).rowBy
  exact ⟨E, fa, fc, ft, hC.trans hE, rfl, by omega, hokf, hrf, hv⟩
theorem valueName (B : Base) (H : List Res) (w : World) (n : Int) (hv : Inv B H w) :
  Calls Tryz.prog 65 #[vI n] w fun e w' => ∃ s : List UInt8, e = .returned (strV s) ∧ Inv B H w' := by
 refine cW Tryz.func65 rfl Tryz.ntmps65 ?_
 simp only [al]
 refine sK fun _ k1 => rL (uA rfl ?_)
 refine uW k1 (sK fun _ k2 => ?_)
 refine sK fun _ k3 => rL (uM rfl ?_)
 refine uW k3 (bB ?_)
 refine sK fun _ k4 => rL ?_
 by_cases hb5 : n = 1
 ·refine uG (.bool true) rfl (ex_eql rfl rfl rfl (qT hb5)) (uA rfl ?_)
  refine uW k4 (cT rfl ?_)
  refine sK fun _ k6 => rL (uA rfl ?_)
  refine uW k6 (rR ?_)
  refine bZ (tR ?_)
  refine bR rfl rfl (⟨_, rfl, hv⟩)
 refine uG (.bool false) rfl (ex_eql rfl rfl rfl (qF hb5)) (uA rfl ?_)
 refine uW k4 (cF rfl ?_)
 refine sK fun _ k7 => rL ?_
 by_cases hb8 : n = 2
 ·refine uG (.bool true) rfl (ex_eql rfl rfl rfl (qT hb8)) (uA rfl ?_)
  refine uW k7 (cT rfl ?_)
  refine sK fun _ k9 => rL (uA rfl ?_)
  refine uW k9 (rR ?_)
  refine bZ (tR ?_)
  refine bR rfl rfl (⟨_, rfl, hv⟩)
 refine uG (.bool false) rfl (ex_eql rfl rfl rfl (qF hb8)) (uA rfl ?_)
 refine uW k7 (cF rfl ?_)
 refine sK fun _ k10 => rL ?_
 by_cases hb11 : n = 3
 ·refine uG (.bool true) rfl (ex_eql rfl rfl rfl (qT hb11)) (uA rfl ?_)
  refine uW k10 (cT rfl ?_)
  refine sK fun _ k12 => rL (uA rfl ?_)
  refine uW k12 (rR ?_)
  refine bZ (tR ?_)
  refine bR rfl rfl (⟨_, rfl, hv⟩)
 refine uG (.bool false) rfl (ex_eql rfl rfl rfl (qF hb11)) (uA rfl ?_)
 refine uW k10 (cF rfl ?_)
 refine sK fun _ k13 => rL ?_
 by_cases hb14 : n = 4
 ·refine uG (.bool true) rfl (ex_eql rfl rfl rfl (qT hb14)) (uA rfl ?_)
  refine uW k13 (cT rfl ?_)
  refine sK fun _ k15 => rL (uA rfl ?_)
  refine uW k15 (rR ?_)
  refine bZ (tR ?_)
  refine bR rfl rfl (⟨_, rfl, hv⟩)
 refine uG (.bool false) rfl (ex_eql rfl rfl rfl (qF hb14)) (uA rfl ?_)
 refine uW k13 (cF rfl ?_)
 refine sK fun _ k16 => rL ?_
 by_cases hb17 : n = 5
 ·refine uG (.bool true) rfl (ex_eql rfl rfl rfl (qT hb17)) (uA rfl ?_)
  refine uW k16 (cT rfl ?_)
  refine sK fun _ k18 => rL (uA rfl ?_)
  refine uW k18 (rR ?_)
  refine bZ (tR ?_)
  refine bR rfl rfl (⟨_, rfl, hv⟩)
 refine uG (.bool false) rfl (ex_eql rfl rfl rfl (qF hb17)) (uA rfl ?_)
 refine uW k16 (cF rfl ?_)
 refine kS (bN ?_)
 refine tK k2 (sK fun _ k19 => ?_)
 refine rL (uA rfl ?_)
 refine uW k19 (rR ?_)
 refine bR rfl rfl (⟨_, rfl, hv⟩)
section
variable {M M' : List (List UInt8 × Ver)} {clk e : Int} {k l : List UInt8} {ws : List (List UInt8)} {r r0 : Rp}
theorem OkM.del (h : OkM M) (ks : List (List UInt8)) : OkM (delM M ks) := by
 unfold delM
 induction ks generalizing M with
 | nil => exact h
 | cons k ks ih => exact ih (h.upd (.inl rfl))
theorem got_short (h : OkM M) (hg : gotM M clk k ≠ none) : k.length ≤ 256 := by
 cases hg2 : gotM M clk k with
 | none => exact absurd hg2 hg
 | some y => exact (h.alive (got_some hg2).1 (got_some hg2).2).1
theorem DelI.all {M1 : List (List UInt8 × Ver)} (hO : OkM M1) (hs : ∀ q ∈ ws, q.length ≤ 256) (h : DelI M1 ws e M') (hd : DoneR e r0 r) (h0 : ¬ IsF r0) : OkM M' ∧ ¬ IsF r := by
 rcases h with ⟨rfl, -, rfl⟩ | ⟨-, ⟨q, h1, h2⟩, -⟩
 ·refine ⟨hO.del _, fun hf => ?_⟩
  rcases hd with ⟨-, rfl⟩ | ⟨h, -⟩
  ·exact h0 hf
  exact h rfl
 have := hs q h1; omega
theorem dropK_got : ∀ (ks acc : List (List UInt8)), (∀ q ∈ acc, gotM M clk q ≠ none) → ∀ q ∈ ks.foldl (stepK M clk) acc, gotM M clk q ≠ none
 | [], acc, h => h
 | k :: ks, acc, h => dropK_got ks _ fun q hq => by
  unfold stepK at hq
  split at hq
  ·exact h q hq
  split at hq
  ·rename_i h9
   rcases List.mem_append.1 hq with hq | hq
   ·exact h q hq
   rw [List.mem_singleton.1 hq]; intro h8; rw [h8] at h9; cases h9
  exact h q hq
theorem isF_text {s : List UInt8} : ¬ IsF (rText s) := fun h => absurd (show (0 : Int) = 1 from h) (by decide)
theorem drop_cmd (hO : OkM M) (h : DelI M (dropK M clk ws) e M') (hd : DoneR e r0 r) (h0 : ¬ IsF r0) : CmdR M M' r := by
 obtain ⟨h1, h2⟩ := DelI.all hO (fun q hq => got_short hO (dropK_got ws [] (fun q h => by cases h) q hq)) h hd h0
 exact ⟨h1, fun hf => absurd hf h2⟩
theorem RenameR.cmd (hO : OkM M) (h : RenameR M clk k l M' r) : CmdR M M' r := by
 rcases h with ⟨-, rfl, -⟩ | ⟨y, hg, ⟨-, rfl, -⟩ | ⟨-, e1, M1, hk, ⟨he, rfl, -⟩ | ⟨he, e2, hd, hdr⟩⟩⟩
 ·exact ⟨hO, fun _ => rfl⟩
 ·exact ⟨hO, fun _ => rfl⟩
 ·exact ⟨hO.keep hk, fun _ => keep_not hk he⟩
 obtain ⟨h1, h2⟩ := DelI.all (hO.keep hk) (fun q hq => by rw [List.mem_singleton.1 hq]; exact got_short hO (by rw [hg]; exact Option.some_ne_none _)) hd hdr isF_text
 exact ⟨h1, fun hf => absurd hf h2⟩
theorem RenamenxR.cmd (hO : OkM M) (h : RenamenxR M clk k l M' r) : CmdR M M' r := by
 rcases h with ⟨-, rfl, -⟩ | ⟨-, ⟨-, rfl, -⟩ | ⟨-, r1, hr, ⟨hf, rfl⟩ | ⟨-, rfl⟩⟩⟩
 ·exact ⟨hO, fun _ => rfl⟩
 ·exact ⟨hO, fun _ => rfl⟩
 ·exact hr.cmd hO
 exact ⟨(hr.cmd hO).1, fun hf => absurd hf isF_int⟩
theorem CopyR.cmd (hO : OkM M) (h : CopyR M clk k l ws M' r) : CmdR M M' r := by
 rcases h with ⟨-, rfl, -⟩ | ⟨-, rfl, -⟩ | ⟨y, -, -, -, e, hk, hd⟩
 ·exact ⟨hO, fun _ => rfl⟩
 ·exact ⟨hO, fun _ => rfl⟩
 exact hd.keep hO hk isF_int
theorem SrtR.cmd (hO : OkM M) (h : SrtR M clk k ws M' r) : CmdR M M' r := by
 rcases h with ⟨-, rfl, -⟩ | ⟨s, -, ⟨-, rfl, -⟩ | ⟨xs, ex, -, ⟨-, rfl, -⟩ | ⟨-, ys, ey, -, ⟨-, rfl, -⟩ | ⟨-, om, mo, out, -, -, ⟨-, rfl, -⟩ | ⟨-, e, hk, hd⟩⟩⟩⟩⟩
 ·exact ⟨hO, fun _ => rfl⟩
 ·exact ⟨hO, fun _ => rfl⟩
 ·exact ⟨hO, fun _ => rfl⟩
 ·exact ⟨hO, fun _ => rfl⟩
 ·exact ⟨hO, fun _ => rfl⟩
 exact hd.keep hO hk isF_int
end
end Go.Proofs.YtngpmolbphinnaaGreatDoor
