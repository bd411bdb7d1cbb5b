/- cset: sets, combined, move. -/
import Derived.Test.YtoljdfjnannakaaGreatDoorCsNamB
import Derived.Test.YtoljdfjnannakaaGreatDoorCsNamG
import Derived.Test.YtoljdfjnannakaaGreatDoorRows
import Derived.Laws.Strings2
import Derived.Laws.IdiomStrings
import Derived.Test.YtoljdfjnannakaaGreatDoorCsNamE
import Derived.Test.YtoljdfjnannakaaGreatDoorCsNamD
set_option maxRecDepth 100000
namespace Go.Proofs.YtoljdfjnannakaaGreatDoor
open Go.RowKit Go.Pm
theorem c3mk22 : (Tryz.prog.info? 22).map (fun i => (i.zero, i.size, i.bytes)) = some (some (vN), 1, 24) := by kernel_rfl
theorem c3el143 : Elem Tryz.prog 143 22 (vN) 1 24 := elem_of Tryz.underlying143 c3mk22 (by rfl) (by decide)
theorem c3al85 (w : World) : (Instr.alloc 85 true (.tuple #[])).run Tryz.prog w = .ok (.pointer (some ⟨w.heap.size, 0, none⟩)) (w.alloc (.cells ([vI 0, .bool false, vI 0, vI 0, vS [], vN, vN, vN] : List Value).toArray 85)) := by kernel_rfl
set_option maxHeartbeats 8000000 in
theorem csetSets (B : Base) (H : List Res) (w : World) (v t m s p wb : Nat) (va : Option Addr) (vc : Nat) (sv : Value) (clk : Int) (es : List (List UInt8 × Value)) (M : List (List UInt8 × Ver)) (hM : VM B es M) (_ : OkM M) (aa : Option Addr) (ac : Nat) (args : List (List UInt8)) (ka : Option Addr) (kc : Nat) (ks : List (List UInt8)) (hrk : RdV B [] ka (textCells ks)) (hmk : ks.length ≤ 1000) (hv : Inv B (Res.cell v [.iface 62 (vP t)] 39 :: txR t m s p wb va vc sv clk es :: H) w) :
  Calls Tryz.prog 69 #[.agg #[vP v, .slice aa args.length ac], .slice ka ks.length kc] w fun e w' => ∃ C oa oc ss txs ec, B.Le C ∧ e = .returned (.tuple #[.slice oa ss.length oc, vI ec]) ∧ TxsAt C ss txs ∧ RdV C [] oa txs ∧ SliceOk oa ss.length oc ∧ SetsR M clk ks ss ec ∧ Inv C (Res.cell v [.iface 62 (vP t)] 39 :: txR t m s p wb va vc sv clk es :: H) w' := by
 refine cW Tryz.func69 rfl Tryz.ntmps69 ?_
 simp only [al]
 refine sK fun _ k1 => rL (sl_box (L := [vP v, .slice aa args.length ac]) tV (wn rfl) rfl rfl hv (fun w => by kernel_rfl) (fun b2 w3 hv => ?_))
 refine xA (vN) rfl (xA (vI 0) rfl ?_)
 simp only [zP, po]
 refine wK k1 (sK fun _ k4 => ?_)
 refine rL (xM (.slice ka ks.length kc) rfl ?_)
 refine xG (vI (ks.length : Int)) rfl (ex_len0 Tryz.underlying22 rfl rfl) (sl_makeRow (cap := ks.length) tV (wn rfl) rfl rfl rfl c3el143 (by unfold maxLen; omega) (by omega) hv (fun b5 w6 hv => ?_))
 simp only [zP, po]
 refine xA (.slice (some ⟨b5, 0, none⟩) 0 ks.length) rfl ?_
 simp only [zP, po]
 refine wK k4 (sK fun _ k7 => ?_)
 refine sK fun _ k8 => rL (xM (.slice ka ks.length kc) rfl ?_)
 refine xG (vI (ks.length : Int)) rfl (ex_len0 Tryz.underlying22 rfl rfl) (xM (vI 0) rfl ?_)
 simp only [zP, po]
 refine wK k8 (bB ?_)
 gi_loopw [16, 6] (fun x16 x6 wr => ∃ (i : Nat) (C : Base) (ss : List (List (List UInt8))) (txs : List Value) (ra : Option Addr) (rc : Nat), x16 = vI i ∧ x6 = .slice ra ss.length rc ∧ B.Le C ∧ i ≤ ks.length ∧ ss.length = i ∧ TxsAt C ss txs ∧ (∀ (j : Nat) k s, ks[j]? = some k → ss[j]? = some s → ∃ y, OfI M clk k 4 y 0 ∧ s = y.val.texts) ∧ Inv C (Res.row 22 1 (.slice ra ss.length rc) ss.length txs :: Res.cell b2 [vP v, .slice aa args.length ac] 73 :: Res.cell v [.iface 62 (vP t)] 39 :: txR t m s p wb va vc sv clk es :: H) wr) (fun x16 x6 _ => ks.length - (intOf x16).toNat)
 case atStart => exact ⟨0, B, [], [], _, _, rfl, rfl, Base.Le.refl _, Nat.zero_le _, rfl, rfl, fun j k s _ h => by simp at h, ((((hv.front 3 rfl).front 3 rfl).front 3 rfl).front 3 rfl)⟩
 case round =>
  obtain ⟨i, C, ss, txs, ra, rc, rfl, rfl, hC, hi, hsl, htx, hall, hv⟩ := hrel
  refine sK fun _ k10 => rL ?_
  by_cases hb11 : (i : Int) < (ks.length : Int)
  ·refine xG (.bool true) rfl (ex_lss rfl rfl rfl (qT hb11)) ?_
   simp only [zP, po]
   refine wK k10 (sK fun _ k12 => ?_)
   refine cT rfl (kS ?_)
   refine tK k12 (sK fun _ k13 => ?_)
   refine bB (sK fun _ k14 => ?_)
   obtain ⟨x, hx⟩ : ∃ x, ks[i]? = some x := ⟨_, List.getElem?_eq_getElem (show i < ks.length by omega)⟩
   obtain ⟨kb, ko, had, hrdx⟩ := text_reads hrk hx
   subst had
   refine rL (xG (.pointer (some ⟨kb, ko + i, none⟩)) rfl (ex_index rfl rfl rfl (run_idx1 (k := i) Tryz.underlying22 s9es22 (by omega))) ?_)
   refine xL _ rfl (run_load1 s9na9 (hrdx _ _ _ hC no_res hv 0 _ rfl)) (xA (vS x) rfl ?_)
   simp only [zP, po]
   refine wK k14 (sK fun _ k15 => ?_)
   refine rL (xF (vP b2) rfl (c1fa73_0 _ _ _) ?_)
   refine xL _ rfl (run_load1 c1na24 (hv.load 1 0 rfl rfl)) (xM (vS x) rfl ?_)
   simp only [zP, po]
   replace hv := hv.front 3 rfl
   simp only [eS, eZ] at hv
   replace hv := hv.front 3 rfl
   simp only [eS, eZ] at hv
   refine xC c1callable63 rfl ((viewOf C _ _ v t m s p wb va vc sv clk es M x 4 (hM.more hC) hv).mono ?_) rfl
   rintro e w16 ⟨D, y, yp, yt, yz, ey, hD, rfl, hyv, hyf, hv⟩
   refine ⟨_, rfl, ?_⟩
   obtain ⟨ypa, ypc, yza, yzc, ypn, yzn, ysa, ysc, rfl, rfl, rfl, hoky, hry⟩ : ∃ pa pc za zc pn zn sa sc, yp = .slice pa pn pc ∧ yz = .slice za zn zc ∧ yt = .slice sa y.val.texts.length sc ∧ SliceOk sa y.val.texts.length sc ∧ RdV D [] sa (textCells y.val.texts) := by
    obtain ⟨⟨a1, c1, h1, -⟩, ⟨a2, c2, h2, h3, h4⟩, ⟨a3, c3, h5, -⟩, -⟩ := hyv
    exact ⟨_, _, _, _, _, _, _, _, h1, h5, h2, h3, h4⟩
   refine xM (.tuple #[.agg #[vI y.stamp, .bool y.gone, vI y.expire, vI y.val.kind, vS y.val.text, .slice ypa ypn ypc, .slice ysa y.val.texts.length ysc, .slice yza yzn yzc], vI ey]) rfl (xG (.agg #[vI y.stamp, .bool y.gone, vI y.expire, vI y.val.kind, vS y.val.text, .slice ypa ypn ypc, .slice ysa y.val.texts.length ysc, .slice yza yzn yzc]) rfl (ex_extract rfl rfl rfl) ?_)
   simp only [zP, po]
   refine xG (vI ey) rfl (ex_extract rfl rfl rfl) (sl_alloc tV (wn rfl) rfl hv c3al85 (fun b17 w18 hv => ?_))
   refine xS 0 rfl hv x0sz85 rfl (by exact ⟨rfl, rfl, rfl, rfl, rfl, rfl, rfl, rfl, trivial⟩) (fun w19 hv => ?_)
   simp only [zO, sp] at hv
   simp only [zP, po]
   refine xA (vI ey) rfl ?_
   simp only [zP, po]
   refine wK k15 (sK fun _ k20 => ?_)
   refine sK fun _ k21 => rL (xM (vI ey) rfl ?_)
   by_cases hb22 : ey ≠ 0
   ·refine xG (.bool true) rfl (ex_neq rfl rfl rfl (qT hb22)) ?_
    simp only [zP, po]
    refine wK k21 (cT rfl ?_)
    refine sK fun _ k23 => rL (xM (vI ey) rfl ?_)
    refine xA (vN) rfl (xA (vI ey) rfl ?_)
    simp only [zP, po]
    refine wK k23 (rR ?_)
    refine tR (bZ ?_)
    refine tR (tR ?_)
    refine bZ (tR ?_)
    refine bodyPost_ret (results_tmp2 rfl _ _ _) rfl (⟨D, none, 0, [], [], ey, (hC.trans hD), rfl, rfl, rdV_nil, ok_nil, .inr ⟨by omega, rfl, x, List.mem_of_getElem? hx, y, hyf⟩, (hv.kp [2, 2] 2 3)⟩)
   refine xG (.bool false) rfl (ex_neq rfl rfl rfl (qF hb22)) ?_
   simp only [zP, po]
   refine wK k21 (cF rfl ?_)
   refine kS (tK k20 ?_)
   have hey0 : ey = 0 := by omega
   refine rL (xM (.slice ra ss.length rc) rfl ?_)
   refine xF (.pointer (some ⟨b17, 3, none⟩)) rfl (x2fa85_3 _ _ _) (xF (.pointer (some ⟨b17, 6, none⟩)) rfl (s1fa78_3 _ _ _) ?_)
   simp only [zP, po]
   refine xL _ rfl (run_load1 s1na22 (hv.load 0 6 rfl rfl)) (sl_rowOne (v := .slice ysa y.val.texts.length ysc) tV (wn rfl) rfl rfl hv c3el143 rfl (fun b24 w25 hv => ?_))
   replace hv := hv.front 4 rfl
   simp only [eS, eZ] at hv
   refine sl_append (news := [.slice ysa y.val.texts.length ysc]) tV (wn rfl) rfl rfl rfl c3el143 hv (ok_full (by omega)) rfl (rd_all (hv.get 1 rfl)) (by intro u hu; simp only [List.mem_cons, List.not_mem_nil, or_false] at hu; rcases hu with rfl <;> rfl) (by unfold maxLen; omega) (by omega) (fun rv26 w29 hv => ?_)
   obtain ⟨ra27, rc28, rfl⟩ := row_slice hv.head
   simp only [zP, po]
   refine xA (.slice ra27 (ss.length + 1) rc28) rfl (wL ?_)
   simp only [zP, po]
   refine bN (tK k13 ?_)
   refine rL (xG (vI ((i + 1 : Nat) : Int)) rfl (ex_add rfl rfl rfl (by rw [i64_in (by omega)]; omega)) ?_)
   refine xM (vI ((i + 1 : Nat) : Int)) rfl (wL ?_)
   simp only [zP, po]
   refine then_normal ?_
   go_roundw
   case rel => exact ⟨i + 1, D, ss ++ [y.val.texts], _, _, _, rfl, by rw [List.length_append, List.length_singleton], (hC.trans hD), by omega, by rw [List.length_append, List.length_singleton, hsl], TxsAt.append (TxsAt.single ⟨_, _, rfl, hoky, hry⟩) (htx.more hD), fun j k' s' hk' hs' => (by
      rcases Nat.lt_or_ge j ss.length with h | h
      ·rw [List.getElem?_append_left h] at hs'; exact hall j k' s' hk' hs'
      have hj := (List.getElem?_eq_some_iff.1 hs').1
      rw [List.length_append, List.length_singleton] at hj
      obtain rfl : j = ss.length := by omega
      rw [List.getElem?_append_right (Nat.le_refl _), Nat.sub_self] at hs'
      rw [hsl, hx] at hk'
      cases hk'; cases hs'
      exact ⟨y, by rw [← hey0]; exact hyf, rfl⟩), by rw [List.length_append, List.length_singleton]; exact (hv.kp [4, 4, 5, 3] 4 2)⟩
   case measure => show ks.length - (((i + 1 : Nat) : Int)).toNat < ks.length - ((i : Int)).toNat; omega
  refine xG (.bool false) rfl (ex_lss rfl rfl rfl (qF hb11)) ?_
  simp only [zP, po]
  refine wK k10 (sK fun _ k30 => ?_)
  refine cF rfl (xE ?_)
  refine tX (tX ?_)
  refine bH (tK k7 ?_)
  refine sK fun _ k31 => rL (xM (.slice ra ss.length rc) rfl ?_)
  refine xA (.slice ra ss.length rc) rfl (xA (vI 0) rfl ?_)
  simp only [zP, po]
  refine wK k31 (rR ?_)
  refine bodyPost_ret (results_tmp2 rfl _ _ _) rfl ?_
  obtain rfl : i = ks.length := by omega
  obtain ⟨E, hE, hv, hro, hoko, -⟩ := (((((hv.front 3 rfl).front 3 rfl).front 2 rfl).sub (sC _ (sC _ (sC _ (sD _ (sR _))))))).rowBy
  exact ⟨E, ra, rc, ss, txs, 0, hC.trans hE, rfl, htx.more hE, hro, hoko, .inl ⟨rfl, hsl, hall⟩, hv⟩
theorem SetsR.right {M : List (List UInt8 × Ver)} {clk ec : Int} {keys : List (List UInt8)} {ss : List (List (List UInt8))} (hO : OkM M) (h : SetsR M clk keys ss ec) : ∀ s ∈ ss, SetOk s := by
 intro s hs
 rcases h with ⟨-, h1, h2⟩ | ⟨-, h1, -⟩
 ·obtain ⟨i, hi⟩ := List.mem_iff_getElem?.1 hs
  have hl := (List.getElem?_eq_some_iff.1 hi).1
  obtain ⟨y, h3, rfl⟩ := h2 i keys[i] s (List.getElem?_eq_getElem (by omega)) hi
  exact hO.set h3
 rw [h1] at hs; cases hs
theorem c3callable69 : Callable Tryz.prog 69 := ⟨_, Tryz.func69, by kernel_rfl, by kernel_rfl⟩
theorem c3callable71 : Callable Tryz.prog 71 := ⟨_, Tryz.func71, by kernel_rfl, by kernel_rfl⟩
theorem c3callable72 : Callable Tryz.prog 72 := ⟨_, Tryz.func72, by kernel_rfl, by kernel_rfl⟩
set_option maxHeartbeats 8000000 in
theorem csetCombined (B : Base) (H : List Res) (w : World) (v t m s p wb : Nat) (va : Option Addr) (vc : Nat) (sv : Value) (clk : Int) (es : List (List UInt8 × Value)) (M : List (List UInt8 × Ver)) (hM : VM B es M) (hO : OkM M) (aa : Option Addr) (ac : Nat) (args : List (List UInt8)) (name : List UInt8) (ka : Option Addr) (kc : Nat) (ks : List (List UInt8)) (hrk : RdV B [] ka (textCells ks)) (hmk : ks.length ≤ 1000) (hk0 : 0 < ks.length) (hv : Inv B (Res.cell v [.iface 62 (vP t)] 39 :: txR t m s p wb va vc sv clk es :: H) w) :
  Calls Tryz.prog 41 #[.agg #[vP v, .slice aa args.length ac], vS name, .slice ka ks.length kc] w fun e w' => ∃ C oa oc out ec, B.Le C ∧ e = .returned (.tuple #[.slice oa out.length oc, vI ec]) ∧ SliceOk oa out.length oc ∧ RdV C [] oa (textCells out) ∧ CombR M clk name ks out ec ∧ Inv C (Res.cell v [.iface 62 (vP t)] 39 :: txR t m s p wb va vc sv clk es :: H) w' := by
 refine cW Tryz.func41 rfl Tryz.ntmps41 ?_
 simp only [al]
 refine sK fun _ k1 => rL (sl_box (L := [vP v, .slice aa args.length ac]) tV (wn rfl) rfl rfl hv (fun w => by kernel_rfl) (fun b2 w3 hv => ?_))
 refine xA (vN) rfl (xA (vI 0) rfl ?_)
 simp only [zP, po]
 refine wK k1 (sK fun _ k4 => ?_)
 refine rL (xL (.agg #[vP v, .slice aa args.length ac]) rfl (lM 0 c1wd73 hv rfl rfl rfl rfl) ?_)
 refine xM (.slice ka ks.length kc) rfl ?_
 replace hv := hv.front 2 rfl
 simp only [eS, eZ] at hv
 replace hv := hv.front 2 rfl
 simp only [eS, eZ] at hv
 refine xC c3callable69 rfl ((csetSets B _ _ v t m s p wb va vc sv clk es M hM hO aa ac args ka kc ks hrk hmk hv).mono ?_) rfl
 rintro e w5 ⟨C, oa, oc, ss, txs, e1, hC, rfl, htx, hrs, hoks, hss, hv⟩
 refine ⟨_, rfl, ?_⟩
 have hrt := hss.right hO
 have hssl : ss.length ≤ ks.length := hss.elim (fun h9 => by have := h9.2.1; omega) (fun h9 => by rw [h9.2.1]; exact Nat.zero_le _)
 simp only [zP, po]
 refine xM (.tuple #[.slice oa ss.length oc, vI e1]) rfl (xG (.slice oa ss.length oc) rfl (ex_extract rfl rfl rfl) ?_)
 refine xG (vI e1) rfl (ex_extract rfl rfl rfl) ?_
 simp only [zP, po]
 refine xA (.slice oa ss.length oc) rfl (xA (vI e1) rfl ?_)
 simp only [zP, po]
 refine wK k4 (sK fun _ k6 => ?_)
 refine sK fun _ k7 => rL (xM (vI e1) rfl ?_)
 by_cases hb8 : e1 ≠ 0
 ·refine xG (.bool true) rfl (ex_neq rfl rfl rfl (qT hb8)) ?_
  simp only [zP, po]
  refine wK k7 (cT rfl ?_)
  refine sK fun _ k9 => rL (xM (vI e1) rfl ?_)
  refine xA (vN) rfl (xA (vI e1) rfl ?_)
  simp only [zP, po]
  refine wK k9 (rR ?_)
  refine tR (bodyPost_ret (results_tmp2 rfl _ _ _) rfl ?_)
  exact ⟨C, none, 0, [], e1, hC, rfl, ok_nil, rdV_nil, ⟨ss, e1, hss, .inl ⟨by omega, rfl, rfl⟩⟩, (hv.kp [1, 1] 2 1)⟩
 refine xG (.bool false) rfl (ex_neq rfl rfl rfl (qF hb8)) ?_
 simp only [zP, po]
 refine wK k7 (cF rfl ?_)
 refine kS (tK k6 ?_)
 refine sK fun _ k10 => sK fun _ k11 => rL (xM (vS name) rfl ?_)
 simp only [zP, po]
 refine wK k11 (bB ?_)
 refine sK fun _ k12 => rL ?_
 by_cases hb13 : name = ([83, 68, 73, 70, 70] : List UInt8)
 ·refine xG (.bool true) rfl (ex_seql rfl rfl rfl (qT hb13)) (xA (.bool true) rfl ?_)
  simp only [zP, po]
  refine wK k12 (cT rfl ?_)
  refine sK fun _ k14 => ?_
  have hs0 : 0 < ss.length := by rcases hss with ⟨-, h9, -⟩ | ⟨h9, -⟩ <;> omega
  obtain ⟨q, hq⟩ : ∃ x, ss[0]? = some x := ⟨_, List.getElem?_eq_getElem (show 0 < ss.length by omega)⟩
  obtain ⟨tb, to, qa, qc, had, hokq, hrq, hrdq⟩ := TxsAt.reads htx hrs hq
  subst had
  obtain ⟨a3, c3, ha3, ok3, hr3⟩ := sliced_fromV 1 hoks hrs (by rw [htx.len, Nat.mul_one]) (show 1 ≤ ss.length by omega) (by decide)
  have hd1 : (ss.drop 1).length = ss.length - 1 := List.length_drop
  refine rW mixed [5] [0,1,2,3,4,5,6,7] 36 rfl (by kernel_rfl) hv ?_
  simp only [qm, opAt]
  refine dM (.slice (some ⟨tb, to, none⟩) ss.length oc) rfl (dG (.pointer (some ⟨tb, to + 0, none⟩)) rfl (ex_index rfl rfl rfl (run_idx1 (k := 0) Tryz.underlying143 t3es143 (by omega))) ?_)
  refine dL _ rfl (fun hv => ex_load rfl rfl (run_load1 s1na22 (hrdq _ _ _ (Base.Le.refl _) no_res hv 0 _ rfl))) ?_
  simp only [zP, po]
  refine dM (.slice (some ⟨tb, to, none⟩) ss.length oc) rfl (dG (.slice a3 ((ss.drop 1).length) c3) rfl (ex_slice (lo' := some (vI ((1 : Nat) : Int))) rfl rfl (congrArg some rfl) rfl rfl ((run_fromAny Tryz.underlying143 t3es143 (by omega)).trans (by rw [ha3, hd1]))) ?_)
  refine dS rfl fun w15 hv => mC t3callable70 rfl ((setDiff C _ _ qa qc q hrq (by have := (hrt q (List.mem_of_getElem? hq)).1; omega) a3 c3 (ss.drop 1) (txs.drop 1) (htx.drop 1) (by rw [Nat.mul_one] at hr3; exact hr3) (by omega) (fun s hs => ⟨(setOk_iff.1 (hrt s (List.mem_of_mem_drop hs))).2.2, by have := (hrt s (List.mem_of_mem_drop hs)).1; omega⟩) hv).mono ?_) rfl
  rintro e w16 ⟨D, ra, rc, out, hD, rfl, hoko, hro, hout, hv⟩
  refine ⟨_, rfl, dW hv ?_⟩
  simp only [zP, po]
  refine dA (.slice ra out.length rc) rfl (dA (vI 0) rfl ?_)
  refine dE fun w17 hv => ?_
  simp only [zP, po]
  refine tK k14 (rR ?_)
  refine bZ (tR ?_)
  refine bodyPost_ret (results_tmp2 rfl _ _ _) rfl ?_
  have he1 : e1 = 0 := by omega
  exact ⟨D, ra, rc, out, 0, (hC.trans hD), rfl, hoko, hro, ⟨ss, e1, hss, .inr ⟨he1, .inl ⟨hb13, rfl, q, hq, hout⟩⟩⟩, (hv.kp [1, 1] 2 1)⟩
 refine xG (.bool false) rfl (ex_seql rfl rfl rfl (qF hb13)) (xA (.bool false) rfl ?_)
 simp only [zP, po]
 refine wK k12 (cF rfl ?_)
 refine sK fun _ k18 => rL ?_
 by_cases hb19 : name = ([83, 73, 78, 84, 69, 82] : List UInt8)
 ·refine xG (.bool true) rfl (ex_seql rfl rfl rfl (qT hb19)) (xA (.bool true) rfl ?_)
  simp only [zP, po]
  refine wK k18 (cT rfl ?_)
  refine sK fun _ k20 => rL (xM (.slice oa ss.length oc) rfl ?_)
  refine xC c3callable71 rfl ((setInter C _ _ oa oc ss txs htx hrs (by omega) (fun s hs => ⟨(setOk_iff.1 (hrt s hs)).2.2, by have := (hrt s hs).1; omega⟩) hoks hv).mono ?_) rfl
  rintro e w21 ⟨D, ra, rc, out, hD, rfl, hoko, hro, hout, hv⟩
  refine ⟨_, rfl, ?_⟩
  refine xA (.slice ra out.length rc) rfl ?_
  simp only [zP, po]
  refine xA (vI 0) rfl ?_
  simp only [zP, po]
  refine wK k20 (rR ?_)
  refine bZ (tR ?_)
  refine bodyPost_ret (results_tmp2 rfl _ _ _) rfl ?_
  have he1 : e1 = 0 := by omega
  exact ⟨D, ra, rc, out, 0, (hC.trans hD), rfl, hoko, hro, ⟨ss, e1, hss, .inr ⟨he1, .inr (.inl ⟨hb13, hb19, rfl, hout⟩)⟩⟩, (hv.kp [1, 1] 2 1)⟩
 refine xG (.bool false) rfl (ex_seql rfl rfl rfl (qF hb19)) (xA (.bool false) rfl ?_)
 simp only [zP, po]
 refine wK k18 (cF rfl ?_)
 refine kS (bN ?_)
 refine tK k10 (sK fun _ k22 => ?_)
 refine rL (xM (.slice oa ss.length oc) rfl ?_)
 refine xC c3callable72 rfl ((setUnion C _ _ oa oc ss txs htx hrs (by omega) (fun s hs => (hrt s hs).1) hv).mono ?_) rfl
 rintro e w23 ⟨D, ra, rc, out, e2, hD, rfl, hoko, hro, hout, hv⟩
 refine ⟨_, rfl, ?_⟩
 refine xG (.slice ra out.length rc) rfl (ex_extract rfl rfl rfl) ?_
 simp only [zP, po]
 refine xG (vI e2) rfl (ex_extract rfl rfl rfl) (xA (.slice ra out.length rc) rfl ?_)
 refine xA (vI e2) rfl ?_
 simp only [zP, po]
 refine wK k22 (rR ?_)
 refine bodyPost_ret (results_tmp2 rfl _ _ _) rfl ?_
 have he1 : e1 = 0 := by omega
 exact ⟨D, ra, rc, out, e2, (hC.trans hD), rfl, hoko, hro, ⟨ss, e1, hss, .inr ⟨he1, .inr (.inr ⟨hb13, hb19, hout⟩)⟩⟩, (hv.kp [1, 1] 2 1)⟩
theorem c3al28 (w : World) : (Instr.alloc 28 true (.tuple #[])).run Tryz.prog w = .ok (.pointer (some ⟨w.heap.size, 0, none⟩)) (w.alloc (.cells ([vI 0, vS [], vI 0, vN] : List Value).toArray 28)) := by kernel_rfl
theorem c3mk9 : (Tryz.prog.info? 9).map (fun i => (i.zero, i.size, i.bytes)) = some (some (vS []), 1, 16) := by kernel_rfl
theorem c3el22 : Elem Tryz.prog 22 9 (vS []) 1 16 := elem_of Tryz.underlying22 c3mk9 (by rfl) (by decide)
set_option maxHeartbeats 16000000 in
theorem csetMove (B : Base) (H : List Res) (w : World) (v t m s p wb : Nat) (va : Option Addr) (vc : Nat) (sv : Value) (clk : Int) (es : List (List UInt8 × Value)) (M : List (List UInt8 × Ver)) (hM : VM B es M) (hO : OkM M) (aa : Option Addr) (ac : Nat) (args : List (List UInt8)) (k l x : List UInt8) (hv : Inv B (Res.cell v [.iface 62 (vP t)] 39 :: txR t m s p wb va vc sv clk es :: H) w) :
  Calls Tryz.prog 47 #[.agg #[vP v, .slice aa args.length ac], vS k, vS l, vS x] w fun e w' => ∃ C es' M' r cs, B.Le C ∧ e = .returned (.agg cs.toArray) ∧ RpAt C r cs ∧ VM C es' M' ∧ OkM M' ∧ MoveR M clk k l x M' r ∧ Inv C (Res.cell v [.iface 62 (vP t)] 39 :: txR t m s p wb va vc sv clk es' :: H) w' := by
 refine cW Tryz.func47 rfl Tryz.ntmps47 ?_
 simp only [al]
 refine sK fun _ k1 => rL (sl_box (L := [vP v, .slice aa args.length ac]) tV (wn rfl) rfl rfl hv (fun w => by kernel_rfl) (fun b2 w3 hv => ?_))
 refine sl_alloc tV (wn rfl) rfl hv c3al28 (fun b4 w5 hv => ?_)
 simp only [zP, po]
 refine wK k1 (sK fun _ k6 => ?_)
 refine rL (xF (vP b2) rfl (c1fa73_0 _ _ _) ?_)
 refine xL _ rfl (run_load1 c1na24 (hv.load 1 0 rfl rfl)) (xM (vS k) rfl ?_)
 simp only [zP, po]
 replace hv := hv.front 3 rfl
 simp only [eS, eZ] at hv
 replace hv := hv.front 3 rfl
 simp only [eS, eZ] at hv
 refine xC c1callable63 rfl ((viewOf B _ _ v t m s p wb va vc sv clk es M k 4 hM hv).mono ?_) rfl
 rintro e w7 ⟨C1, y1, y1p, y1t, y1z, ey1, hC1, rfl, hy1v, hy1f, hv⟩
 refine ⟨_, rfl, ?_⟩
 obtain ⟨y1pa, y1pc, y1za, y1zc, y1pn, y1zn, y1sa, y1sc, rfl, rfl, rfl, hoky1, hry1⟩ : ∃ pa pc za zc pn zn sa sc, y1p = .slice pa pn pc ∧ y1z = .slice za zn zc ∧ y1t = .slice sa y1.val.texts.length sc ∧ SliceOk sa y1.val.texts.length sc ∧ RdV C1 [] sa (textCells y1.val.texts) := by
  obtain ⟨⟨a1, c1, h1, -⟩, ⟨a2, c2, h2, h3, h4⟩, ⟨a3, c3, h5, -⟩, -⟩ := hy1v
  exact ⟨_, _, _, _, _, _, _, _, h1, h5, h2, h3, h4⟩
 refine xM (.tuple #[.agg #[vI y1.stamp, .bool y1.gone, vI y1.expire, vI y1.val.kind, vS y1.val.text, .slice y1pa y1pn y1pc, .slice y1sa y1.val.texts.length y1sc, .slice y1za y1zn y1zc], vI ey1]) rfl (xG (.agg #[vI y1.stamp, .bool y1.gone, vI y1.expire, vI y1.val.kind, vS y1.val.text, .slice y1pa y1pn y1pc, .slice y1sa y1.val.texts.length y1sc, .slice y1za y1zn y1zc]) rfl (ex_extract rfl rfl rfl) ?_)
 simp only [zP, po]
 refine xG (vI ey1) rfl (ex_extract rfl rfl rfl) (sl_alloc tV (wn rfl) rfl hv c3al85 (fun b8 w9 hv => ?_))
 refine xS 0 rfl hv x0sz85 rfl (by exact ⟨rfl, rfl, rfl, rfl, rfl, rfl, rfl, rfl, trivial⟩) (fun w10 hv => ?_)
 simp only [zO, sp] at hv
 simp only [zP, po]
 refine xA (vI ey1) rfl ?_
 simp only [zP, po]
 refine wK k6 (sK fun _ k11 => ?_)
 refine sK fun _ k12 => rL (xM (vI ey1) rfl ?_)
 by_cases hb13 : ey1 ≠ 0
 ·refine xG (.bool true) rfl (ex_neq rfl rfl rfl (qT hb13)) ?_
  simp only [zP, po]
  refine wK k12 (cT rfl ?_)
  refine sK fun _ k14 => rL (xM (vI ey1) rfl ?_)
  refine xC rscallable24 rfl ((viewWrong C1 _ _ ey1 hv).mono ?_) rfl
  rintro e w16 ⟨s15, rfl, hv⟩
  refine ⟨_, rfl, ?_⟩
  refine xS 3 rfl hv rssz28 rfl (by exact ⟨rfl, rfl, rfl, rfl, trivial⟩) (fun w17 hv => ?_)
  simp only [zS, zO, sp] at hv
  simp only [zP, po]
  refine wK k14 (rR ?_)
  refine tR (bC 3 rswd28 hv rfl rfl rfl rfl ?_)
  exact ⟨C1, es, M, rFault s15, rpCells 1 s15 0 (vN), hC1, rfl, rpAt_leaf, hM.more hC1, hO, ⟨y1, ey1, hy1f, .inl ⟨by omega, rfl, rfl⟩⟩, (hv.kp [2, 2] 2 3)⟩
 refine xG (.bool false) rfl (ex_neq rfl rfl rfl (qF hb13)) ?_
 simp only [zP, po]
 refine wK k12 (cF rfl ?_)
 refine kS (tK k11 ?_)
 refine sK fun _ k18 => rL (xF (vP b2) rfl (c1fa73_0 _ _ _) ?_)
 refine xL _ rfl (run_load1 c1na24 (hv.load 4 0 rfl rfl)) (xM (vS l) rfl ?_)
 simp only [zP, po]
 replace hv := hv.front 2 rfl
 simp only [eS, eZ] at hv
 replace hv := hv.front 2 rfl
 simp only [eS, eZ] at hv
 refine xC c1callable63 rfl ((viewOf C1 _ _ v t m s p wb va vc sv clk es M l 4 (hM.more hC1) hv).mono ?_) rfl
 rintro e w19 ⟨C2, y2, y2p, y2t, y2z, ey2, hC2, rfl, hy2v, hy2f, hv⟩
 refine ⟨_, rfl, ?_⟩
 obtain ⟨y2pa, y2pc, y2za, y2zc, y2pn, y2zn, y2sa, y2sc, rfl, rfl, rfl, hoky2, hry2⟩ : ∃ pa pc za zc pn zn sa sc, y2p = .slice pa pn pc ∧ y2z = .slice za zn zc ∧ y2t = .slice sa y2.val.texts.length sc ∧ SliceOk sa y2.val.texts.length sc ∧ RdV C2 [] sa (textCells y2.val.texts) := by
  obtain ⟨⟨a1, c1, h1, -⟩, ⟨a2, c2, h2, h3, h4⟩, ⟨a3, c3, h5, -⟩, -⟩ := hy2v
  exact ⟨_, _, _, _, _, _, _, _, h1, h5, h2, h3, h4⟩
 refine xM (.tuple #[.agg #[vI y2.stamp, .bool y2.gone, vI y2.expire, vI y2.val.kind, vS y2.val.text, .slice y2pa y2pn y2pc, .slice y2sa y2.val.texts.length y2sc, .slice y2za y2zn y2zc], vI ey2]) rfl (xG (.agg #[vI y2.stamp, .bool y2.gone, vI y2.expire, vI y2.val.kind, vS y2.val.text, .slice y2pa y2pn y2pc, .slice y2sa y2.val.texts.length y2sc, .slice y2za y2zn y2zc]) rfl (ex_extract rfl rfl rfl) ?_)
 simp only [zP, po]
 refine xG (vI ey2) rfl (ex_extract rfl rfl rfl) (sl_alloc tV (wn rfl) rfl hv c3al85 (fun b20 w21 hv => ?_))
 refine xS 0 rfl hv x0sz85 rfl (by exact ⟨rfl, rfl, rfl, rfl, rfl, rfl, rfl, rfl, trivial⟩) (fun w22 hv => ?_)
 simp only [zO, sp] at hv
 simp only [zP, po]
 refine xA (vI ey2) rfl ?_
 simp only [zP, po]
 refine wK k18 (sK fun _ k23 => ?_)
 refine sK fun _ k24 => rL (xM (vI ey2) rfl ?_)
 by_cases hb25 : ey2 ≠ 0
 ·refine xG (.bool true) rfl (ex_neq rfl rfl rfl (qT hb25)) ?_
  simp only [zP, po]
  refine wK k24 (cT rfl ?_)
  refine sK fun _ k26 => rL (xM (vI ey2) rfl ?_)
  refine xC rscallable24 rfl ((viewWrong C2 _ _ ey2 hv).mono ?_) rfl
  rintro e w28 ⟨s27, rfl, hv⟩
  refine ⟨_, rfl, ?_⟩
  refine xS 4 rfl hv rssz28 rfl (by exact ⟨rfl, rfl, rfl, rfl, trivial⟩) (fun w29 hv => ?_)
  simp only [zS, zO, sp] at hv
  simp only [zP, po]
  refine wK k26 (rR ?_)
  refine tR (bC 4 rswd28 hv rfl rfl rfl rfl ?_)
  exact ⟨C2, es, M, rFault s27, rpCells 1 s27 0 (vN), (hC1.trans hC2), rfl, rpAt_leaf, hM.more (hC1.trans hC2), hO, ⟨y1, ey1, hy1f, .inr ⟨by omega, y2, ey2, hy2f, .inl ⟨by omega, rfl, rfl⟩⟩⟩, (hv.kp [2, 2] 2 4)⟩
 refine xG (.bool false) rfl (ex_neq rfl rfl rfl (qF hb25)) ?_
 simp only [zP, po]
 refine wK k24 (cF rfl ?_)
 refine kS (tK k23 ?_)
 refine sK fun _ k30 => sK fun _ k31 => rL (xM (vS k) rfl ?_)
 refine xM (vS l) rfl ?_
 by_cases hb32 : k = l
 ·refine xG (.bool true) rfl (ex_seql rfl rfl rfl (qT hb32)) ?_
  simp only [zP, po]
  refine xM (.bool true) rfl ?_
  iterate 6 refine yN rfl ?_
  refine xK true (.bool true) rfl ?_
  simp only [zP, po]
  refine wK k31 (cT rfl ?_)
  refine sK fun _ k33 => rL (xF (.pointer (some ⟨b8, 3, none⟩)) rfl (x2fa85_3 _ _ _) ?_)
  refine xF (.pointer (some ⟨b8, 6, none⟩)) rfl (s1fa78_3 _ _ _) (xL _ rfl (run_load1 s1na22 (hv.load 3 6 rfl rfl)) ?_)
  simp only [zP, po]
  refine xM (vS x) rfl (xC t3callable67 rfl ((setHas C2 _ _ y1sa y1sc y1.val.texts x (hry1.more hC2 (fun _ h => h)) (by have := (hO.set hy1f).1; omega) (hO.sorted hy1f) hv).mono ?_) rfl)
  rintro e w34 ⟨rfl, hv⟩
  refine ⟨_, rfl, ?_⟩
  refine xC c2callable66 rfl ((csetTruth C2 _ _ (decide (x ∈ y1.val.texts)) hv).mono ?_) rfl
  rintro e w35 ⟨rfl, hv⟩
  refine ⟨_, rfl, ?_⟩
  simp only [zP, po]
  refine xS 4 rfl hv rssz28 rfl (by exact ⟨rfl, rfl, rfl, rfl, trivial⟩) (fun w36 hv => ?_)
  simp only [zS, zO, sp] at hv
  simp only [zP, po]
  refine wK k33 (rR ?_)
  refine tR (bC 4 rswd28 hv rfl rfl rfl rfl ?_)
  exact ⟨C2, es, M, rInt (if decide (x ∈ y1.val.texts) then 1 else 0), rpCells 2 [] (if decide (x ∈ y1.val.texts) then 1 else 0) (vN), (hC1.trans hC2), rfl, rpAt_leaf, hM.more (hC1.trans hC2), hO, ⟨y1, ey1, hy1f, .inr ⟨by omega, y2, ey2, hy2f, .inr ⟨by omega, .inl ⟨.inl hb32, rfl, rfl⟩⟩⟩⟩, (hv.kp [2, 2] 2 4)⟩
 refine xG (.bool false) rfl (ex_seql rfl rfl rfl (qF hb32)) ?_
 simp only [zP, po]
 refine xM (.bool false) rfl (xF (.pointer (some ⟨b8, 3, none⟩)) rfl (x2fa85_3 _ _ _) ?_)
 refine xF (.pointer (some ⟨b8, 6, none⟩)) rfl (s1fa78_3 _ _ _) ?_
 simp only [zP, po]
 refine xL _ rfl (run_load1 s1na22 (hv.load 3 6 rfl rfl)) (xM (vS x) rfl ?_)
 refine xC t3callable67 rfl ((setHas C2 _ _ y1sa y1sc y1.val.texts x (hry1.more hC2 (fun _ h => h)) (by have := (hO.set hy1f).1; omega) (hO.sorted hy1f) hv).mono ?_) rfl
 rintro e w37 ⟨rfl, hv⟩
 refine ⟨_, rfl, ?_⟩
 simp only [zP, po]
 refine xG (.bool (!(decide (x ∈ y1.val.texts)))) rfl (ex_not rfl rfl rfl) (xK false (.bool (!(decide (x ∈ y1.val.texts)))) rfl ?_)
 simp only [zP, po]
 refine wK k31 (wpIn_cond_split (t := !(decide (x ∈ y1.val.texts))) rfl (fun hc38 => ?_) (fun hc38 => ?_))
 ·refine sK fun _ k39 => rL (xF (.pointer (some ⟨b8, 3, none⟩)) rfl (x2fa85_3 _ _ _) ?_)
  refine xF (.pointer (some ⟨b8, 6, none⟩)) rfl (s1fa78_3 _ _ _) (xL _ rfl (run_load1 s1na22 (hv.load 3 6 rfl rfl)) ?_)
  simp only [zP, po]
  refine xM (vS x) rfl (xC t3callable67 rfl ((setHas C2 _ _ y1sa y1sc y1.val.texts x (hry1.more hC2 (fun _ h => h)) (by have := (hO.set hy1f).1; omega) (hO.sorted hy1f) hv).mono ?_) rfl)
  rintro e w40 ⟨rfl, hv⟩
  refine ⟨_, rfl, ?_⟩
  refine xC c2callable66 rfl ((csetTruth C2 _ _ (decide (x ∈ y1.val.texts)) hv).mono ?_) rfl
  rintro e w41 ⟨rfl, hv⟩
  refine ⟨_, rfl, ?_⟩
  simp only [zP, po]
  refine xS 4 rfl hv rssz28 rfl (by exact ⟨rfl, rfl, rfl, rfl, trivial⟩) (fun w42 hv => ?_)
  simp only [zS, zO, sp] at hv
  simp only [zP, po]
  refine wK k39 (rR ?_)
  refine tR (bC 4 rswd28 hv rfl rfl rfl rfl ?_)
  exact ⟨C2, es, M, rInt (if decide (x ∈ y1.val.texts) then 1 else 0), rpCells 2 [] (if decide (x ∈ y1.val.texts) then 1 else 0) (vN), (hC1.trans hC2), rfl, rpAt_leaf, hM.more (hC1.trans hC2), hO, ⟨y1, ey1, hy1f, .inr ⟨by omega, y2, ey2, hy2f, .inr ⟨by omega, .inl ⟨.inr (by simpa using hc38), rfl, rfl⟩⟩⟩⟩, (hv.kp [2, 2] 2 4)⟩
 refine kS (tK k30 ?_)
 refine sK fun _ k43 => rL (xF (.pointer (some ⟨b20, 3, none⟩)) rfl (x2fa85_3 _ _ _) ?_)
 refine xF (.pointer (some ⟨b20, 6, none⟩)) rfl (s1fa78_3 _ _ _) (xL _ rfl (run_load1 s1na22 (hv.load 0 6 rfl rfl)) ?_)
 simp only [zP, po]
 refine xM (vS x) rfl (sl_rowOne (v := vS x) tV (wn rfl) rfl rfl hv c3el22 rfl (fun b44 w45 hv => ?_))
 obtain ⟨D1, hD1, hv, hrkD1, -, -⟩ := (hv.cellRow (n := 1) (c := 1) (size := 1) rfl (by decide) (by decide)).rowBy
 have hs2 := (hO.set hy2f).1
 refine xC c1callable64 rfl ((setAdd D1 _ _ y2sa _ y2sc 1 y2.val.texts [x] hoky2 (hry2.more hD1 (fun _ h => h)) (hO.sorted hy2f) (by omega) (ok_full (by simp)) hrkD1 (by simp) hv).mono ?_) rfl
 rintro e w46 ⟨D2, oa, oc, out, n, e3, hD2, rfl, hoko, hro, hadd, hv⟩
 refine ⟨_, rfl, ?_⟩
 have hol : out.length ≤ 1000000 := by
  have h9 := hadd
  rcases h9 with ⟨-, -, rfl, -⟩ | ⟨-, j, -, ⟨-, -, rfl, -⟩ | ⟨-, h9, rfl, -⟩⟩ <;> simp <;> omega
 simp only [zP, po]
 refine xM (.tuple #[.slice oa out.length oc, vI n, vI e3]) rfl (xG (.slice oa out.length oc) rfl (ex_extract rfl rfl rfl) ?_)
 refine xG (vI n) rfl (ex_extract rfl rfl rfl) ?_
 simp only [zP, po]
 refine xG (vI e3) rfl (ex_extract rfl rfl rfl) (xA (.slice oa out.length oc) rfl ?_)
 refine xA (vI n) rfl ?_
 simp only [zP, po]
 refine xA (vI e3) rfl ?_
 simp only [zP, po]
 refine wK k43 (sK fun _ k47 => ?_)
 refine sK fun _ k48 => rL (xM (vI e3) rfl ?_)
 by_cases hb49 : e3 ≠ 0
 ·refine xG (.bool true) rfl (ex_neq rfl rfl rfl (qT hb49)) ?_
  simp only [zP, po]
  refine wK k48 (cT rfl ?_)
  refine sK fun _ k50 => rL (xM (vI e3) rfl ?_)
  refine xC rscallable24 rfl ((viewWrong D2 _ _ e3 hv).mono ?_) rfl
  rintro e w52 ⟨s51, rfl, hv⟩
  refine ⟨_, rfl, ?_⟩
  refine xS 4 rfl hv rssz28 rfl (by exact ⟨rfl, rfl, rfl, rfl, trivial⟩) (fun w53 hv => ?_)
  simp only [zS, zO, sp] at hv
  simp only [zP, po]
  refine wK k50 (rR ?_)
  refine tR (bC 4 rswd28 hv rfl rfl rfl rfl ?_)
  exact ⟨D2, es, M, rFault s51, rpCells 1 s51 0 (vN), (((hC1.trans hC2).trans hD1).trans hD2), rfl, rpAt_leaf, hM.more (((hC1.trans hC2).trans hD1).trans hD2), hO, ⟨y1, ey1, hy1f, .inr ⟨by omega, y2, ey2, hy2f, .inr ⟨by omega, .inr ⟨hb32, by simpa using hc38, out, n, e3, hadd, .inl ⟨by omega, rfl, rfl⟩⟩⟩⟩⟩, (hv.kp [2, 2] 2 4)⟩
 refine xG (.bool false) rfl (ex_neq rfl rfl rfl (qF hb49)) ?_
 simp only [zP, po]
 refine wK k48 (cF rfl ?_)
 refine kS (tK k47 ?_)
 refine sK fun _ k54 => sK fun _ k55 => rL (xL (.agg #[vP v, .slice aa args.length ac]) rfl (lM 5 c1wd73 hv rfl rfl rfl rfl) ?_)
 refine xM (vS l) rfl (xL (.agg #[vI y2.stamp, .bool y2.gone, vI y2.expire, vI y2.val.kind, vS y2.val.text, .slice y2pa y2pn y2pc, .slice y2sa y2.val.texts.length y2sc, .slice y2za y2zn y2zc]) rfl (lM 0 x0wd85 hv rfl rfl rfl rfl) ?_)
 simp only [zP, po]
 refine xM (.slice oa out.length oc) rfl ?_
 replace hv := hv.front 2 rfl
 simp only [eS, eZ] at hv
 replace hv := hv.front 2 rfl
 simp only [eS, eZ] at hv
 refine xC c1callable44 rfl ((csetKeep D2 _ _ v t m s p wb va vc sv clk es M (hM.more (((hC1.trans hC2).trans hD1).trans hD2)) hO aa ac args.length l y2 _ _ _ (hy2v.more (hD1.trans hD2)) oa oc out hro hoko hol hv).mono ?_) rfl
 rintro e w56 ⟨D3, es1, M1, e4, hD3, rfl, hM1, hk1, hv⟩
 refine ⟨_, rfl, ?_⟩
 have hO1 := hO.keep hk1
 refine xA (vI e4) rfl ?_
 simp only [zP, po]
 refine wK k55 (sK fun _ k57 => ?_)
 refine rL (xM (vI e4) rfl ?_)
 by_cases hb58 : e4 ≠ 0
 ·refine xG (.bool true) rfl (ex_neq rfl rfl rfl (qT hb58)) ?_
  simp only [zP, po]
  refine wK k57 (cT rfl ?_)
  refine sK fun _ k59 => rL (xM (vI e4) rfl ?_)
  refine xC rscallable24 rfl ((viewWrong D3 _ _ e4 hv).mono ?_) rfl
  rintro e w61 ⟨s60, rfl, hv⟩
  refine ⟨_, rfl, ?_⟩
  refine xS 4 rfl hv rssz28 rfl (by exact ⟨rfl, rfl, rfl, rfl, trivial⟩) (fun w62 hv => ?_)
  simp only [zS, zO, sp] at hv
  simp only [zP, po]
  refine wK k59 (rR ?_)
  refine tR (bC 4 rswd28 hv rfl rfl rfl rfl ?_)
  exact ⟨D3, es1, M1, rFault s60, rpCells 1 s60 0 (vN), ((((hC1.trans hC2).trans hD1).trans hD2).trans hD3), rfl, rpAt_leaf, hM1.more (Base.Le.refl _), hO1, ⟨y1, ey1, hy1f, .inr ⟨by omega, y2, ey2, hy2f, .inr ⟨by omega, .inr ⟨hb32, by simpa using hc38, out, n, e3, hadd, .inr ⟨by omega, M1, e4, hk1, .inl ⟨by omega, rfl, rfl⟩⟩⟩⟩⟩⟩, (hv.kp [1, 1] 2 4)⟩
 refine xG (.bool false) rfl (ex_neq rfl rfl rfl (qF hb58)) ?_
 simp only [zP, po]
 refine wK k57 (cF rfl ?_)
 refine kS (tK k54 ?_)
 refine sK fun _ k63 => rL (xF (.pointer (some ⟨b8, 3, none⟩)) rfl (x2fa85_3 _ _ _) ?_)
 refine xF (.pointer (some ⟨b8, 6, none⟩)) rfl (s1fa78_3 _ _ _) (xL _ rfl (run_load1 s1na22 (hv.load 3 6 rfl rfl)) ?_)
 simp only [zP, po]
 refine xM (vS x) rfl (sl_rowOne (v := vS x) tV (wn rfl) rfl rfl hv c3el22 rfl (fun b64 w65 hv => ?_))
 obtain ⟨D4, hD4, hv, hrkD4, -, -⟩ := (hv.cellRow (n := 1) (c := 1) (size := 1) rfl (by decide) (by decide)).rowBy
 have hs1 := (hO.set hy1f).1
 refine xC c1callable65 rfl ((setDel D4 _ _ y1sa y1sc y1.val.texts (hry1.more ((((hC2.trans hD1).trans hD2).trans hD3).trans hD4) (fun _ h => h)) (by omega) _ 1 [x] (ok_full (by simp)) hrkD4 (by simp) hv).mono ?_) rfl
 rintro e w66 ⟨D5, la, lc, lft, hD5, rfl, hokl, hrl, hdel, hv⟩
 refine ⟨_, rfl, ?_⟩
 have hll : lft.length ≤ 1000000 := by
  have h9 : lft.length ≤ y1.val.texts.length := by rw [hdel]; exact List.length_filter_le _ _
  omega
 simp only [zP, po]
 refine xM (.tuple #[.slice la lft.length lc, vI ((y1.val.texts.length : Int) - (lft.length : Int))]) rfl (xG (.slice la lft.length lc) rfl (ex_extract rfl rfl rfl) ?_)
 refine xG (vI ((y1.val.texts.length : Int) - (lft.length : Int))) rfl (ex_extract rfl rfl rfl) ?_
 simp only [zP, po]
 refine xA (.slice la lft.length lc) rfl (xA (vI ((y1.val.texts.length : Int) - (lft.length : Int))) rfl ?_)
 simp only [zP, po]
 refine wK k63 (sK fun _ k67 => ?_)
 refine rL (xL (.agg #[vP v, .slice aa args.length ac]) rfl (lM 5 c1wd73 hv rfl rfl rfl rfl) ?_)
 refine xM (vS k) rfl (xL (.agg #[vI y1.stamp, .bool y1.gone, vI y1.expire, vI y1.val.kind, vS y1.val.text, .slice y1pa y1pn y1pc, .slice y1sa y1.val.texts.length y1sc, .slice y1za y1zn y1zc]) rfl (lM 3 x0wd85 hv rfl rfl rfl rfl) ?_)
 simp only [zP, po]
 refine xM (.slice la lft.length lc) rfl ?_
 replace hv := hv.front 1 rfl
 simp only [eS, eZ] at hv
 replace hv := hv.front 1 rfl
 simp only [eS, eZ] at hv
 refine xC c1callable44 rfl ((csetKeep D5 _ _ v t m s p wb va vc sv clk es1 M1 (hM1.more (hD4.trans hD5)) hO1 aa ac args.length k y1 _ _ _ (hy1v.more (((((hC2.trans hD1).trans hD2).trans hD3).trans hD4).trans hD5)) la lc lft hrl hokl hll hv).mono ?_) rfl
 rintro e w68 ⟨D6, es2, M2, e5, hD6, rfl, hM2, hk2, hv⟩
 refine ⟨_, rfl, ?_⟩
 refine xC c1callable45 rfl ((respInt D6 _ _ 1 hv).mono ?_) rfl
 rintro e w69 ⟨rfl, hv⟩
 refine ⟨_, rfl, ?_⟩
 simp only [zP, po]
 refine xC c1callable42 rfl ((viewDone D6 _ _ e5 2 1 ([] : List UInt8) (vN) rfl rfl hv).mono ?_) rfl
 rintro e w70 ⟨xr, hxr, rfl, hv⟩
 refine ⟨_, rfl, ?_⟩
 rcases hxr with ⟨hec0, rfl⟩ | ⟨hec0, s71, rfl⟩
 ·refine xS 4 rfl hv rssz28 rfl (by exact ⟨rfl, rfl, rfl, rfl, trivial⟩) (fun w72 hv => ?_)
  simp only [zS, zO, sp] at hv
  simp only [zP, po]
  refine wK k67 (rR ?_)
  refine bC 4 rswd28 hv rfl rfl rfl rfl ?_
  rw [hdel] at hk2
  exact ⟨D6, es2, M2, rInt 1, rpCells 2 [] 1 (vN), (((((((hC1.trans hC2).trans hD1).trans hD2).trans hD3).trans hD4).trans hD5).trans hD6), rfl, rpAt_leaf, hM2.more (Base.Le.refl _), hO1.keep hk2, ⟨y1, ey1, hy1f, .inr ⟨by omega, y2, ey2, hy2f, .inr ⟨by omega, .inr ⟨hb32, by simpa using hc38, out, n, e3, hadd, .inr ⟨by omega, M1, e4, hk1, .inr ⟨by omega, e5, hk2, .inl ⟨by omega, rfl⟩⟩⟩⟩⟩⟩⟩, (hv.kp [1, 1] 2 4)⟩
 refine xS 4 rfl hv rssz28 rfl (by exact ⟨rfl, rfl, rfl, rfl, trivial⟩) (fun w73 hv => ?_)
 simp only [zS, zO, sp] at hv
 simp only [zP, po]
 refine wK k67 (rR ?_)
 refine bC 4 rswd28 hv rfl rfl rfl rfl ?_
 rw [hdel] at hk2
 exact ⟨D6, es2, M2, rFault s71, rpCells 1 s71 0 (vN), (((((((hC1.trans hC2).trans hD1).trans hD2).trans hD3).trans hD4).trans hD5).trans hD6), rfl, rpAt_leaf, hM2.more (Base.Le.refl _), hO1.keep hk2, ⟨y1, ey1, hy1f, .inr ⟨by omega, y2, ey2, hy2f, .inr ⟨by omega, .inr ⟨hb32, by simpa using hc38, out, n, e3, hadd, .inr ⟨by omega, M1, e4, hk1, .inr ⟨by omega, e5, hk2, .inr ⟨by omega, rfl⟩⟩⟩⟩⟩⟩⟩, (hv.kp [1, 1] 2 4)⟩
end Go.Proofs.YtoljdfjnannakaaGreatDoor
/- The order of texts, octet by octet. -/
namespace Go.Pm
open Go.RowKit
section
variable {P : Program} {a : Act} {w : World} {o : Oper} {t : TypeId} {x y : Operand} {l : List UInt8}
theorem ex_sidx0 {i : Nat} {c : UInt8} (ht : P.underlying t = some .string) (ho : o.op = .index t x y) (hx : a.eval x = .string ⟨l.toArray⟩) (hy : a.eval y = .int .i64 (i : Int)) (hc : l[i]? = some c) : Ex P a o w (.int .u8 (c.toNat : Int)) w := by
 obtain ⟨hi, rfl⟩ := List.getElem?_eq_some_iff.1 hc
 have h := run_index_string (P := P) w t ⟨l.toArray⟩ .i64 (i : Int) ht
 rw [dif_pos ⟨by omega, by show (i : Int) < (l.length : Int); omega⟩] at h
 have e : (⟨l.toArray⟩ : ByteArray)[((i : Int)).toNat]'(by show ((i : Int)).toNat < l.length; omega) = l[i] := rfl
 rw [e] at h
 unfold Ex
 simp [execOp, ho, hx, hy, h]
end
section
variable {a b : List UInt8} {i : Nat}
end
end Go.Pm
/- view.Is. -/
namespace Go.Proofs.YtoljdfjnannakaaGreatDoor
open Go.RowKit Go.Pm
def lowZ (n : Int) : Int := if 65 ≤ n ∧ n ≤ 90 then n + 32 else n
def SameC (x arg : List UInt8) : Prop := x.length = arg.length ∧ ∀ (k : Nat) (a b : UInt8), x[k]? = some a → arg[k]? = some b → lowZ (a.toNat : Int) = lowZ (b.toNat : Int)
def IsI (arg : List UInt8) (ws : List (List UInt8)) (r : Int) : Prop := (r = -1 ∧ ∀ x ∈ ws, ¬ SameC x arg) ∨ ∃ (i : Nat) (x : List UInt8), r = (i : Int) ∧ ws[i]? = some x ∧ SameC x arg ∧ ∀ (j : Nat) y, j < i → ws[j]? = some y → ¬ SameC y arg
set_option maxHeartbeats 2000000 in
theorem viewLow (B : Base) (H : List Res) (w : World) (n : Int) (h0 : 0 ≤ n) (h1 : n ≤ 255) (hv : Inv B H w) :
  Calls Tryz.prog 96 #[.int .u8 n] w fun e w' => e = .returned (.int .u8 (lowZ n)) ∧ Inv B H w' := by
 refine cW Tryz.func96 rfl Tryz.ntmps96 ?_
 simp only [al]
 refine sK fun _ k1 => rL (xA (.int .u8 0) rfl ?_)
 simp only [zP, po]
 refine wK k1 (sK fun _ k2 => ?_)
 refine sK fun _ k3 => rL (xM (.int .u8 n) rfl ?_)
 by_cases hb4 : 65 ≤ n
 ·refine xG (.bool true) rfl (ex_leq rfl rfl rfl (qT hb4)) (xM (.bool true) rfl ?_)
  simp only [zP, po]
  refine xM (.int .u8 n) rfl ?_
  by_cases hb5 : n ≤ 90
  ·refine xG (.bool true) rfl (ex_leq rfl rfl rfl (qT hb5)) (xK true (.bool true) rfl ?_)
   simp only [zP, po]
   refine wK k3 (cT rfl ?_)
   refine sK fun _ k6 => rL (xM (.int .u8 n) rfl ?_)
   refine xG (.int .u8 (n + 97)) rfl (ex_add rfl rfl rfl (u8_in (by omega))) (xG (.int .u8 (n + 32)) rfl (ex_sub rfl rfl rfl (by rw [u8_in (by omega)]; omega)) ?_)
   simp only [zP, po]
   refine xA (.int .u8 (n + 32)) rfl ?_
   simp only [zP, po]
   refine wK k6 (rR ?_)
   refine tR (bR rfl rfl ?_)
   exact ⟨congrArg (fun n : Int => Ending.returned (Value.int .u8 n)) (by unfold lowZ; split <;> omega), hv⟩
  refine xG (.bool false) rfl (ex_leq rfl rfl rfl (qF hb5)) (xK true (.bool false) rfl ?_)
  simp only [zP, po]
  refine wK k3 (cF rfl ?_)
  refine kS (tK k2 ?_)
  refine sK fun _ k7 => rL (xM (.int .u8 n) rfl ?_)
  refine xA (.int .u8 n) rfl ?_
  simp only [zP, po]
  refine wK k7 (rR ?_)
  refine bR rfl rfl (⟨congrArg (fun n : Int => Ending.returned (Value.int .u8 n)) (by unfold lowZ; split <;> omega), hv⟩)
 refine xG (.bool false) rfl (ex_leq rfl rfl rfl (qF hb4)) (xM (.bool false) rfl ?_)
 simp only [zP, po]
 iterate 2 refine yN rfl ?_
 refine xK false (.bool false) rfl ?_
 simp only [zP, po]
 refine wK k3 (cF rfl ?_)
 refine kS (tK k2 ?_)
 refine sK fun _ k8 => rL (xM (.int .u8 n) rfl ?_)
 refine xA (.int .u8 n) rfl ?_
 simp only [zP, po]
 refine wK k8 (rR ?_)
 refine bR rfl rfl (⟨congrArg (fun n : Int => Ending.returned (Value.int .u8 n)) (by unfold lowZ; split <;> omega), hv⟩)
theorem v5callable96 : Callable Tryz.prog 96 := ⟨_, Tryz.func96, by kernel_rfl, by kernel_rfl⟩
set_option maxHeartbeats 4000000 in
theorem viewIs (B : Base) (H : List Res) (w : World) (arg : List UInt8) (ka : Option Addr) (kc : Nat) (ws : List (List UInt8)) (hr : RdV B [] ka (textCells ws)) (hm : ws.length ≤ 1000000) (hma : arg.length ≤ 9223372036854775807) (hv : Inv B H w) :
  Calls Tryz.prog 75 #[vS arg, .slice ka ws.length kc] w fun e w' => ∃ r : Int, e = .returned (vI r) ∧ IsI arg ws r ∧ Inv B H w' := by
 refine cW Tryz.func75 rfl Tryz.ntmps75 ?_
 simp only [al]
 refine sK fun _ k1 => rL (xA (vI 0) rfl ?_)
 simp only [zP, po]
 refine wK k1 (wpIn_scopeW ?_)
 refine sK fun _ k2 => wpIn_label (tK k2 ?_)
 refine sK fun _ k3 => sK fun _ k4 => rL (xM (.slice ka ws.length kc) rfl ?_)
 refine xG (vI (ws.length : Int)) rfl (ex_len0 Tryz.underlying22 rfl rfl) (xM (vI 0) rfl ?_)
 simp only [zP, po]
 refine wK k4 (bB ?_)
 gi_loopw [10] (fun x10 wr => ∃ (i : Nat), x10 = vI i ∧ i ≤ ws.length ∧ (∀ (j : Nat) y, j < i → ws[j]? = some y → ¬ SameC y arg) ∧ Inv B H wr) (fun x10 _ => ws.length - (intOf x10).toNat)
 case atStart => exact ⟨0, rfl, Nat.zero_le _, fun j y h => by omega, hv⟩
 case round =>
  obtain ⟨i, rfl, hi, hno, hv⟩ := hrel
  refine sK fun _ k6 => rL ?_
  by_cases hb7 : (i : Int) < (ws.length : Int)
  ·refine xG (.bool true) rfl (ex_lss rfl rfl rfl (qT hb7)) ?_
   simp only [zP, po]
   refine wK k6 (sK fun _ k8 => ?_)
   refine cT rfl (kS ?_)
   refine tK k8 (sK fun _ k9 => ?_)
   refine bB (sK fun _ k10 => ?_)
   obtain ⟨x, hx⟩ : ∃ x, ws[i]? = some x := ⟨_, List.getElem?_eq_getElem (show i < ws.length by omega)⟩
   obtain ⟨bb, bo, had, hrdx⟩ := text_reads hr hx
   subst had
   refine rL (xM (vI i) rfl ?_)
   refine xG (.pointer (some ⟨bb, bo + i, none⟩)) rfl (ex_index rfl rfl rfl (run_idx1 (k := i) Tryz.underlying22 s9es22 (by omega))) (xL _ rfl (run_load1 s9na9 (hrdx _ _ _ (Base.Le.refl _) no_res hv 0 _ rfl)) ?_)
   simp only [zP, po]
   refine xA (vI i) rfl (xA (vS x) rfl ?_)
   simp only [zP, po]
   refine wK k10 (sK fun _ k11 => ?_)
   refine sK fun _ k12 => rL (xM (vS x) rfl ?_)
   refine xG (vI (x.length : Int)) rfl (ex_lenStr Tryz.underlying9 rfl rfl) (xM (vS arg) rfl ?_)
   simp only [zP, po]
   refine xG (vI (arg.length : Int)) rfl (ex_lenStr Tryz.underlying9 rfl rfl) ?_
   by_cases hb13 : (x.length : Int) ≠ (arg.length : Int)
   ·refine xG (.bool true) rfl (ex_neq rfl rfl rfl (qT hb13)) ?_
    simp only [zP, po]
    refine wK k12 (cT rfl ?_)
    refine xE (tX ?_)
    refine bH (tK k9 ?_)
    refine rL (xG (vI ((i + 1 : Nat) : Int)) rfl (ex_add rfl rfl rfl (by rw [i64_in (by omega)]; omega)) ?_)
    refine xM (vI ((i + 1 : Nat) : Int)) rfl (wL ?_)
    simp only [zP, po]
    refine then_normal ?_
    go_roundw
    case rel => exact ⟨i + 1, rfl, by omega, fun j9 y9 hj9 hy9 => (by
       rcases Nat.lt_or_ge j9 i with h | h
       ·exact hno j9 y9 h hy9
       obtain rfl : j9 = i := by omega
       rw [hx] at hy9; cases hy9
       exact fun h => by have h9 := h.1; omega), hv⟩
    case measure => show ws.length - (((i + 1 : Nat) : Int)).toNat < ws.length - ((i : Int)).toNat; omega
   refine xG (.bool false) rfl (ex_neq rfl rfl rfl (qF hb13)) ?_
   simp only [zP, po]
   refine wK k12 (cF rfl ?_)
   refine kS (tK k11 ?_)
   refine sK fun _ k14 => sK fun _ k15 => rL (xM (vS x) rfl ?_)
   refine xG (vI (x.length : Int)) rfl (ex_lenStr Tryz.underlying9 rfl rfl) (xM (vI 0) rfl ?_)
   simp only [zP, po]
   refine wK k15 (bB ?_)
   gi_loopw [22] (fun x22 wr => ∃ (j : Nat), x22 = vI j ∧ j ≤ x.length ∧ (∀ (k : Nat) (a b : UInt8), k < j → x[k]? = some a → arg[k]? = some b → lowZ (a.toNat : Int) = lowZ (b.toNat : Int)) ∧ Inv B H wr) (fun x22 _ => x.length - (intOf x22).toNat)
   case atStart => exact ⟨0, rfl, Nat.zero_le _, fun k a b h => by omega, hv⟩
   case round =>
    obtain ⟨j, rfl, hj, heq, hv⟩ := hrel
    refine sK fun _ k17 => rL ?_
    by_cases hb18 : (j : Int) < (x.length : Int)
    ·refine xG (.bool true) rfl (ex_lss rfl rfl rfl (qT hb18)) ?_
     simp only [zP, po]
     refine wK k17 (sK fun _ k19 => ?_)
     refine cT rfl (kS ?_)
     refine tK k19 (sK fun _ k20 => ?_)
     refine bB (sK fun _ k21 => ?_)
     refine rL (xM (vI j) rfl ?_)
     refine xA (vI j) rfl ?_
     simp only [zP, po]
     refine wK k21 (sK fun _ k22 => ?_)
     obtain ⟨a, ha⟩ : ∃ y, x[j]? = some y := ⟨_, List.getElem?_eq_getElem (show j < x.length by omega)⟩
     obtain ⟨b, hb⟩ : ∃ y, arg[j]? = some y := ⟨_, List.getElem?_eq_getElem (show j < arg.length by omega)⟩
     refine rW mixed [3, 7] [0,1,2,4,5,6,3,7,8] 37 rfl (by kernel_rfl) hv ?_
     simp only [qm, opAt]
     refine dM (vS x) rfl (dM (vI j) rfl ?_)
     refine dG (.int .u8 (a.toNat : Int)) rfl (ex_sidx0 Tryz.underlying9 rfl rfl rfl ha) ?_
     simp only [zP, po]
     refine dM (vS arg) rfl (dM (vI j) rfl ?_)
     refine dG (.int .u8 (b.toNat : Int)) rfl (ex_sidx0 Tryz.underlying9 rfl rfl rfl hb) ?_
     simp only [zP, po]
     refine dS rfl fun w23 hv => mC v5callable96 rfl ((viewLow B _ _ (a.toNat : Int) (by omega) (by have := a.toNat_lt; omega) hv).mono ?_) rfl
     rintro e w24 ⟨rfl, hv⟩
     refine ⟨_, rfl, dW hv ?_⟩
     refine dS rfl fun w25 hv => mC v5callable96 rfl ((viewLow B _ _ (b.toNat : Int) (by omega) (by have := b.toNat_lt; omega) hv).mono ?_) rfl
     rintro e w26 ⟨rfl, hv⟩
     refine ⟨_, rfl, dW hv ?_⟩
     by_cases hb27 : (lowZ (a.toNat : Int)) ≠ (lowZ (b.toNat : Int))
     ·refine dG (.bool true) rfl (ex_neq rfl rfl rfl (qT hb27)) (dE fun w28 hv => ?_)
      simp only [zP, po]
      refine tK k22 (cT rfl ?_)
      refine xE (bM rfl ?_)
      refine tX (tX ?_)
      refine bM rfl (tX ?_)
      refine bH (tK k9 ?_)
      refine rL (xG (vI ((i + 1 : Nat) : Int)) rfl (ex_add rfl rfl rfl (by rw [i64_in (by omega)]; omega)) ?_)
      refine xM (vI ((i + 1 : Nat) : Int)) rfl (wL ?_)
      simp only [zP, po]
      refine then_normal ?_
      go_roundw
      case rel => exact ⟨i + 1, rfl, by omega, fun j9 y9 hj9 hy9 => (by
         rcases Nat.lt_or_ge j9 i with h | h
         ·exact hno j9 y9 h hy9
         obtain rfl : j9 = i := by omega
         rw [hx] at hy9; cases hy9
         exact fun h => hb27 (h.2 j a b ha hb)), hv⟩
      case measure => show ws.length - (((i + 1 : Nat) : Int)).toNat < ws.length - ((i : Int)).toNat; omega
     refine dG (.bool false) rfl (ex_neq rfl rfl rfl (qF hb27)) (dE fun w29 hv => ?_)
     simp only [zP, po]
     refine tK k22 (cF rfl ?_)
     refine kS (bN ?_)
     refine tK k20 (rL ?_)
     refine xG (vI ((j + 1 : Nat) : Int)) rfl (ex_add rfl rfl rfl (by rw [i64_in (by omega)]; omega)) (xM (vI ((j + 1 : Nat) : Int)) rfl ?_)
     refine wL ?_
     simp only [zP, po]
     refine then_normal ?_
     go_roundw
     case rel => exact ⟨j + 1, rfl, by omega, fun k9 a9 b9 hk9 ha9 hb9 => (by
        rcases Nat.lt_or_ge k9 j with h | h
        ·exact heq k9 a9 b9 h ha9 hb9
        obtain rfl : k9 = j := by omega
        rw [ha] at ha9; cases ha9
        rw [hb] at hb9; cases hb9
        omega), hv⟩
     case measure => show x.length - (((j + 1 : Nat) : Int)).toNat < x.length - ((j : Int)).toNat; omega
    refine xG (.bool false) rfl (ex_lss rfl rfl rfl (qF hb18)) ?_
    simp only [zP, po]
    refine wK k17 (sK fun _ k30 => ?_)
    refine cF rfl (xE ?_)
    refine tX (tX ?_)
    refine bH (tK k14 ?_)
    refine sK fun _ k31 => rL (xM (vI i) rfl ?_)
    refine xA (vI i) rfl ?_
    simp only [zP, po]
    refine wK k31 (rR ?_)
    refine bZ (tR ?_)
    refine tR (bZ ?_)
    refine tR (scope_ret ?_)
    refine bR rfl rfl (⟨_, rfl, .inr ⟨i, x, rfl, hx, ⟨by omega, fun k9 a9 b9 ha9 hb9 => heq k9 a9 b9 (by have := (List.getElem?_eq_some_iff.1 ha9).1; omega) ha9 hb9⟩, hno⟩, hv⟩)
  refine xG (.bool false) rfl (ex_lss rfl rfl rfl (qF hb7)) ?_
  simp only [zP, po]
  refine wK k6 (sK fun _ k32 => ?_)
  refine cF rfl (xE ?_)
  refine tX (tX ?_)
  refine bH (tK k3 ?_)
  refine sK fun _ k33 => rL (xA (vI (-1)) rfl ?_)
  simp only [zP, po]
  refine wK k33 (rR ?_)
  refine scope_ret (bR rfl rfl ?_)
  obtain rfl : i = ws.length := by omega
  exact ⟨_, rfl, .inl ⟨rfl, fun y hy => (by obtain ⟨j9, hj9⟩ := List.mem_iff_getElem?.1 hy; exact hno j9 y (List.getElem?_eq_some_iff.1 hj9).1 hj9)⟩, hv⟩
end Go.Proofs.YtoljdfjnannakaaGreatDoor
/- cset: common. -/
namespace Go.Proofs.YtoljdfjnannakaaGreatDoor
open Go.RowKit Go.Pm
theorem numP_inj {s : List UInt8} {n m : Int} (h : NumP s n true) (h2 : NumP s m true) : n = m := by
 rcases h with ⟨-, h0, h1, h3⟩ | ⟨h, -⟩
 ·rcases h2 with ⟨-, h4, h5, h6⟩ | ⟨h, -⟩
  ·have e1 := parse_itoa n h0 h1
   have e2 := parse_itoa m h4 h5
   rw [← h3] at e1
   rw [← h6, e1] at e2
   cases e2; rfl
  cases h
 cases h
theorem numP_not {s : List UInt8} {n : Int} (h : NumP s n true) (h2 : NumP s 0 false) : False := by
 rcases h with ⟨-, h0, h1, h3⟩ | ⟨h, -⟩
 ·rcases h2 with ⟨h, -⟩ | ⟨-, -, h4⟩
  ·cases h
  exact h4 n h0 h1 h3
 cases h
theorem ints_one {s : List UInt8} {ns : List Int} {ec : Int} (h : IntsR [s] ns ec) : (ec = 0 ∧ ∃ n, ns = [n] ∧ NumP s n true) ∨ (ec = 41 ∧ ns = [] ∧ NumP s 0 false) := by
 rcases h with ⟨h1, h2, h3⟩ | ⟨h1, h2, t, ht, h3⟩
 ·match ns, h2 with
  | [n], _ => exact .inl ⟨h1, n, rfl, h3 0 s n rfl rfl⟩
 rw [List.mem_singleton.1 ht] at h3
 exact .inr ⟨h1, h2, h3⟩
def CommonR (M : List (List UInt8 × Ver)) (clk : Int) (s0 : List UInt8) (xs : List (List UInt8)) (r : Rp) : Prop :=
 ∀ n : Int, NumP s0 n true → n = (xs.length : Int) → 1 ≤ n → ∃ ss ec, SetsR M clk xs ss ec ∧ ((ec ≠ 0 ∧ IsF r) ∨ (ec = 0 ∧ ∃ q, ss[0]? = some q ∧ r = rInt ((interS q (ss.drop 1)).length : Int)))
theorem c4al28 (w : World) : (Instr.alloc 28 true (.tuple #[])).run Tryz.prog w = .ok (.pointer (some ⟨w.heap.size, 0, none⟩)) (w.alloc (.cells ([vI 0, vS [], vI 0, vN] : List Value).toArray 28)) := by kernel_rfl
theorem c4mk9 : (Tryz.prog.info? 9).map (fun i => (i.zero, i.size, i.bytes)) = some (some (vS []), 1, 16) := by kernel_rfl
theorem c4el22 : Elem Tryz.prog 22 9 (vS []) 1 16 := elem_of Tryz.underlying22 c4mk9 (by rfl) (by decide)
theorem c4callable74 : Callable Tryz.prog 74 := ⟨_, Tryz.func74, by kernel_rfl, by kernel_rfl⟩
theorem c4callable75 : Callable Tryz.prog 75 := ⟨_, Tryz.func75, by kernel_rfl, by kernel_rfl⟩
set_option maxHeartbeats 16000000 in
theorem csetCommon (B : Base) (H : List Res) (w : World) (v t m s p wb : Nat) (va : Option Addr) (vc : Nat) (sv : Value) (clk : Int) (es : List (List UInt8 × Value)) (M : List (List UInt8 × Ver)) (hM : VM B es M) (hO : OkM M) (aa : Option Addr) (ac : Nat) (args : List (List UInt8)) (hra : RdV B [] aa (textCells args)) (hoka : SliceOk aa args.length ac) (_ : args.length ≤ 10000) (key : List UInt8) (hkey : args[0]? = some key) (xa : Option Addr) (xc : Nat) (xs : List (List UInt8)) (hokx : SliceOk xa xs.length xc) (hrx : RdV B [] xa (textCells xs)) (hmx : xs.length ≤ 1000) (hxl : ∀ x ∈ xs, x.length ≤ 9223372036854775807) (hN : NumB B) (hv : Inv B (Res.cell v [.iface 62 (vP t)] 39 :: txR t m s p wb va vc sv clk es :: H) w) :
  Calls Tryz.prog 46 #[.agg #[vP v, .slice aa args.length ac], .slice xa xs.length xc] w fun e w' => ∃ C r cs, B.Le C ∧ e = .returned (.agg cs.toArray) ∧ RpAt C r cs ∧ CommonR M clk key xs r ∧ Inv C (Res.cell v [.iface 62 (vP t)] 39 :: txR t m s p wb va vc sv clk es :: H) w' := by
 refine cW Tryz.func46 rfl Tryz.ntmps46 ?_
 simp only [al]
 refine sK fun _ k1 => ?_
 have hal := (List.getElem?_eq_some_iff.1 hkey).1
 obtain ⟨ab, ao, had, hrdkey⟩ := text_reads hra hkey
 subst had
 refine rL (sl_box (L := [vP v, .slice (some ⟨ab, ao, none⟩) args.length ac]) tV (wn rfl) rfl rfl hv (fun w => by kernel_rfl) (fun b2 w3 hv => ?_))
 refine sl_alloc tV (wn rfl) rfl hv c4al28 (fun b4 w5 hv => ?_)
 simp only [zP, po]
 refine wK k1 (sK fun _ k6 => ?_)
 refine rL (xF (.pointer (some ⟨b2, 1, none⟩)) rfl (c1fa73_1 _ _ _) ?_)
 refine xL _ rfl (run_load1 s1na22 (hv.load 1 1 rfl rfl)) (xG (.pointer (some ⟨ab, ao + 0, none⟩)) rfl (ex_index rfl rfl rfl (run_idx1 (k := 0) Tryz.underlying22 s9es22 (by omega))) ?_)
 simp only [zP, po]
 refine xL _ rfl (run_load1 s9na9 (hrdkey _ _ _ (Base.Le.refl _) no_res hv 0 _ rfl)) (sl_rowOne (v := vS key) tV (wn rfl) rfl rfl hv c4el22 rfl (fun b7 w8 hv => ?_))
 obtain ⟨D1, hD1, hv, hrkD1, -, -⟩ := (hv.cellRow (n := 1) (c := 1) (size := 1) rfl (by decide) (by decide)).rowBy
 refine xC c4callable74 rfl ((viewInts D1 _ _ _ 1 [key] hrkD1 (by simp) (hN.more hD1) hv).mono ?_) rfl
 rintro e w9 ⟨E1, ia1, ic1, ns1, ei1, hE1, rfl, hri1, hir1, hv⟩
 refine ⟨_, rfl, ?_⟩
 rcases ints_one hir1 with ⟨rfl, n1, rfl, hn1⟩ | ⟨rfl, rfl, hn1⟩
 ·simp only [zP, po]
  refine xM (.tuple #[.slice ia1 1 ic1, vI 0]) rfl (xG (.slice ia1 1 ic1) rfl (ex_extract rfl rfl rfl) ?_)
  refine xG (vI 0) rfl (ex_extract rfl rfl rfl) ?_
  simp only [zP, po]
  refine xA (.slice ia1 1 ic1) rfl (xA (vI 0) rfl ?_)
  simp only [zP, po]
  refine wK k6 (sK fun _ k10 => ?_)
  refine sK fun _ k11 => rL (xM (vI 0) rfl ?_)
  refine xG (.bool false) rfl (ex_neq rfl rfl rfl (by decide)) ?_
  simp only [zP, po]
  refine wK k11 (cF rfl ?_)
  refine kS (tK k10 ?_)
  refine sK fun _ k12 => ?_
  obtain ⟨ib1, io1, had, hrdn1⟩ := int_reads hri1 (show [n1][0]? = some n1 from rfl)
  subst had
  have hnr : -9223372036854775808 ≤ n1 ∧ n1 ≤ 9223372036854775807 := hn1.elim (fun h => ⟨h.2.1, h.2.2.1⟩) (fun h => absurd h.1 (by decide))
  refine rL (xM (.slice (some ⟨ib1, io1, none⟩) 1 ic1) rfl ?_)
  refine xG (.pointer (some ⟨ib1, io1 + 0, none⟩)) rfl (ex_index rfl rfl rfl (run_idx1 (k := 0) Tryz.underlying149 s11es149 (by omega))) (xL _ rfl (run_load1 s2na3 (hrdn1 _ _ _ (Base.Le.refl _) no_res hv 0 _ rfl)) ?_)
  simp only [zP, po]
  refine xA (vI n1) rfl (xA (vI 0) rfl ?_)
  simp only [zP, po]
  refine wK k12 (sK fun _ k13 => ?_)
  refine rL (xM (vI n1) rfl ?_)
  by_cases hb14 : n1 ≥ 0
  ·refine xG (.bool true) rfl (ex_geq rfl rfl rfl (qT hb14)) (xM (.bool true) rfl ?_)
   simp only [zP, po]
   refine xM (.slice xa xs.length xc) rfl (xG (vI (xs.length : Int)) rfl (ex_len0 Tryz.underlying22 rfl rfl) ?_)
   by_cases hb15 : (xs.length : Int) ≥ 2
   ·refine xG (.bool true) rfl (ex_geq rfl rfl rfl (qT hb15)) ?_
    simp only [zP, po]
    refine xK true (.bool true) rfl (xM (.bool true) rfl ?_)
    refine xM (vI n1) rfl ?_
    simp only [zP, po]
    refine xM (.slice xa xs.length xc) rfl (xG (vI (xs.length : Int)) rfl (ex_len0 Tryz.underlying22 rfl rfl) ?_)
    refine xG (vI ((xs.length : Int) - 2)) rfl (ex_sub rfl rfl rfl (i64_in (by omega))) ?_
    simp only [zP, po]
    by_cases hb16 : n1 = ((xs.length : Int) - 2)
    ·refine xG (.bool true) rfl (ex_eql rfl rfl rfl (qT hb16)) ?_
     obtain rfl : n1 = ((xs.length - 2 : Nat) : Int) := by omega
     obtain ⟨x1, hx1⟩ : ∃ x, xs[(xs.length - 2 : Nat)]? = some x := ⟨_, List.getElem?_eq_getElem (show (xs.length - 2 : Nat) < xs.length by omega)⟩
     obtain ⟨xb, xo, had, hrdx1⟩ := text_reads hrx hx1
     subst had
     refine xK true (.bool true) rfl (xM (.bool true) rfl ?_)
     simp only [zP, po]
     refine xM (.slice (some ⟨xb, xo, none⟩) xs.length xc) rfl (xM (vI ((xs.length - 2 : Nat) : Int)) rfl ?_)
     refine xG (.pointer (some ⟨xb, xo + (xs.length - 2 : Nat), none⟩)) rfl (ex_index rfl rfl rfl (run_idx1 (k := (xs.length - 2 : Nat)) Tryz.underlying22 s9es22 (by omega))) ?_
     simp only [zP, po]
     refine xL _ rfl (run_load1 s9na9 (hrdx1 _ _ _ (hD1.trans hE1) no_res hv 0 _ rfl)) (sl_rowOne (v := vS [76, 73, 77, 73, 84]) tV (wanted_of (j := 14) (d := 42) (b := true) rfl rfl rfl) rfl rfl hv c4el22 rfl (fun b17 w18 hv => ?_))
     obtain ⟨D3, hD3, hv, hrkD3, -, -⟩ := (hv.cellRow (n := 1) (c := 1) (size := 1) rfl (by decide) (by decide)).rowBy
     refine xC c4callable75 rfl ((viewIs D3 _ _ x1 _ 1 [[76, 73, 77, 73, 84]] hrkD3 (by simp) (hxl x1 (List.mem_of_getElem? hx1)) hv).mono ?_) rfl
     rintro e w19 ⟨ri, rfl, -, hv⟩
     refine ⟨_, rfl, ?_⟩
     simp only [zP, po]
     by_cases hb20 : ri = 0
     ·refine xG (.bool true) rfl (ex_eql rfl rfl rfl (qT hb20)) (xK true (.bool true) rfl ?_)
      refine xA (.bool true) rfl ?_
      simp only [zP, po]
      refine wK k13 (sK fun _ k21 => ?_)
      refine sK fun _ k22 => rL (xM (.bool true) rfl ?_)
      simp only [zP, po]
      refine wK k22 (cT rfl ?_)
      refine sK fun _ k23 => sK fun _ k24 => ?_
      obtain ⟨x2, hx2⟩ : ∃ x, xs[(xs.length - 1 : Nat)]? = some x := ⟨_, List.getElem?_eq_getElem (show (xs.length - 1 : Nat) < xs.length by omega)⟩
      obtain ⟨b9, o9, had9, hrdx2⟩ := text_reads hrx hx2
      cases had9
      refine rL (xM (.slice (some ⟨xb, xo, none⟩) xs.length xc) rfl ?_)
      refine xM (vI ((xs.length - 2 : Nat) : Int)) rfl (xG (vI ((xs.length - 1 : Nat) : Int)) rfl (ex_add rfl rfl rfl (by rw [i64_in (by omega)]; omega)) ?_)
      simp only [zP, po]
      refine xG (.pointer (some ⟨xb, xo + (xs.length - 1 : Nat), none⟩)) rfl (ex_index rfl rfl rfl (run_idx1 (k := (xs.length - 1 : Nat)) Tryz.underlying22 s9es22 (by omega))) (xL _ rfl (run_load1 s9na9 (hrdx2 _ _ _ ((hD1.trans hE1).trans hD3) no_res hv 0 _ rfl)) ?_)
      refine sl_rowOne (v := vS x2) tV (wn rfl) rfl rfl hv c4el22 rfl (fun b25 w26 hv => ?_)
      simp only [zP, po]
      obtain ⟨D2, hD2, hv, hrkD2, -, -⟩ := (hv.cellRow (n := 1) (c := 1) (size := 1) rfl (by decide) (by decide)).rowBy
      refine xC c4callable74 rfl ((viewInts D2 _ _ _ 1 [x2] hrkD2 (by simp) (hN.more (((hD1.trans hE1).trans hD3).trans hD2)) hv).mono ?_) rfl
      rintro e w27 ⟨E2, ia2, ic2, ns2, ei2, hE2, rfl, hri2, hir2, hv⟩
      refine ⟨_, rfl, ?_⟩
      rcases ints_one hir2 with ⟨rfl, n2, rfl, hn2⟩ | ⟨rfl, rfl, hn2⟩
      ·refine xM (.tuple #[.slice ia2 1 ic2, vI 0]) rfl (xG (.slice ia2 1 ic2) rfl (ex_extract rfl rfl rfl) ?_)
       simp only [zP, po]
       refine xG (vI 0) rfl (ex_extract rfl rfl rfl) (xA (.slice ia2 1 ic2) rfl ?_)
       refine xA (vI 0) rfl ?_
       simp only [zP, po]
       refine wK k24 (sK fun _ k28 => ?_)
       refine rL (xM (vI 0) rfl ?_)
       refine xG (.bool false) rfl (ex_neq rfl rfl rfl (by decide)) ?_
       simp only [zP, po]
       refine wK k28 (cF rfl ?_)
       refine kS (tK k23 ?_)
       obtain ⟨ib2, io2, had, hrdn2⟩ := int_reads hri2 (show [n2][0]? = some n2 from rfl)
       subst had
       refine rL (xM (.slice (some ⟨ib2, io2, none⟩) 1 ic2) rfl ?_)
       refine xG (.pointer (some ⟨ib2, io2 + 0, none⟩)) rfl (ex_index rfl rfl rfl (run_idx1 (k := 0) Tryz.underlying149 s11es149 (by omega))) (xL _ rfl (run_load1 s2na3 (hrdn2 _ _ _ (Base.Le.refl _) no_res hv 0 _ rfl)) ?_)
       simp only [zP, po]
       refine xA (vI n2) rfl ?_
       simp only [zP, po]
       refine wK k21 (sK fun _ k29 => ?_)
       refine sK fun _ k30 => rL (xM (vI ((xs.length - 2 : Nat) : Int)) rfl ?_)
       by_cases hb31 : ((xs.length - 2 : Nat) : Int) < 1
       ·refine xG (.bool true) rfl (ex_lss rfl rfl rfl (qT hb31)) (xM (.bool true) rfl ?_)
        simp only [zP, po]
        iterate 2 refine yN rfl ?_
        refine xK true (.bool true) rfl ?_
        simp only [zP, po]
        refine wK k30 (cT rfl ?_)
        refine sK fun _ k32 => rL (xC rscallable24 rfl ((viewWrong E2 _ _ 44 hv).mono ?_) rfl)
        rintro e w34 ⟨s33, rfl, hv⟩
        refine ⟨_, rfl, ?_⟩
        refine xS 0 rfl hv rssz28 rfl (by exact ⟨rfl, rfl, rfl, rfl, trivial⟩) (fun w35 hv => ?_)
        simp only [zO, sp] at hv
        simp only [zP, po]
        refine wK k32 (rR ?_)
        refine tR (bC 0 rswd28 hv rfl rfl rfl rfl ?_)
        have hrel : CommonR M clk key xs (rFault s33) := fun n9 h9 h10 h11 => by have := numP_inj h9 hn1; omega
        exact ⟨E2, rFault s33, rpCells 1 s33 0 (vN), ((((hD1.trans hE1).trans hD3).trans hD2).trans hE2), rfl, rpAt_leaf, hrel, (hv.kp [3, 3] 2 2)⟩
       refine xG (.bool false) rfl (ex_lss rfl rfl rfl (qF hb31)) (xM (.bool false) rfl ?_)
       simp only [zP, po]
       refine xM (vI n2) rfl ?_
       by_cases hb36 : n2 < 0
       ·refine xG (.bool true) rfl (ex_lss rfl rfl rfl (qT hb36)) (xK false (.bool true) rfl ?_)
        simp only [zP, po]
        refine wK k30 (cT rfl ?_)
        refine sK fun _ k37 => rL (xC rscallable24 rfl ((viewWrong E2 _ _ 44 hv).mono ?_) rfl)
        rintro e w39 ⟨s38, rfl, hv⟩
        refine ⟨_, rfl, ?_⟩
        refine xS 0 rfl hv rssz28 rfl (by exact ⟨rfl, rfl, rfl, rfl, trivial⟩) (fun w40 hv => ?_)
        simp only [zO, sp] at hv
        simp only [zP, po]
        refine wK k37 (rR ?_)
        refine tR (bC 0 rswd28 hv rfl rfl rfl rfl ?_)
        have hrel : CommonR M clk key xs (rFault s38) := fun n9 h9 h10 h11 => by have := numP_inj h9 hn1; omega
        exact ⟨E2, rFault s38, rpCells 1 s38 0 (vN), ((((hD1.trans hE1).trans hD3).trans hD2).trans hE2), rfl, rpAt_leaf, hrel, (hv.kp [3, 3] 2 2)⟩
       refine xG (.bool false) rfl (ex_lss rfl rfl rfl (qF hb36)) (xK false (.bool false) rfl ?_)
       simp only [zP, po]
       refine wK k30 (cF rfl ?_)
       refine kS (tK k29 ?_)
       refine sK fun _ k41 => sK fun _ k42 => rL (xM (.bool true) rfl ?_)
       refine xG (.bool false) rfl (ex_not rfl rfl rfl) (xM (.bool false) rfl ?_)
       simp only [zP, po]
       iterate 4 refine yN rfl ?_
       refine xK false (.bool false) rfl ?_
       simp only [zP, po]
       refine wK k42 (cF rfl ?_)
       refine kS (tK k41 ?_)
       refine sK fun _ k43 => ?_
       have hml : (xs.take (xs.length - 2 : Nat)).length = (xs.length - 2 : Nat) := by rw [List.length_take]; omega
       obtain ⟨a3, ha3, ok3, hr3⟩ := sliced_hiV 1 hokx hrx (textCells_len xs) (show (xs.length - 2 : Nat) ≤ xs.length by omega)
       rw [Nat.mul_one] at hr3
       have hr4 : RdV B [] a3 (textCells (xs.take (xs.length - 2 : Nat))) := by have h9 := hr3; rw [show (textCells xs).take (xs.length - 2 : Nat) = textCells (xs.take (xs.length - 2 : Nat)) by simp [textCells]] at h9; exact h9
       refine rW mixed [4] [0,1,2,3,4,5,6,7,8,9] 107 rfl (by kernel_rfl) hv ?_
       simp only [qm, opAt]
       refine dL (.agg #[vP v, .slice (some ⟨ab, ao, none⟩) args.length ac]) rfl (fun hv => ex_load rfl rfl (lM 1 c1wd73 hv rfl rfl rfl rfl)) (dM (.slice (some ⟨xb, xo, none⟩) xs.length xc) rfl ?_)
       refine dM (vI ((xs.length - 2 : Nat) : Int)) rfl ?_
       simp only [zP, po]
       refine dG (.slice a3 ((xs.take (xs.length - 2 : Nat)).length) xc) rfl (ex_slice (hi' := some (vI ((xs.length - 2 : Nat) : Int))) rfl rfl rfl (congrArg some rfl) rfl ((run_hiAny (h := (xs.length - 2 : Nat)) Tryz.underlying22 s9es22 (by have := hokx.le; omega)).trans (by rw [ha3, hml]))) (dS rfl fun w44 hv => ?_)
       replace hv := hv.front 3 rfl
       simp only [eS, eZ] at hv
       replace hv := hv.front 3 rfl
       simp only [eS, eZ] at hv
       refine mC c3callable69 rfl ((csetSets E2 _ _ v t m s p wb va vc sv clk es M (hM.more ((((hD1.trans hE1).trans hD3).trans hD2).trans hE2)) hO (some ⟨ab, ao, none⟩) ac args a3 xc (xs.take (xs.length - 2 : Nat)) (hr4.more ((((hD1.trans hE1).trans hD3).trans hD2).trans hE2) (fun _ h => h)) (by omega) hv).mono ?_) rfl
       rintro e w45 ⟨F, oa, oc, ss, txs, e1, hF, rfl, htx, hrs, hoks, hss, hv⟩
       have hrt := hss.right hO
       have hssl : ss.length ≤ 1000 := by
        rcases hss with ⟨-, h9, -⟩ | ⟨-, h9, -⟩
        ·omega
        rw [h9]; exact Nat.zero_le _
       refine ⟨_, rfl, dW hv ?_⟩
       refine dM (.tuple #[.slice oa ss.length oc, vI e1]) rfl ?_
       simp only [zP, po]
       refine dG (.slice oa ss.length oc) rfl (ex_extract rfl rfl rfl) (dG (vI e1) rfl (ex_extract rfl rfl rfl) ?_)
       refine dA (.slice oa ss.length oc) rfl ?_
       simp only [zP, po]
       refine dA (vI e1) rfl (dE fun w46 hv => ?_)
       simp only [zP, po]
       refine tK k43 (sK fun _ k47 => ?_)
       refine sK fun _ k48 => rL (xM (vI e1) rfl ?_)
       by_cases hb49 : e1 ≠ 0
       ·refine xG (.bool true) rfl (ex_neq rfl rfl rfl (qT hb49)) ?_
        simp only [zP, po]
        refine wK k48 (cT rfl ?_)
        refine sK fun _ k50 => rL (xM (vI e1) rfl ?_)
        refine xC rscallable24 rfl ((viewWrong F _ _ e1 hv).mono ?_) rfl
        rintro e w52 ⟨s51, rfl, hv⟩
        refine ⟨_, rfl, ?_⟩
        refine xS 2 rfl hv rssz28 rfl (by exact ⟨rfl, rfl, rfl, rfl, trivial⟩) (fun w53 hv => ?_)
        simp only [zS, zO, sp] at hv
        simp only [zP, po]
        refine wK k50 (rR ?_)
        refine tR (bC 2 rswd28 hv rfl rfl rfl rfl ?_)
        have hrel : CommonR M clk key xs (rFault s51) := fun n9 h9 h10 h11 => by have := numP_inj h9 hn1; omega
        exact ⟨F, rFault s51, rpCells 1 s51 0 (vN), (((((hD1.trans hE1).trans hD3).trans hD2).trans hE2).trans hF), rfl, rpAt_leaf, hrel, (hv.kp [1, 1] 2 2)⟩
       refine xG (.bool false) rfl (ex_neq rfl rfl rfl (qF hb49)) ?_
       simp only [zP, po]
       refine wK k48 (cF rfl ?_)
       refine kS (tK k47 ?_)
       refine sK fun _ k54 => rL (xM (.slice oa ss.length oc) rfl ?_)
       refine xC c3callable71 rfl ((setInter F _ _ oa oc ss txs htx hrs (by omega) (fun s hs => ⟨(setOk_iff.1 (hrt s hs)).2.2, by have := (hrt s hs).1; omega⟩) hoks hv).mono ?_) rfl
       rintro e w55 ⟨G, ra, rc, out, hG, rfl, hoko, hro, hout, hv⟩
       refine ⟨_, rfl, ?_⟩
       have hol : out.length ≤ 512 := by
        rcases hout with ⟨-, rfl⟩ | ⟨q, hq, rfl⟩
        ·simp
        exact Nat.le_trans (List.length_filter_le _ _) (hrt q (List.mem_of_getElem? hq)).1
       refine xG (vI (out.length : Int)) rfl (ex_len0 Tryz.underlying22 rfl rfl) ?_
       simp only [zP, po]
       refine xA (vI (out.length : Int)) rfl ?_
       simp only [zP, po]
       refine wK k54 (sK fun _ k56 => ?_)
       refine sK fun _ k57 => rL (xM (vI n2) rfl ?_)
       by_cases hb58 : n2 > 0
       ·refine xG (.bool true) rfl (ex_gtr rfl rfl rfl (qT hb58)) ?_
        simp only [zP, po]
        refine wK k57 (cT rfl ?_)
        refine rL (xM (vI (out.length : Int)) rfl ?_)
        refine xM (vI n2) rfl (xG (vI (if n2 < (out.length : Int) then n2 else (out.length : Int))) rfl (ex_min2 (m := (out.length : Int)) (n := n2) rfl rfl rfl rfl) ?_)
        simp only [zP, po]
        refine xA (vI (if n2 < (out.length : Int) then n2 else (out.length : Int))) rfl ?_
        simp only [zP, po]
        refine wK k56 (sK fun _ k59 => ?_)
        refine rL (xM (vI (if n2 < (out.length : Int) then n2 else (out.length : Int))) rfl ?_)
        refine xC c1callable45 rfl ((respInt G _ _ (if n2 < (out.length : Int) then n2 else (out.length : Int)) hv).mono ?_) rfl
        rintro e w60 ⟨rfl, hv⟩
        refine ⟨_, rfl, ?_⟩
        refine xS 2 rfl hv rssz28 rfl (by exact ⟨rfl, rfl, rfl, rfl, trivial⟩) (fun w61 hv => ?_)
        simp only [zS, zO, sp] at hv
        simp only [zP, po]
        refine wK k59 (rR ?_)
        refine bC 2 rswd28 hv rfl rfl rfl rfl ?_
        have hrel : CommonR M clk key xs (rInt (if n2 < (out.length : Int) then n2 else (out.length : Int))) := fun n9 h9 h10 h11 => by have := numP_inj h9 hn1; omega
        exact ⟨G, rInt (if n2 < (out.length : Int) then n2 else (out.length : Int)), rpCells 2 [] (if n2 < (out.length : Int) then n2 else (out.length : Int)) (vN), ((((((hD1.trans hE1).trans hD3).trans hD2).trans hE2).trans hF).trans hG), rfl, rpAt_leaf, hrel, (hv.kp [1, 1] 2 2)⟩
       refine xG (.bool false) rfl (ex_gtr rfl rfl rfl (qF hb58)) ?_
       simp only [zP, po]
       refine wK k57 (cF rfl ?_)
       refine kS (tK k56 ?_)
       refine sK fun _ k62 => rL (xM (vI (out.length : Int)) rfl ?_)
       refine xC c1callable45 rfl ((respInt G _ _ (out.length : Int) hv).mono ?_) rfl
       rintro e w63 ⟨rfl, hv⟩
       refine ⟨_, rfl, ?_⟩
       refine xS 2 rfl hv rssz28 rfl (by exact ⟨rfl, rfl, rfl, rfl, trivial⟩) (fun w64 hv => ?_)
       simp only [zS, zO, sp] at hv
       simp only [zP, po]
       refine wK k62 (rR ?_)
       refine bC 2 rswd28 hv rfl rfl rfl rfl ?_
       have hrel : CommonR M clk key xs (rInt (out.length : Int)) := fun n9 h9 h10 h11 => by have := numP_inj h9 hn1; omega
       exact ⟨G, rInt (out.length : Int), rpCells 2 [] (out.length : Int) (vN), ((((((hD1.trans hE1).trans hD3).trans hD2).trans hE2).trans hF).trans hG), rfl, rpAt_leaf, hrel, (hv.kp [1, 1] 2 2)⟩
      refine xM (.tuple #[.slice ia2 0 ic2, vI 41]) rfl (xG (.slice ia2 0 ic2) rfl (ex_extract rfl rfl rfl) ?_)
      simp only [zP, po]
      refine xG (vI 41) rfl (ex_extract rfl rfl rfl) (xA (.slice ia2 0 ic2) rfl ?_)
      refine xA (vI 41) rfl ?_
      simp only [zP, po]
      refine wK k24 (sK fun _ k65 => ?_)
      refine rL (xM (vI 41) rfl ?_)
      refine xG (.bool true) rfl (ex_neq rfl rfl rfl (by decide)) ?_
      simp only [zP, po]
      refine wK k65 (cT rfl ?_)
      refine sK fun _ k66 => rL (xM (vI 41) rfl ?_)
      refine xC rscallable24 rfl ((viewWrong E2 _ _ 41 hv).mono ?_) rfl
      rintro e w68 ⟨s67, rfl, hv⟩
      refine ⟨_, rfl, ?_⟩
      refine xS 0 rfl hv rssz28 rfl (by exact ⟨rfl, rfl, rfl, rfl, trivial⟩) (fun w69 hv => ?_)
      simp only [zO, sp] at hv
      simp only [zP, po]
      refine wK k66 (rR ?_)
      refine tR (tR ?_)
      refine bC 0 rswd28 hv rfl rfl rfl rfl ?_
      have hrel : CommonR M clk key xs (rFault s67) := fun n9 h9 h10 h11 => by have := numP_inj h9 hn1; omega
      exact ⟨E2, rFault s67, rpCells 1 s67 0 (vN), ((((hD1.trans hE1).trans hD3).trans hD2).trans hE2), rfl, rpAt_leaf, hrel, (hv.kp [3, 3] 2 2)⟩
     refine xG (.bool false) rfl (ex_eql rfl rfl rfl (qF hb20)) (xK true (.bool false) rfl ?_)
     refine xA (.bool false) rfl ?_
     simp only [zP, po]
     refine wK k13 (sK fun _ k70 => ?_)
     refine sK fun _ k71 => rL (xM (.bool false) rfl ?_)
     simp only [zP, po]
     refine wK k71 (cF rfl ?_)
     refine kS (tK k70 ?_)
     refine sK fun _ k72 => sK fun _ k73 => rL (xM (vI ((xs.length - 2 : Nat) : Int)) rfl ?_)
     by_cases hb74 : ((xs.length - 2 : Nat) : Int) < 1
     ·refine xG (.bool true) rfl (ex_lss rfl rfl rfl (qT hb74)) (xM (.bool true) rfl ?_)
      simp only [zP, po]
      iterate 2 refine yN rfl ?_
      refine xK true (.bool true) rfl ?_
      simp only [zP, po]
      refine wK k73 (cT rfl ?_)
      refine sK fun _ k75 => rL (xC rscallable24 rfl ((viewWrong D3 _ _ 44 hv).mono ?_) rfl)
      rintro e w77 ⟨s76, rfl, hv⟩
      refine ⟨_, rfl, ?_⟩
      refine xS 0 rfl hv rssz28 rfl (by exact ⟨rfl, rfl, rfl, rfl, trivial⟩) (fun w78 hv => ?_)
      simp only [zO, sp] at hv
      simp only [zP, po]
      refine wK k75 (rR ?_)
      refine tR (bC 0 rswd28 hv rfl rfl rfl rfl ?_)
      have hrel : CommonR M clk key xs (rFault s76) := fun n9 h9 h10 h11 => by have := numP_inj h9 hn1; omega
      exact ⟨D3, rFault s76, rpCells 1 s76 0 (vN), ((hD1.trans hE1).trans hD3), rfl, rpAt_leaf, hrel, (hv.kp [3, 3] 2 2)⟩
     refine xG (.bool false) rfl (ex_lss rfl rfl rfl (qF hb74)) (xM (.bool false) rfl ?_)
     simp only [zP, po]
     refine xM (vI 0) rfl (xG (.bool false) rfl (ex_lss rfl rfl rfl (by decide)) ?_)
     refine xK false (.bool false) rfl ?_
     simp only [zP, po]
     refine wK k73 (cF rfl ?_)
     refine kS (tK k72 ?_)
     refine sK fun _ k79 => sK fun _ k80 => rL (xM (.bool false) rfl ?_)
     refine xG (.bool true) rfl (ex_not rfl rfl rfl) (xM (.bool true) rfl ?_)
     simp only [zP, po]
     refine xM (vI ((xs.length - 2 : Nat) : Int)) rfl (xM (.slice (some ⟨xb, xo, none⟩) xs.length xc) rfl ?_)
     refine xG (vI (xs.length : Int)) rfl (ex_len0 Tryz.underlying22 rfl rfl) ?_
     simp only [zP, po]
     by_cases hb81 : ((xs.length - 2 : Nat) : Int) ≠ (xs.length : Int)
     ·refine xG (.bool true) rfl (ex_neq rfl rfl rfl (qT hb81)) (xK true (.bool true) rfl ?_)
      simp only [zP, po]
      refine wK k80 (cT rfl ?_)
      refine sK fun _ k82 => rL (xC rscallable24 rfl ((viewWrong D3 _ _ 42 hv).mono ?_) rfl)
      rintro e w84 ⟨s83, rfl, hv⟩
      refine ⟨_, rfl, ?_⟩
      refine xS 0 rfl hv rssz28 rfl (by exact ⟨rfl, rfl, rfl, rfl, trivial⟩) (fun w85 hv => ?_)
      simp only [zO, sp] at hv
      simp only [zP, po]
      refine wK k82 (rR ?_)
      refine tR (bC 0 rswd28 hv rfl rfl rfl rfl ?_)
      have hrel : CommonR M clk key xs (rFault s83) := fun n9 h9 h10 h11 => by have := numP_inj h9 hn1; omega
      exact ⟨D3, rFault s83, rpCells 1 s83 0 (vN), ((hD1.trans hE1).trans hD3), rfl, rpAt_leaf, hrel, (hv.kp [3, 3] 2 2)⟩
     refine xG (.bool false) rfl (ex_neq rfl rfl rfl (qF hb81)) (xK true (.bool false) rfl ?_)
     simp only [zP, po]
     refine wK k80 (cF rfl ?_)
     refine kS (tK k79 ?_)
     refine sK fun _ k86 => ?_
     have hml : (xs.take (xs.length - 2 : Nat)).length = (xs.length - 2 : Nat) := by rw [List.length_take]; omega
     obtain ⟨a3, ha3, ok3, hr3⟩ := sliced_hiV 1 hokx hrx (textCells_len xs) (show (xs.length - 2 : Nat) ≤ xs.length by omega)
     rw [Nat.mul_one] at hr3
     have hr4 : RdV B [] a3 (textCells (xs.take (xs.length - 2 : Nat))) := by have h9 := hr3; rw [show (textCells xs).take (xs.length - 2 : Nat) = textCells (xs.take (xs.length - 2 : Nat)) by simp [textCells]] at h9; exact h9
     refine rW mixed [4] [0,1,2,3,4,5,6,7,8,9] 107 rfl (by kernel_rfl) hv ?_
     simp only [qm, opAt]
     refine dL (.agg #[vP v, .slice (some ⟨ab, ao, none⟩) args.length ac]) rfl (fun hv => ex_load rfl rfl (lM 1 c1wd73 hv rfl rfl rfl rfl)) (dM (.slice (some ⟨xb, xo, none⟩) xs.length xc) rfl ?_)
     refine dM (vI ((xs.length - 2 : Nat) : Int)) rfl ?_
     simp only [zP, po]
     refine dG (.slice a3 ((xs.take (xs.length - 2 : Nat)).length) xc) rfl (ex_slice (hi' := some (vI ((xs.length - 2 : Nat) : Int))) rfl rfl rfl (congrArg some rfl) rfl ((run_hiAny (h := (xs.length - 2 : Nat)) Tryz.underlying22 s9es22 (by have := hokx.le; omega)).trans (by rw [ha3, hml]))) (dS rfl fun w87 hv => ?_)
     replace hv := hv.front 3 rfl
     simp only [eS, eZ] at hv
     replace hv := hv.front 3 rfl
     simp only [eS, eZ] at hv
     refine mC c3callable69 rfl ((csetSets D3 _ _ v t m s p wb va vc sv clk es M (hM.more ((hD1.trans hE1).trans hD3)) hO (some ⟨ab, ao, none⟩) ac args a3 xc (xs.take (xs.length - 2 : Nat)) (hr4.more ((hD1.trans hE1).trans hD3) (fun _ h => h)) (by omega) hv).mono ?_) rfl
     rintro e w88 ⟨F, oa, oc, ss, txs, e1, hF, rfl, htx, hrs, hoks, hss, hv⟩
     have hrt := hss.right hO
     have hssl : ss.length ≤ 1000 := by
      rcases hss with ⟨-, h9, -⟩ | ⟨-, h9, -⟩
      ·omega
      rw [h9]; exact Nat.zero_le _
     refine ⟨_, rfl, dW hv ?_⟩
     refine dM (.tuple #[.slice oa ss.length oc, vI e1]) rfl ?_
     simp only [zP, po]
     refine dG (.slice oa ss.length oc) rfl (ex_extract rfl rfl rfl) (dG (vI e1) rfl (ex_extract rfl rfl rfl) ?_)
     refine dA (.slice oa ss.length oc) rfl ?_
     simp only [zP, po]
     refine dA (vI e1) rfl (dE fun w89 hv => ?_)
     simp only [zP, po]
     refine tK k86 (sK fun _ k90 => ?_)
     refine sK fun _ k91 => rL (xM (vI e1) rfl ?_)
     by_cases hb92 : e1 ≠ 0
     ·refine xG (.bool true) rfl (ex_neq rfl rfl rfl (qT hb92)) ?_
      simp only [zP, po]
      refine wK k91 (cT rfl ?_)
      refine sK fun _ k93 => rL (xM (vI e1) rfl ?_)
      refine xC rscallable24 rfl ((viewWrong F _ _ e1 hv).mono ?_) rfl
      rintro e w95 ⟨s94, rfl, hv⟩
      refine ⟨_, rfl, ?_⟩
      refine xS 2 rfl hv rssz28 rfl (by exact ⟨rfl, rfl, rfl, rfl, trivial⟩) (fun w96 hv => ?_)
      simp only [zS, zO, sp] at hv
      simp only [zP, po]
      refine wK k93 (rR ?_)
      refine tR (bC 2 rswd28 hv rfl rfl rfl rfl ?_)
      have hrel : CommonR M clk key xs (rFault s94) := fun n9 h9 h10 h11 => by have := numP_inj h9 hn1; omega
      exact ⟨F, rFault s94, rpCells 1 s94 0 (vN), (((hD1.trans hE1).trans hD3).trans hF), rfl, rpAt_leaf, hrel, (hv.kp [1, 1] 2 2)⟩
     refine xG (.bool false) rfl (ex_neq rfl rfl rfl (qF hb92)) ?_
     simp only [zP, po]
     refine wK k91 (cF rfl ?_)
     refine kS (tK k90 ?_)
     refine sK fun _ k97 => rL (xM (.slice oa ss.length oc) rfl ?_)
     refine xC c3callable71 rfl ((setInter F _ _ oa oc ss txs htx hrs (by omega) (fun s hs => ⟨(setOk_iff.1 (hrt s hs)).2.2, by have := (hrt s hs).1; omega⟩) hoks hv).mono ?_) rfl
     rintro e w98 ⟨G, ra, rc, out, hG, rfl, hoko, hro, hout, hv⟩
     refine ⟨_, rfl, ?_⟩
     have hol : out.length ≤ 512 := by
      rcases hout with ⟨-, rfl⟩ | ⟨q, hq, rfl⟩
      ·simp
      exact Nat.le_trans (List.length_filter_le _ _) (hrt q (List.mem_of_getElem? hq)).1
     refine xG (vI (out.length : Int)) rfl (ex_len0 Tryz.underlying22 rfl rfl) ?_
     simp only [zP, po]
     refine xA (vI (out.length : Int)) rfl ?_
     simp only [zP, po]
     refine wK k97 (sK fun _ k99 => ?_)
     refine sK fun _ k100 => rL (xM (vI 0) rfl ?_)
     refine xG (.bool false) rfl (ex_gtr rfl rfl rfl (by decide)) ?_
     simp only [zP, po]
     refine wK k100 (cF rfl ?_)
     refine kS (tK k99 ?_)
     refine sK fun _ k101 => rL (xM (vI (out.length : Int)) rfl ?_)
     refine xC c1callable45 rfl ((respInt G _ _ (out.length : Int) hv).mono ?_) rfl
     rintro e w102 ⟨rfl, hv⟩
     refine ⟨_, rfl, ?_⟩
     refine xS 2 rfl hv rssz28 rfl (by exact ⟨rfl, rfl, rfl, rfl, trivial⟩) (fun w103 hv => ?_)
     simp only [zS, zO, sp] at hv
     simp only [zP, po]
     refine wK k101 (rR ?_)
     refine bC 2 rswd28 hv rfl rfl rfl rfl ?_
     have hrel : CommonR M clk key xs (rInt (out.length : Int)) := fun n9 h9 h10 h11 => by have := numP_inj h9 hn1; omega
     exact ⟨G, rInt (out.length : Int), rpCells 2 [] (out.length : Int) (vN), ((((hD1.trans hE1).trans hD3).trans hF).trans hG), rfl, rpAt_leaf, hrel, (hv.kp [1, 1] 2 2)⟩
    refine xG (.bool false) rfl (ex_eql rfl rfl rfl (qF hb16)) (xK true (.bool false) rfl ?_)
    refine xM (.bool false) rfl ?_
    simp only [zP, po]
    iterate 7 refine yN rfl ?_
    refine xK false (.bool false) rfl (xA (.bool false) rfl ?_)
    simp only [zP, po]
    refine wK k13 (sK fun _ k104 => ?_)
    refine sK fun _ k105 => rL (xM (.bool false) rfl ?_)
    simp only [zP, po]
    refine wK k105 (cF rfl ?_)
    refine kS (tK k104 ?_)
    refine sK fun _ k106 => sK fun _ k107 => rL (xM (vI n1) rfl ?_)
    by_cases hb108 : n1 < 1
    ·refine xG (.bool true) rfl (ex_lss rfl rfl rfl (qT hb108)) (xM (.bool true) rfl ?_)
     simp only [zP, po]
     iterate 2 refine yN rfl ?_
     refine xK true (.bool true) rfl ?_
     simp only [zP, po]
     refine wK k107 (cT rfl ?_)
     refine sK fun _ k109 => rL (xC rscallable24 rfl ((viewWrong E1 _ _ 44 hv).mono ?_) rfl)
     rintro e w111 ⟨s110, rfl, hv⟩
     refine ⟨_, rfl, ?_⟩
     refine xS 0 rfl hv rssz28 rfl (by exact ⟨rfl, rfl, rfl, rfl, trivial⟩) (fun w112 hv => ?_)
     simp only [zO, sp] at hv
     simp only [zP, po]
     refine wK k109 (rR ?_)
     refine tR (bC 0 rswd28 hv rfl rfl rfl rfl ?_)
     have hrel : CommonR M clk key xs (rFault s110) := fun n9 h9 h10 h11 => by have := numP_inj h9 hn1; omega
     exact ⟨E1, rFault s110, rpCells 1 s110 0 (vN), (hD1.trans hE1), rfl, rpAt_leaf, hrel, (hv.kp [3, 3] 2 2)⟩
    refine xG (.bool false) rfl (ex_lss rfl rfl rfl (qF hb108)) (xM (.bool false) rfl ?_)
    simp only [zP, po]
    refine xM (vI 0) rfl (xG (.bool false) rfl (ex_lss rfl rfl rfl (by decide)) ?_)
    refine xK false (.bool false) rfl ?_
    simp only [zP, po]
    refine wK k107 (cF rfl ?_)
    refine kS (tK k106 ?_)
    refine sK fun _ k113 => sK fun _ k114 => rL (xM (.bool false) rfl ?_)
    refine xG (.bool true) rfl (ex_not rfl rfl rfl) (xM (.bool true) rfl ?_)
    simp only [zP, po]
    refine xM (vI n1) rfl (xM (.slice xa xs.length xc) rfl ?_)
    refine xG (vI (xs.length : Int)) rfl (ex_len0 Tryz.underlying22 rfl rfl) ?_
    simp only [zP, po]
    by_cases hb115 : n1 ≠ (xs.length : Int)
    ·refine xG (.bool true) rfl (ex_neq rfl rfl rfl (qT hb115)) (xK true (.bool true) rfl ?_)
     simp only [zP, po]
     refine wK k114 (cT rfl ?_)
     refine sK fun _ k116 => rL (xC rscallable24 rfl ((viewWrong E1 _ _ 42 hv).mono ?_) rfl)
     rintro e w118 ⟨s117, rfl, hv⟩
     refine ⟨_, rfl, ?_⟩
     refine xS 0 rfl hv rssz28 rfl (by exact ⟨rfl, rfl, rfl, rfl, trivial⟩) (fun w119 hv => ?_)
     simp only [zO, sp] at hv
     simp only [zP, po]
     refine wK k116 (rR ?_)
     refine tR (bC 0 rswd28 hv rfl rfl rfl rfl ?_)
     have hrel : CommonR M clk key xs (rFault s117) := fun n9 h9 h10 h11 => by have := numP_inj h9 hn1; omega
     exact ⟨E1, rFault s117, rpCells 1 s117 0 (vN), (hD1.trans hE1), rfl, rpAt_leaf, hrel, (hv.kp [3, 3] 2 2)⟩
    refine xG (.bool false) rfl (ex_neq rfl rfl rfl (qF hb115)) (xK true (.bool false) rfl ?_)
    simp only [zP, po]
    refine wK k114 (cF rfl ?_)
    refine kS (tK k113 ?_)
    refine sK fun _ k120 => ?_
    obtain ⟨mm, hmm⟩ : ∃ m : Nat, n1 = (m : Int) := ⟨n1.toNat, by omega⟩
    subst hmm
    have hml : (xs.take mm).length = mm := by rw [List.length_take]; omega
    obtain ⟨a3, ha3, ok3, hr3⟩ := sliced_hiV 1 hokx hrx (textCells_len xs) (show mm ≤ xs.length by omega)
    rw [Nat.mul_one] at hr3
    have hr4 : RdV B [] a3 (textCells (xs.take mm)) := by have h9 := hr3; rw [show (textCells xs).take mm = textCells (xs.take mm) by simp [textCells]] at h9; exact h9
    refine rW mixed [4] [0,1,2,3,4,5,6,7,8,9] 107 rfl (by kernel_rfl) hv ?_
    simp only [qm, opAt]
    refine dL (.agg #[vP v, .slice (some ⟨ab, ao, none⟩) args.length ac]) rfl (fun hv => ex_load rfl rfl (lM 1 c1wd73 hv rfl rfl rfl rfl)) (dM (.slice xa xs.length xc) rfl ?_)
    refine dM (vI mm) rfl ?_
    simp only [zP, po]
    refine dG (.slice a3 ((xs.take mm).length) xc) rfl (ex_slice (hi' := some (vI mm)) rfl rfl rfl (congrArg some rfl) rfl ((run_hiAny (h := mm) Tryz.underlying22 s9es22 (by have := hokx.le; omega)).trans (by rw [ha3, hml]))) (dS rfl fun w121 hv => ?_)
    replace hv := hv.front 3 rfl
    simp only [eS, eZ] at hv
    replace hv := hv.front 3 rfl
    simp only [eS, eZ] at hv
    refine mC c3callable69 rfl ((csetSets E1 _ _ v t m s p wb va vc sv clk es M (hM.more (hD1.trans hE1)) hO (some ⟨ab, ao, none⟩) ac args a3 xc (xs.take mm) (hr4.more (hD1.trans hE1) (fun _ h => h)) (by omega) hv).mono ?_) rfl
    rintro e w122 ⟨F, oa, oc, ss, txs, e1, hF, rfl, htx, hrs, hoks, hss, hv⟩
    have hrt := hss.right hO
    have hssl : ss.length ≤ 1000 := by
     rcases hss with ⟨-, h9, -⟩ | ⟨-, h9, -⟩
     ·omega
     rw [h9]; exact Nat.zero_le _
    refine ⟨_, rfl, dW hv ?_⟩
    refine dM (.tuple #[.slice oa ss.length oc, vI e1]) rfl ?_
    simp only [zP, po]
    refine dG (.slice oa ss.length oc) rfl (ex_extract rfl rfl rfl) (dG (vI e1) rfl (ex_extract rfl rfl rfl) ?_)
    refine dA (.slice oa ss.length oc) rfl ?_
    simp only [zP, po]
    refine dA (vI e1) rfl (dE fun w123 hv => ?_)
    simp only [zP, po]
    refine tK k120 (sK fun _ k124 => ?_)
    refine sK fun _ k125 => rL (xM (vI e1) rfl ?_)
    by_cases hb126 : e1 ≠ 0
    ·refine xG (.bool true) rfl (ex_neq rfl rfl rfl (qT hb126)) ?_
     simp only [zP, po]
     refine wK k125 (cT rfl ?_)
     refine sK fun _ k127 => rL (xM (vI e1) rfl ?_)
     refine xC rscallable24 rfl ((viewWrong F _ _ e1 hv).mono ?_) rfl
     rintro e w129 ⟨s128, rfl, hv⟩
     refine ⟨_, rfl, ?_⟩
     refine xS 2 rfl hv rssz28 rfl (by exact ⟨rfl, rfl, rfl, rfl, trivial⟩) (fun w130 hv => ?_)
     simp only [zS, zO, sp] at hv
     simp only [zP, po]
     refine wK k127 (rR ?_)
     refine tR (bC 2 rswd28 hv rfl rfl rfl rfl ?_)
     have hrel : CommonR M clk key xs (rFault s128) := fun n9 h9 h10 h11 => by
      have hxe : xs.take mm = xs := List.take_of_length_le (by have := numP_inj h9 hn1; omega)
      rw [hxe] at hss
      exact ⟨ss, e1, hss, .inl ⟨by omega, rfl⟩⟩
     exact ⟨F, rFault s128, rpCells 1 s128 0 (vN), ((hD1.trans hE1).trans hF), rfl, rpAt_leaf, hrel, (hv.kp [1, 1] 2 2)⟩
    refine xG (.bool false) rfl (ex_neq rfl rfl rfl (qF hb126)) ?_
    simp only [zP, po]
    refine wK k125 (cF rfl ?_)
    refine kS (tK k124 ?_)
    refine sK fun _ k131 => rL (xM (.slice oa ss.length oc) rfl ?_)
    refine xC c3callable71 rfl ((setInter F _ _ oa oc ss txs htx hrs (by omega) (fun s hs => ⟨(setOk_iff.1 (hrt s hs)).2.2, by have := (hrt s hs).1; omega⟩) hoks hv).mono ?_) rfl
    rintro e w132 ⟨G, ra, rc, out, hG, rfl, hoko, hro, hout, hv⟩
    refine ⟨_, rfl, ?_⟩
    have hol : out.length ≤ 512 := by
     rcases hout with ⟨-, rfl⟩ | ⟨q, hq, rfl⟩
     ·simp
     exact Nat.le_trans (List.length_filter_le _ _) (hrt q (List.mem_of_getElem? hq)).1
    refine xG (vI (out.length : Int)) rfl (ex_len0 Tryz.underlying22 rfl rfl) ?_
    simp only [zP, po]
    refine xA (vI (out.length : Int)) rfl ?_
    simp only [zP, po]
    refine wK k131 (sK fun _ k133 => ?_)
    refine sK fun _ k134 => rL (xM (vI 0) rfl ?_)
    refine xG (.bool false) rfl (ex_gtr rfl rfl rfl (by decide)) ?_
    simp only [zP, po]
    refine wK k134 (cF rfl ?_)
    refine kS (tK k133 ?_)
    refine sK fun _ k135 => rL (xM (vI (out.length : Int)) rfl ?_)
    refine xC c1callable45 rfl ((respInt G _ _ (out.length : Int) hv).mono ?_) rfl
    rintro e w136 ⟨rfl, hv⟩
    refine ⟨_, rfl, ?_⟩
    refine xS 2 rfl hv rssz28 rfl (by exact ⟨rfl, rfl, rfl, rfl, trivial⟩) (fun w137 hv => ?_)
    simp only [zS, zO, sp] at hv
    simp only [zP, po]
    refine wK k135 (rR ?_)
    refine bC 2 rswd28 hv rfl rfl rfl rfl ?_
    have hrel : CommonR M clk key xs (rInt (out.length : Int)) := fun n9 h9 h10 h11 => by
     have he1 : e1 = 0 := by omega
     have hxe : xs.take mm = xs := List.take_of_length_le (by have := numP_inj h9 hn1; omega)
     rw [hxe] at hss
     rcases hout with ⟨rfl, -⟩ | ⟨q, hq, rfl⟩
     ·exfalso
      rcases hss with ⟨-, h12, -⟩ | ⟨h12, -⟩
      ·simp at h12; omega
      exact h12 he1
     exact ⟨ss, e1, hss, .inr ⟨he1, q, hq, rfl⟩⟩
    exact ⟨G, rInt (out.length : Int), rpCells 2 [] (out.length : Int) (vN), (((hD1.trans hE1).trans hF).trans hG), rfl, rpAt_leaf, hrel, (hv.kp [1, 1] 2 2)⟩
   refine xG (.bool false) rfl (ex_geq rfl rfl rfl (qF hb15)) ?_
   simp only [zP, po]
   refine xK true (.bool false) rfl (xM (.bool false) rfl ?_)
   iterate 5 refine yN rfl ?_
   refine xK false (.bool false) rfl ?_
   simp only [zP, po]
   refine xM (.bool false) rfl ?_
   iterate 7 refine yN rfl ?_
   refine xK false (.bool false) rfl (xA (.bool false) rfl ?_)
   simp only [zP, po]
   refine wK k13 (sK fun _ k138 => ?_)
   refine sK fun _ k139 => rL (xM (.bool false) rfl ?_)
   simp only [zP, po]
   refine wK k139 (cF rfl ?_)
   refine kS (tK k138 ?_)
   refine sK fun _ k140 => sK fun _ k141 => rL (xM (vI n1) rfl ?_)
   by_cases hb142 : n1 < 1
   ·refine xG (.bool true) rfl (ex_lss rfl rfl rfl (qT hb142)) (xM (.bool true) rfl ?_)
    simp only [zP, po]
    iterate 2 refine yN rfl ?_
    refine xK true (.bool true) rfl ?_
    simp only [zP, po]
    refine wK k141 (cT rfl ?_)
    refine sK fun _ k143 => rL (xC rscallable24 rfl ((viewWrong E1 _ _ 44 hv).mono ?_) rfl)
    rintro e w145 ⟨s144, rfl, hv⟩
    refine ⟨_, rfl, ?_⟩
    refine xS 0 rfl hv rssz28 rfl (by exact ⟨rfl, rfl, rfl, rfl, trivial⟩) (fun w146 hv => ?_)
    simp only [zO, sp] at hv
    simp only [zP, po]
    refine wK k143 (rR ?_)
    refine tR (bC 0 rswd28 hv rfl rfl rfl rfl ?_)
    have hrel : CommonR M clk key xs (rFault s144) := fun n9 h9 h10 h11 => by have := numP_inj h9 hn1; omega
    exact ⟨E1, rFault s144, rpCells 1 s144 0 (vN), (hD1.trans hE1), rfl, rpAt_leaf, hrel, (hv.kp [3, 3] 2 2)⟩
   refine xG (.bool false) rfl (ex_lss rfl rfl rfl (qF hb142)) (xM (.bool false) rfl ?_)
   simp only [zP, po]
   refine xM (vI 0) rfl (xG (.bool false) rfl (ex_lss rfl rfl rfl (by decide)) ?_)
   refine xK false (.bool false) rfl ?_
   simp only [zP, po]
   refine wK k141 (cF rfl ?_)
   refine kS (tK k140 ?_)
   refine sK fun _ k147 => sK fun _ k148 => rL (xM (.bool false) rfl ?_)
   refine xG (.bool true) rfl (ex_not rfl rfl rfl) (xM (.bool true) rfl ?_)
   simp only [zP, po]
   refine xM (vI n1) rfl (xM (.slice xa xs.length xc) rfl ?_)
   refine xG (vI (xs.length : Int)) rfl (ex_len0 Tryz.underlying22 rfl rfl) ?_
   simp only [zP, po]
   by_cases hb149 : n1 ≠ (xs.length : Int)
   ·refine xG (.bool true) rfl (ex_neq rfl rfl rfl (qT hb149)) (xK true (.bool true) rfl ?_)
    simp only [zP, po]
    refine wK k148 (cT rfl ?_)
    refine sK fun _ k150 => rL (xC rscallable24 rfl ((viewWrong E1 _ _ 42 hv).mono ?_) rfl)
    rintro e w152 ⟨s151, rfl, hv⟩
    refine ⟨_, rfl, ?_⟩
    refine xS 0 rfl hv rssz28 rfl (by exact ⟨rfl, rfl, rfl, rfl, trivial⟩) (fun w153 hv => ?_)
    simp only [zO, sp] at hv
    simp only [zP, po]
    refine wK k150 (rR ?_)
    refine tR (bC 0 rswd28 hv rfl rfl rfl rfl ?_)
    have hrel : CommonR M clk key xs (rFault s151) := fun n9 h9 h10 h11 => by have := numP_inj h9 hn1; omega
    exact ⟨E1, rFault s151, rpCells 1 s151 0 (vN), (hD1.trans hE1), rfl, rpAt_leaf, hrel, (hv.kp [3, 3] 2 2)⟩
   refine xG (.bool false) rfl (ex_neq rfl rfl rfl (qF hb149)) (xK true (.bool false) rfl ?_)
   simp only [zP, po]
   refine wK k148 (cF rfl ?_)
   refine kS (tK k147 ?_)
   refine sK fun _ k154 => ?_
   obtain ⟨mm, hmm⟩ : ∃ m : Nat, n1 = (m : Int) := ⟨n1.toNat, by omega⟩
   subst hmm
   have hml : (xs.take mm).length = mm := by rw [List.length_take]; omega
   obtain ⟨a3, ha3, ok3, hr3⟩ := sliced_hiV 1 hokx hrx (textCells_len xs) (show mm ≤ xs.length by omega)
   rw [Nat.mul_one] at hr3
   have hr4 : RdV B [] a3 (textCells (xs.take mm)) := by have h9 := hr3; rw [show (textCells xs).take mm = textCells (xs.take mm) by simp [textCells]] at h9; exact h9
   refine rW mixed [4] [0,1,2,3,4,5,6,7,8,9] 107 rfl (by kernel_rfl) hv ?_
   simp only [qm, opAt]
   refine dL (.agg #[vP v, .slice (some ⟨ab, ao, none⟩) args.length ac]) rfl (fun hv => ex_load rfl rfl (lM 1 c1wd73 hv rfl rfl rfl rfl)) (dM (.slice xa xs.length xc) rfl ?_)
   refine dM (vI mm) rfl ?_
   simp only [zP, po]
   refine dG (.slice a3 ((xs.take mm).length) xc) rfl (ex_slice (hi' := some (vI mm)) rfl rfl rfl (congrArg some rfl) rfl ((run_hiAny (h := mm) Tryz.underlying22 s9es22 (by have := hokx.le; omega)).trans (by rw [ha3, hml]))) (dS rfl fun w155 hv => ?_)
   replace hv := hv.front 3 rfl
   simp only [eS, eZ] at hv
   replace hv := hv.front 3 rfl
   simp only [eS, eZ] at hv
   refine mC c3callable69 rfl ((csetSets E1 _ _ v t m s p wb va vc sv clk es M (hM.more (hD1.trans hE1)) hO (some ⟨ab, ao, none⟩) ac args a3 xc (xs.take mm) (hr4.more (hD1.trans hE1) (fun _ h => h)) (by omega) hv).mono ?_) rfl
   rintro e w156 ⟨F, oa, oc, ss, txs, e1, hF, rfl, htx, hrs, hoks, hss, hv⟩
   have hrt := hss.right hO
   have hssl : ss.length ≤ 1000 := by
    rcases hss with ⟨-, h9, -⟩ | ⟨-, h9, -⟩
    ·omega
    rw [h9]; exact Nat.zero_le _
   refine ⟨_, rfl, dW hv ?_⟩
   refine dM (.tuple #[.slice oa ss.length oc, vI e1]) rfl ?_
   simp only [zP, po]
   refine dG (.slice oa ss.length oc) rfl (ex_extract rfl rfl rfl) (dG (vI e1) rfl (ex_extract rfl rfl rfl) ?_)
   refine dA (.slice oa ss.length oc) rfl ?_
   simp only [zP, po]
   refine dA (vI e1) rfl (dE fun w157 hv => ?_)
   simp only [zP, po]
   refine tK k154 (sK fun _ k158 => ?_)
   refine sK fun _ k159 => rL (xM (vI e1) rfl ?_)
   by_cases hb160 : e1 ≠ 0
   ·refine xG (.bool true) rfl (ex_neq rfl rfl rfl (qT hb160)) ?_
    simp only [zP, po]
    refine wK k159 (cT rfl ?_)
    refine sK fun _ k161 => rL (xM (vI e1) rfl ?_)
    refine xC rscallable24 rfl ((viewWrong F _ _ e1 hv).mono ?_) rfl
    rintro e w163 ⟨s162, rfl, hv⟩
    refine ⟨_, rfl, ?_⟩
    refine xS 2 rfl hv rssz28 rfl (by exact ⟨rfl, rfl, rfl, rfl, trivial⟩) (fun w164 hv => ?_)
    simp only [zS, zO, sp] at hv
    simp only [zP, po]
    refine wK k161 (rR ?_)
    refine tR (bC 2 rswd28 hv rfl rfl rfl rfl ?_)
    have hrel : CommonR M clk key xs (rFault s162) := fun n9 h9 h10 h11 => by
     have hxe : xs.take mm = xs := List.take_of_length_le (by have := numP_inj h9 hn1; omega)
     rw [hxe] at hss
     exact ⟨ss, e1, hss, .inl ⟨by omega, rfl⟩⟩
    exact ⟨F, rFault s162, rpCells 1 s162 0 (vN), ((hD1.trans hE1).trans hF), rfl, rpAt_leaf, hrel, (hv.kp [1, 1] 2 2)⟩
   refine xG (.bool false) rfl (ex_neq rfl rfl rfl (qF hb160)) ?_
   simp only [zP, po]
   refine wK k159 (cF rfl ?_)
   refine kS (tK k158 ?_)
   refine sK fun _ k165 => rL (xM (.slice oa ss.length oc) rfl ?_)
   refine xC c3callable71 rfl ((setInter F _ _ oa oc ss txs htx hrs (by omega) (fun s hs => ⟨(setOk_iff.1 (hrt s hs)).2.2, by have := (hrt s hs).1; omega⟩) hoks hv).mono ?_) rfl
   rintro e w166 ⟨G, ra, rc, out, hG, rfl, hoko, hro, hout, hv⟩
   refine ⟨_, rfl, ?_⟩
   have hol : out.length ≤ 512 := by
    rcases hout with ⟨-, rfl⟩ | ⟨q, hq, rfl⟩
    ·simp
    exact Nat.le_trans (List.length_filter_le _ _) (hrt q (List.mem_of_getElem? hq)).1
   refine xG (vI (out.length : Int)) rfl (ex_len0 Tryz.underlying22 rfl rfl) ?_
   simp only [zP, po]
   refine xA (vI (out.length : Int)) rfl ?_
   simp only [zP, po]
   refine wK k165 (sK fun _ k167 => ?_)
   refine sK fun _ k168 => rL (xM (vI 0) rfl ?_)
   refine xG (.bool false) rfl (ex_gtr rfl rfl rfl (by decide)) ?_
   simp only [zP, po]
   refine wK k168 (cF rfl ?_)
   refine kS (tK k167 ?_)
   refine sK fun _ k169 => rL (xM (vI (out.length : Int)) rfl ?_)
   refine xC c1callable45 rfl ((respInt G _ _ (out.length : Int) hv).mono ?_) rfl
   rintro e w170 ⟨rfl, hv⟩
   refine ⟨_, rfl, ?_⟩
   refine xS 2 rfl hv rssz28 rfl (by exact ⟨rfl, rfl, rfl, rfl, trivial⟩) (fun w171 hv => ?_)
   simp only [zS, zO, sp] at hv
   simp only [zP, po]
   refine wK k169 (rR ?_)
   refine bC 2 rswd28 hv rfl rfl rfl rfl ?_
   have hrel : CommonR M clk key xs (rInt (out.length : Int)) := fun n9 h9 h10 h11 => by
    have he1 : e1 = 0 := by omega
    have hxe : xs.take mm = xs := List.take_of_length_le (by have := numP_inj h9 hn1; omega)
    rw [hxe] at hss
    rcases hout with ⟨rfl, -⟩ | ⟨q, hq, rfl⟩
    ·exfalso
     rcases hss with ⟨-, h12, -⟩ | ⟨h12, -⟩
     ·simp at h12; omega
     exact h12 he1
    exact ⟨ss, e1, hss, .inr ⟨he1, q, hq, rfl⟩⟩
   exact ⟨G, rInt (out.length : Int), rpCells 2 [] (out.length : Int) (vN), (((hD1.trans hE1).trans hF).trans hG), rfl, rpAt_leaf, hrel, (hv.kp [1, 1] 2 2)⟩
  refine xG (.bool false) rfl (ex_geq rfl rfl rfl (qF hb14)) (xM (.bool false) rfl ?_)
  simp only [zP, po]
  iterate 3 refine yN rfl ?_
  refine xK false (.bool false) rfl (xM (.bool false) rfl ?_)
  iterate 5 refine yN rfl ?_
  refine xK false (.bool false) rfl ?_
  simp only [zP, po]
  refine xM (.bool false) rfl ?_
  iterate 7 refine yN rfl ?_
  refine xK false (.bool false) rfl (xA (.bool false) rfl ?_)
  simp only [zP, po]
  refine wK k13 (sK fun _ k172 => ?_)
  refine sK fun _ k173 => rL (xM (.bool false) rfl ?_)
  simp only [zP, po]
  refine wK k173 (cF rfl ?_)
  refine kS (tK k172 ?_)
  refine sK fun _ k174 => sK fun _ k175 => rL (xM (vI n1) rfl ?_)
  by_cases hb176 : n1 < 1
  ·refine xG (.bool true) rfl (ex_lss rfl rfl rfl (qT hb176)) (xM (.bool true) rfl ?_)
   simp only [zP, po]
   iterate 2 refine yN rfl ?_
   refine xK true (.bool true) rfl ?_
   simp only [zP, po]
   refine wK k175 (cT rfl ?_)
   refine sK fun _ k177 => rL (xC rscallable24 rfl ((viewWrong E1 _ _ 44 hv).mono ?_) rfl)
   rintro e w179 ⟨s178, rfl, hv⟩
   refine ⟨_, rfl, ?_⟩
   refine xS 0 rfl hv rssz28 rfl (by exact ⟨rfl, rfl, rfl, rfl, trivial⟩) (fun w180 hv => ?_)
   simp only [zO, sp] at hv
   simp only [zP, po]
   refine wK k177 (rR ?_)
   refine tR (bC 0 rswd28 hv rfl rfl rfl rfl ?_)
   have hrel : CommonR M clk key xs (rFault s178) := fun n9 h9 h10 h11 => by have := numP_inj h9 hn1; omega
   exact ⟨E1, rFault s178, rpCells 1 s178 0 (vN), (hD1.trans hE1), rfl, rpAt_leaf, hrel, (hv.kp [3, 3] 2 2)⟩
  refine xG (.bool false) rfl (ex_lss rfl rfl rfl (qF hb176)) (xM (.bool false) rfl ?_)
  simp only [zP, po]
  refine xM (vI 0) rfl (xG (.bool false) rfl (ex_lss rfl rfl rfl (by decide)) ?_)
  refine xK false (.bool false) rfl ?_
  simp only [zP, po]
  refine wK k175 (cF rfl ?_)
  refine kS (tK k174 ?_)
  refine sK fun _ k181 => sK fun _ k182 => rL (xM (.bool false) rfl ?_)
  refine xG (.bool true) rfl (ex_not rfl rfl rfl) (xM (.bool true) rfl ?_)
  simp only [zP, po]
  refine xM (vI n1) rfl (xM (.slice xa xs.length xc) rfl ?_)
  refine xG (vI (xs.length : Int)) rfl (ex_len0 Tryz.underlying22 rfl rfl) ?_
  simp only [zP, po]
  by_cases hb183 : n1 ≠ (xs.length : Int)
  ·refine xG (.bool true) rfl (ex_neq rfl rfl rfl (qT hb183)) (xK true (.bool true) rfl ?_)
   simp only [zP, po]
   refine wK k182 (cT rfl ?_)
   refine sK fun _ k184 => rL (xC rscallable24 rfl ((viewWrong E1 _ _ 42 hv).mono ?_) rfl)
   rintro e w186 ⟨s185, rfl, hv⟩
   refine ⟨_, rfl, ?_⟩
   refine xS 0 rfl hv rssz28 rfl (by exact ⟨rfl, rfl, rfl, rfl, trivial⟩) (fun w187 hv => ?_)
   simp only [zO, sp] at hv
   simp only [zP, po]
   refine wK k184 (rR ?_)
   refine tR (bC 0 rswd28 hv rfl rfl rfl rfl ?_)
   have hrel : CommonR M clk key xs (rFault s185) := fun n9 h9 h10 h11 => by have := numP_inj h9 hn1; omega
   exact ⟨E1, rFault s185, rpCells 1 s185 0 (vN), (hD1.trans hE1), rfl, rpAt_leaf, hrel, (hv.kp [3, 3] 2 2)⟩
  refine xG (.bool false) rfl (ex_neq rfl rfl rfl (qF hb183)) (xK true (.bool false) rfl ?_)
  simp only [zP, po]
  refine wK k182 (cF rfl ?_)
  refine kS (tK k181 ?_)
  refine sK fun _ k188 => ?_
  obtain ⟨mm, hmm⟩ : ∃ m : Nat, n1 = (m : Int) := ⟨n1.toNat, by omega⟩
  subst hmm
  have hml : (xs.take mm).length = mm := by rw [List.length_take]; omega
  obtain ⟨a3, ha3, ok3, hr3⟩ := sliced_hiV 1 hokx hrx (textCells_len xs) (show mm ≤ xs.length by omega)
  rw [Nat.mul_one] at hr3
  have hr4 : RdV B [] a3 (textCells (xs.take mm)) := by have h9 := hr3; rw [show (textCells xs).take mm = textCells (xs.take mm) by simp [textCells]] at h9; exact h9
  refine rW mixed [4] [0,1,2,3,4,5,6,7,8,9] 107 rfl (by kernel_rfl) hv ?_
  simp only [qm, opAt]
  refine dL (.agg #[vP v, .slice (some ⟨ab, ao, none⟩) args.length ac]) rfl (fun hv => ex_load rfl rfl (lM 1 c1wd73 hv rfl rfl rfl rfl)) (dM (.slice xa xs.length xc) rfl ?_)
  refine dM (vI mm) rfl ?_
  simp only [zP, po]
  refine dG (.slice a3 ((xs.take mm).length) xc) rfl (ex_slice (hi' := some (vI mm)) rfl rfl rfl (congrArg some rfl) rfl ((run_hiAny (h := mm) Tryz.underlying22 s9es22 (by have := hokx.le; omega)).trans (by rw [ha3, hml]))) (dS rfl fun w189 hv => ?_)
  replace hv := hv.front 3 rfl
  simp only [eS, eZ] at hv
  replace hv := hv.front 3 rfl
  simp only [eS, eZ] at hv
  refine mC c3callable69 rfl ((csetSets E1 _ _ v t m s p wb va vc sv clk es M (hM.more (hD1.trans hE1)) hO (some ⟨ab, ao, none⟩) ac args a3 xc (xs.take mm) (hr4.more (hD1.trans hE1) (fun _ h => h)) (by omega) hv).mono ?_) rfl
  rintro e w190 ⟨F, oa, oc, ss, txs, e1, hF, rfl, htx, hrs, hoks, hss, hv⟩
  have hrt := hss.right hO
  have hssl : ss.length ≤ 1000 := by
   rcases hss with ⟨-, h9, -⟩ | ⟨-, h9, -⟩
   ·omega
   rw [h9]; exact Nat.zero_le _
  refine ⟨_, rfl, dW hv ?_⟩
  refine dM (.tuple #[.slice oa ss.length oc, vI e1]) rfl ?_
  simp only [zP, po]
  refine dG (.slice oa ss.length oc) rfl (ex_extract rfl rfl rfl) (dG (vI e1) rfl (ex_extract rfl rfl rfl) ?_)
  refine dA (.slice oa ss.length oc) rfl ?_
  simp only [zP, po]
  refine dA (vI e1) rfl (dE fun w191 hv => ?_)
  simp only [zP, po]
  refine tK k188 (sK fun _ k192 => ?_)
  refine sK fun _ k193 => rL (xM (vI e1) rfl ?_)
  by_cases hb194 : e1 ≠ 0
  ·refine xG (.bool true) rfl (ex_neq rfl rfl rfl (qT hb194)) ?_
   simp only [zP, po]
   refine wK k193 (cT rfl ?_)
   refine sK fun _ k195 => rL (xM (vI e1) rfl ?_)
   refine xC rscallable24 rfl ((viewWrong F _ _ e1 hv).mono ?_) rfl
   rintro e w197 ⟨s196, rfl, hv⟩
   refine ⟨_, rfl, ?_⟩
   refine xS 2 rfl hv rssz28 rfl (by exact ⟨rfl, rfl, rfl, rfl, trivial⟩) (fun w198 hv => ?_)
   simp only [zS, zO, sp] at hv
   simp only [zP, po]
   refine wK k195 (rR ?_)
   refine tR (bC 2 rswd28 hv rfl rfl rfl rfl ?_)
   have hrel : CommonR M clk key xs (rFault s196) := fun n9 h9 h10 h11 => by
    have hxe : xs.take mm = xs := List.take_of_length_le (by have := numP_inj h9 hn1; omega)
    rw [hxe] at hss
    exact ⟨ss, e1, hss, .inl ⟨by omega, rfl⟩⟩
   exact ⟨F, rFault s196, rpCells 1 s196 0 (vN), ((hD1.trans hE1).trans hF), rfl, rpAt_leaf, hrel, (hv.kp [1, 1] 2 2)⟩
  refine xG (.bool false) rfl (ex_neq rfl rfl rfl (qF hb194)) ?_
  simp only [zP, po]
  refine wK k193 (cF rfl ?_)
  refine kS (tK k192 ?_)
  refine sK fun _ k199 => rL (xM (.slice oa ss.length oc) rfl ?_)
  refine xC c3callable71 rfl ((setInter F _ _ oa oc ss txs htx hrs (by omega) (fun s hs => ⟨(setOk_iff.1 (hrt s hs)).2.2, by have := (hrt s hs).1; omega⟩) hoks hv).mono ?_) rfl
  rintro e w200 ⟨G, ra, rc, out, hG, rfl, hoko, hro, hout, hv⟩
  refine ⟨_, rfl, ?_⟩
  have hol : out.length ≤ 512 := by
   rcases hout with ⟨-, rfl⟩ | ⟨q, hq, rfl⟩
   ·simp
   exact Nat.le_trans (List.length_filter_le _ _) (hrt q (List.mem_of_getElem? hq)).1
  refine xG (vI (out.length : Int)) rfl (ex_len0 Tryz.underlying22 rfl rfl) ?_
  simp only [zP, po]
  refine xA (vI (out.length : Int)) rfl ?_
  simp only [zP, po]
  refine wK k199 (sK fun _ k201 => ?_)
  refine sK fun _ k202 => rL (xM (vI 0) rfl ?_)
  refine xG (.bool false) rfl (ex_gtr rfl rfl rfl (by decide)) ?_
  simp only [zP, po]
  refine wK k202 (cF rfl ?_)
  refine kS (tK k201 ?_)
  refine sK fun _ k203 => rL (xM (vI (out.length : Int)) rfl ?_)
  refine xC c1callable45 rfl ((respInt G _ _ (out.length : Int) hv).mono ?_) rfl
  rintro e w204 ⟨rfl, hv⟩
  refine ⟨_, rfl, ?_⟩
  refine xS 2 rfl hv rssz28 rfl (by exact ⟨rfl, rfl, rfl, rfl, trivial⟩) (fun w205 hv => ?_)
  simp only [zS, zO, sp] at hv
  simp only [zP, po]
  refine wK k203 (rR ?_)
  refine bC 2 rswd28 hv rfl rfl rfl rfl ?_
  have hrel : CommonR M clk key xs (rInt (out.length : Int)) := fun n9 h9 h10 h11 => by
   have he1 : e1 = 0 := by omega
   have hxe : xs.take mm = xs := List.take_of_length_le (by have := numP_inj h9 hn1; omega)
   rw [hxe] at hss
   rcases hout with ⟨rfl, -⟩ | ⟨q, hq, rfl⟩
   ·exfalso
    rcases hss with ⟨-, h12, -⟩ | ⟨h12, -⟩
    ·simp at h12; omega
    exact h12 he1
   exact ⟨ss, e1, hss, .inr ⟨he1, q, hq, rfl⟩⟩
  exact ⟨G, rInt (out.length : Int), rpCells 2 [] (out.length : Int) (vN), (((hD1.trans hE1).trans hF).trans hG), rfl, rpAt_leaf, hrel, (hv.kp [1, 1] 2 2)⟩
 simp only [zP, po]
 refine xM (.tuple #[.slice ia1 0 ic1, vI 41]) rfl (xG (.slice ia1 0 ic1) rfl (ex_extract rfl rfl rfl) ?_)
 refine xG (vI 41) rfl (ex_extract rfl rfl rfl) ?_
 simp only [zP, po]
 refine xA (.slice ia1 0 ic1) rfl (xA (vI 41) rfl ?_)
 simp only [zP, po]
 refine wK k6 (sK fun _ k206 => ?_)
 refine sK fun _ k207 => rL (xM (vI 41) rfl ?_)
 refine xG (.bool true) rfl (ex_neq rfl rfl rfl (by decide)) ?_
 simp only [zP, po]
 refine wK k207 (cT rfl ?_)
 refine sK fun _ k208 => rL (xM (vI 41) rfl ?_)
 refine xC rscallable24 rfl ((viewWrong E1 _ _ 41 hv).mono ?_) rfl
 rintro e w210 ⟨s209, rfl, hv⟩
 refine ⟨_, rfl, ?_⟩
 refine xS 0 rfl hv rssz28 rfl (by exact ⟨rfl, rfl, rfl, rfl, trivial⟩) (fun w211 hv => ?_)
 simp only [zO, sp] at hv
 simp only [zP, po]
 refine wK k208 (rR ?_)
 refine tR (bC 0 rswd28 hv rfl rfl rfl rfl ?_)
 have hrel : CommonR M clk key xs (rFault s209) := fun n9 h9 h10 h11 => (numP_not h9 hn1).elim
 exact ⟨E1, rFault s209, rpCells 1 s209 0 (vN), (hD1.trans hE1), rfl, rpAt_leaf, hrel, (hv.kp [3, 3] 2 2)⟩
end Go.Proofs.YtoljdfjnannakaaGreatDoor
/- cset: do, of the commands that CsetMoves gives. -/
namespace Go.Proofs.YtoljdfjnannakaaGreatDoor
open Go.RowKit Go.Pm
theorem run_sshT {P : Program} {t : TypeId} {l : List UInt8} (ht : P.underlying t = some .string) {j : Nat} (hj : j ≤ l.length) (w : World) : (Instr.sliceAt t (vS l) none (some (vI j)) none).run P w = .ok (vS (l.take j)) w := by
 have hs : (⟨l.toArray⟩ : ByteArray).size = l.length := rfl
 rw [run_sliceAt_string w t _ _ _ _ ht, run_slice_string_h w t ⟨l.toArray⟩ ht .i64 (j : Int) (by omega) (by rw [hs]; omega), ByteArray.extract_mk]
 simp
theorem rp_parts {B : Base} {r : Rp} {cs : List Value} (h : RpAt B r cs) : ∃ k s n v, cs = rpCells k s n v := by
 cases r; simp only [RpAt] at h
 obtain ⟨v, xs, h1, -⟩ := h
 exact ⟨_, _, _, v, h1⟩
theorem CombR.len {M : List (List UInt8 × Ver)} {clk ec : Int} {name : List UInt8} {keys out : List (List UInt8)} (hO : OkM M) (h : CombR M clk name keys out ec) : out.length ≤ 512 := by
 obtain ⟨ss, e1, hs, ⟨-, -, rfl⟩ | ⟨-, ⟨-, -, q, hq, rfl⟩ | ⟨-, -, -, ⟨-, rfl⟩ | ⟨q, hq, rfl⟩⟩ | ⟨-, -, j, -, ⟨-, rfl, -⟩ | ⟨-, h1, rfl⟩⟩⟩⟩ := h
 ·simp
 ·exact Nat.le_trans (List.length_filter_le _ _) (hs.right hO q (List.mem_of_getElem? hq)).1
 ·simp
 ·exact Nat.le_trans (List.length_filter_le _ _) (hs.right hO q (List.mem_of_getElem? hq)).1
 ·simp
 exact h1
end Go.Proofs.YtoljdfjnannakaaGreatDoor
/- Rows of replies whose own lists are nothing, but perhaps the last one's: what resp.List copies. -/
namespace Go.Pm
open Go.RowKit
structure Leaf where
 k : Int
 s : List UInt8
 n : Int
abbrev nilS : Value := .slice none 0 0
abbrev leafC (x : Leaf) (v : Value) : List Value := rpCells x.k x.s x.n v
def leafR (x : Leaf) : Rp := .mk x.k x.s x.n []
abbrev leafN (x : Leaf) : List Value := leafC x nilS
def lvC (pre : List Leaf) : Option (Leaf × Value) → List Value
 | none => pre.flatMap leafN
 | some (x, v) => pre.flatMap leafN ++ leafC x v
theorem leafs_len (l : List Leaf) : (l.flatMap leafN).length = l.length * 4 := rowk_len (k := 4) (fun _ => rfl) l
theorem lvC_len0 (l : List Leaf) : (lvC l none).length = l.length * 4 := leafs_len l
theorem lvC_len1 (l : List Leaf) (x : Leaf) (v : Value) : (lvC l (some (x, v))).length = (l.length + 1) * 4 := by
 show (l.flatMap leafN ++ leafC x v).length = _
 rw [List.length_append, leafs_len, Nat.succ_mul]; rfl
theorem lvC_pre {l : List Leaf} {o : Option (Leaf × Value)} {i j : Nat} {x : Leaf} (hx : l[i]? = some x) (hj : j < 4) : (lvC l o)[i * 4 + j]? = (leafN x)[j]? := by
 have h := rowk_get (f := leafN) (k := 4) (fun _ => rfl) hx hj
 cases o with
 | none => exact h
 | some p =>
  show (l.flatMap leafN ++ _)[_]? = _
  have hi := (List.getElem?_eq_some_iff.1 hx).1
  have := Nat.mul_le_mul_right 4 (show i + 1 ≤ l.length by omega)
  rw [Nat.succ_mul] at this
  rw [List.getElem?_append_left (by rw [leafs_len]; omega)]
  exact h
theorem lvC_last {l : List Leaf} {x : Leaf} {v : Value} {j : Nat} : (lvC l (some (x, v)))[l.length * 4 + j]? = (leafC x v)[j]? := by
 show (l.flatMap leafN ++ _)[_]? = _
 rw [List.getElem?_append_right (by rw [leafs_len]; omega), leafs_len, Nat.add_sub_cancel_left]
theorem lvSet_same {α : Type} {l : List α} {i : Nat} {v : α} (h : l[i]? = some v) : l.set i v = l := by
 refine List.ext_getElem? fun j => ?_
 rw [List.getElem?_set]
 split
 ·rename_i e; subst e
  have := (List.getElem?_eq_some_iff.1 h).1
  rw [if_pos this, h]
 rfl
theorem lvC_set {l : List Leaf} {o : Option (Leaf × Value)} {i : Nat} {x : Leaf} (hx : l[i]? = some x) : (lvC l o).set (i * 4 + 3) nilS = lvC l o := lvSet_same (by rw [lvC_pre hx (by decide)]; rfl)
theorem lvC_setl {l : List Leaf} {x : Leaf} {v u : Value} : (lvC l (some (x, v))).set (l.length * 4 + 3) u = lvC l (some (x, u)) := by
 show (l.flatMap leafN ++ _).set _ _ = l.flatMap leafN ++ _
 rw [List.set_append_right _ _ (by rw [leafs_len]; omega), leafs_len, Nat.add_sub_cancel_left]; rfl
theorem lvC_one {l : List Leaf} {o : Option (Leaf × Value)} (ho : ∀ p, o = some p → p.2.oneCell' = true) : ∀ u ∈ lvC l o, u.oneCell' = true := by
 have h0 : ∀ u ∈ l.flatMap leafN, u.oneCell' = true := by
  intro u hu
  obtain ⟨x, -, hu⟩ := List.mem_flatMap.1 hu
  simp only [List.mem_cons, List.not_mem_nil, or_false] at hu
  rcases hu with rfl | rfl | rfl | rfl <;> rfl
 cases o with
 | none => exact h0
 | some p =>
  intro u hu
  rcases List.mem_append.1 (show u ∈ l.flatMap leafN ++ leafC p.1 p.2 from hu) with hu | hu
  ·exact h0 u hu
  simp only [List.mem_cons, List.not_mem_nil, or_false] at hu
  rcases hu with rfl | rfl | rfl | rfl
  ·rfl
  ·rfl
  ·rfl
  exact ho p rfl
theorem lvC_at0 {B : Base} : ∀ (l : List Leaf), RpsAt B (l.map leafR) (l.flatMap leafN)
 | [] => RpsAt.nil
 | x :: l => RpsAt.cons (rpAt_leaf (k := x.k) (s := x.s) (n := x.n)) (lvC_at0 l)
theorem lvC_at1 {B : Base} {pre l : List Leaf} {x : Leaf} {v : Value} (h : RowB B v l.length (l.flatMap leafN)) : RpsAt B (pre.map leafR ++ [.mk x.k x.s x.n (l.map leafR)]) (lvC pre (some (x, v))) :=
 RpsAt.append (RpsAt.single (rpAt_of (l := l.map leafR) (by rw [List.length_map]; exact h) (lvC_at0 l))) (lvC_at0 pre)
theorem row_loads {w : World} {e : TypeId} {size n c b k off : Nat} {xs cs : List Value} (h : w.ownsRow 0 e size (.slice (some ⟨b, 0, none⟩) n c) n xs) (ho : off = k) (hcs : ∀ j, j < cs.length → cs[j]? = xs[k + j]?) : ∀ j v, cs[j]? = some v → w.cell? ⟨b, off + j, none⟩ = some v := by
 subst ho
 intro j v hj
 have := row_load h (j := off + j) (v := v) (by rw [← hcs j (List.getElem?_eq_some_iff.1 hj).1, hj])
 rw [Nat.zero_add] at this
 exact this
theorem Inv.rowLess {B : Base} {n m c size b : Nat} {e : TypeId} {xs : List Value} {H : List Res} {w : World} (hv : Inv B (Res.row e size (.slice (some ⟨b, 0, none⟩) n c) n xs :: H) w) (hm : m ≤ n) : Inv B (Res.row e size (.slice (some ⟨b, 0, none⟩) m c) m (xs.take (m * size)) :: H) w := by
 obtain ⟨L, h1, h2, h3, h4, hc⟩ := hv.rowCell
 have h9 := hc.cellRow (n := m) (c := c) (size := size) h1 (by omega) h4
 have hle : m * size ≤ n * size := Nat.mul_le_mul_right _ hm
 rw [← h2, List.take_take, Nat.min_eq_left hle]
 exact h9
def ListIn (B : Base) (m : Nat) (xs : List Value) (r : Rp) : Prop :=
 (∃ ls : List Leaf, m = ls.length ∧ xs = lvC ls none ∧ r = rList (ls.map leafR)) ∨
 (∃ (pre l : List Leaf) (x : Leaf) (la : Option Addr) (lc : Nat), m = pre.length + 1 ∧ xs = lvC pre (some (x, .slice la l.length lc)) ∧ SliceOk la l.length lc ∧ RdV B [] la (lvC l none) ∧ l.length ≤ 1000000 ∧ r = rList (pre.map leafR ++ [.mk x.k x.s x.n (l.map leafR)]))
theorem ListIn.len {B : Base} {m : Nat} {xs : List Value} {r : Rp} (h : ListIn B m xs r) : xs.length = m * 4 := by
 rcases h with ⟨ls, rfl, rfl, -⟩ | ⟨pre, l, x, la, lc, rfl, rfl, -⟩
 ·exact lvC_len0 ls
 exact lvC_len1 pre x _
theorem ListIn.one {B : Base} {m : Nat} {xs : List Value} {r : Rp} (h : ListIn B m xs r) : ∀ u ∈ xs, u.oneCell' = true := by
 rcases h with ⟨ls, rfl, rfl, -⟩ | ⟨pre, l, x, la, lc, rfl, rfl, -⟩
 ·exact lvC_one fun p h => by cases h
 exact lvC_one fun p h => by cases h; rfl
theorem rlist_at {B : Base} {l : List Rp} {v : Value} {xs : List Value} (h1 : RowB B v l.length xs) (h2 : RpsAt B l xs) : RpAt B (rList l) (rpCells 5 [] 0 v) := rpAt_of h1 h2
end Go.Pm
