/- cset: sets, combined, move. -/
import Derived.Test.YtoljdfjnannakaaGreatDoorCsetB
import Derived.Test.YtoljdfjnannakaaGreatDoorCsetG
import Derived.Test.YtoljdfjnannakaaGreatDoorRows
import Derived.Laws.Strings2
import Derived.Laws.IdiomStrings
import Derived.Test.YtoljdfjnannakaaGreatDoorCsetE
import Derived.Test.YtoljdfjnannakaaGreatDoorCsetD
set_option maxRecDepth 100000
namespace Go.Proofs.YtoljdfjnannakaaGreatDoor
open Go.RowKit Go.Pm
theorem c3mk22 : (Tryz.prog.info? 22).map (fun i => (i.zero, i.size, i.bytes)) = some (some (.slice none 0 0), 1, 24) := by kernel_rfl
theorem c3el143 : Elem Tryz.prog 143 22 (.slice none 0 0) 1 24 := elem_of Tryz.underlying143 c3mk22 (by rfl) (by decide)
theorem c3al85 (w : World) : (Instr.alloc 85 true (.tuple #[])).run Tryz.prog w = .ok (.pointer (some ⟨w.heap.size, 0, none⟩)) (w.alloc (.cells ([.int .i64 0, .bool false, .int .i64 0, .int .i64 0, .string ⟨([] : List UInt8).toArray⟩, .slice none 0 0, .slice none 0 0, .slice none 0 0] : List Value).toArray 85)) := by kernel_rfl
set_option maxHeartbeats 8000000 in
theorem csetSets (B : Base) (H : List Res) (w : World) (v t m s p wb : Nat) (va : Option Addr) (vc : Nat) (sv : Value) (clk : Int) (es : List (List UInt8 × Value)) (M : List (List UInt8 × Ver)) (hM : VM B es M) (_ : OkM M) (aa : Option Addr) (ac : Nat) (args : List (List UInt8)) (ka : Option Addr) (kc : Nat) (ks : List (List UInt8)) (hrk : RdV B [] ka (textCells ks)) (hmk : ks.length ≤ 1000) (hv : Inv B (Res.cell v [.iface 62 (.pointer (some ⟨t, 0, none⟩))] 39 :: txR t m s p wb va vc sv clk es :: H) w) :
  Calls Tryz.prog 69 #[.agg #[.pointer (some ⟨v, 0, none⟩), .slice aa args.length ac], .slice ka ks.length kc] w fun e w' => ∃ C oa oc ss txs ec, B.Le C ∧ e = .returned (.tuple #[.slice oa ss.length oc, .int .i64 ec]) ∧ TxsAt C ss txs ∧ RdV C [] oa txs ∧ SliceOk oa ss.length oc ∧ SetsR M clk ks ss ec ∧ Inv C (Res.cell v [.iface 62 (.pointer (some ⟨t, 0, none⟩))] 39 :: txR t m s p wb va vc sv clk es :: H) w' := by
 refine cW Tryz.func69 rfl Tryz.ntmps69 ?_
 simp only [al]
 refine sK fun _ k1 => rL (sl_box (L := [.pointer (some ⟨v, 0, none⟩), .slice aa args.length ac]) tV (wn rfl) rfl rfl hv (fun w => by kernel_rfl) (fun b2 w3 hv => ?_))
 refine xA (.slice none 0 0) rfl (xA (.int .i64 0) rfl ?_)
 simp only [zP, po]
 refine wK k1 (sK fun _ k4 => ?_)
 refine rL (xM (.slice ka ks.length kc) rfl ?_)
 refine xG (.int .i64 (ks.length : Int)) rfl (ex_len0 Tryz.underlying22 rfl rfl) (sl_makeRow (cap := ks.length) tV (wn rfl) rfl rfl rfl c3el143 (by unfold maxLen; omega) (by omega) hv (fun b5 w6 hv => ?_))
 simp only [zP, po]
 refine xA (.slice (some ⟨b5, 0, none⟩) 0 ks.length) rfl ?_
 simp only [zP, po]
 refine wK k4 (sK fun _ k7 => ?_)
 refine sK fun _ k8 => rL (xM (.slice ka ks.length kc) rfl ?_)
 refine xG (.int .i64 (ks.length : Int)) rfl (ex_len0 Tryz.underlying22 rfl rfl) (xM (.int .i64 0) rfl ?_)
 simp only [zP, po]
 refine wK k8 (bB ?_)
 gi_loopw [16, 6] (fun x16 x6 wr => ∃ (i : Nat) (C : Base) (ss : List (List (List UInt8))) (txs : List Value) (ra : Option Addr) (rc : Nat), x16 = .int .i64 (i : Int) ∧ x6 = .slice ra ss.length rc ∧ B.Le C ∧ i ≤ ks.length ∧ ss.length = i ∧ TxsAt C ss txs ∧ (∀ (j : Nat) k s, ks[j]? = some k → ss[j]? = some s → ∃ y, OfI M clk k 4 y 0 ∧ s = y.val.texts) ∧ Inv C (Res.row 22 1 (.slice ra ss.length rc) ss.length txs :: Res.cell b2 [.pointer (some ⟨v, 0, none⟩), .slice aa args.length ac] 73 :: Res.cell v [.iface 62 (.pointer (some ⟨t, 0, none⟩))] 39 :: txR t m s p wb va vc sv clk es :: H) wr) (fun x16 x6 _ => ks.length - (intOf x16).toNat)
 case atStart => exact ⟨0, B, [], [], _, _, rfl, rfl, Base.Le.refl _, Nat.zero_le _, rfl, rfl, fun j k s _ h => by simp at h, ((((hv.front 3 rfl).front 3 rfl).front 3 rfl).front 3 rfl)⟩
 case round =>
  obtain ⟨i, C, ss, txs, ra, rc, rfl, rfl, hC, hi, hsl, htx, hall, hv⟩ := hrel
  refine sK fun _ k10 => rL ?_
  by_cases hb11 : (i : Int) < (ks.length : Int)
  ·refine xG (.bool true) rfl (ex_lss rfl rfl rfl (decide_eq_true hb11)) ?_
   simp only [zP, po]
   refine wK k10 (sK fun _ k12 => ?_)
   refine cT rfl (kS ?_)
   refine tK k12 (sK fun _ k13 => ?_)
   refine bB (sK fun _ k14 => ?_)
   obtain ⟨x, hx⟩ : ∃ x, ks[i]? = some x := ⟨_, List.getElem?_eq_getElem (show i < ks.length by omega)⟩
   obtain ⟨kb, ko, had, hrdx⟩ := text_reads hrk hx
   subst had
   refine rL (xG (.pointer (some ⟨kb, ko + i, none⟩)) rfl (ex_index rfl rfl rfl (run_idx1 (k := i) Tryz.underlying22 s9es22 (by omega))) ?_)
   refine xL _ rfl (run_load1 s9na9 (hrdx _ _ _ hC no_res hv 0 _ rfl)) (xA (.string ⟨x.toArray⟩) rfl ?_)
   simp only [zP, po]
   refine wK k14 (sK fun _ k15 => ?_)
   refine rL (xF (.pointer (some ⟨b2, 0, none⟩)) rfl (c1fa73_0 _ _ _) ?_)
   refine xL _ rfl (run_load1 c1na24 (hv.load 1 0 rfl rfl)) (xM (.string ⟨x.toArray⟩) rfl ?_)
   simp only [zP, po]
   replace hv := hv.front 3 rfl
   simp only [List.eraseIdx_cons_succ, List.eraseIdx_cons_zero] at hv
   replace hv := hv.front 3 rfl
   simp only [List.eraseIdx_cons_succ, List.eraseIdx_cons_zero] at hv
   refine xC c1callable63 rfl ((viewOf C _ _ v t m s p wb va vc sv clk es M x 4 (hM.more hC) hv).mono ?_) rfl
   rintro e w16 ⟨D, y, yp, yt, yz, ey, hD, rfl, hyv, hyf, hv⟩
   refine ⟨_, rfl, ?_⟩
   obtain ⟨ypa, ypc, yza, yzc, ypn, yzn, ysa, ysc, rfl, rfl, rfl, hoky, hry⟩ : ∃ pa pc za zc pn zn sa sc, yp = .slice pa pn pc ∧ yz = .slice za zn zc ∧ yt = .slice sa y.val.texts.length sc ∧ SliceOk sa y.val.texts.length sc ∧ RdV D [] sa (textCells y.val.texts) := by
    obtain ⟨⟨a1, c1, h1, -⟩, ⟨a2, c2, h2, h3, h4⟩, ⟨a3, c3, h5, -⟩, -⟩ := hyv
    exact ⟨_, _, _, _, _, _, _, _, h1, h5, h2, h3, h4⟩
   refine xM (.tuple #[.agg #[.int .i64 y.stamp, .bool y.gone, .int .i64 y.expire, .int .i64 y.val.kind, .string ⟨y.val.text.toArray⟩, .slice ypa ypn ypc, .slice ysa y.val.texts.length ysc, .slice yza yzn yzc], .int .i64 ey]) rfl (xG (.agg #[.int .i64 y.stamp, .bool y.gone, .int .i64 y.expire, .int .i64 y.val.kind, .string ⟨y.val.text.toArray⟩, .slice ypa ypn ypc, .slice ysa y.val.texts.length ysc, .slice yza yzn yzc]) rfl (ex_extract rfl rfl rfl) ?_)
   simp only [zP, po]
   refine xG (.int .i64 ey) rfl (ex_extract rfl rfl rfl) (sl_alloc tV (wn rfl) rfl hv c3al85 (fun b17 w18 hv => ?_))
   refine xS 0 rfl hv x0sz85 rfl (by exact ⟨rfl, rfl, rfl, rfl, rfl, rfl, rfl, rfl, trivial⟩) (fun w19 hv => ?_)
   simp only [zO, sp] at hv
   simp only [zP, po]
   refine xA (.int .i64 ey) rfl ?_
   simp only [zP, po]
   refine wK k15 (sK fun _ k20 => ?_)
   refine sK fun _ k21 => rL (xM (.int .i64 ey) rfl ?_)
   by_cases hb22 : ey ≠ 0
   ·refine xG (.bool true) rfl (ex_neq rfl rfl rfl (decide_eq_true hb22)) ?_
    simp only [zP, po]
    refine wK k21 (cT rfl ?_)
    refine sK fun _ k23 => rL (xM (.int .i64 ey) rfl ?_)
    refine xA (.slice none 0 0) rfl (xA (.int .i64 ey) rfl ?_)
    simp only [zP, po]
    refine wK k23 (rR ?_)
    refine tR (bZ ?_)
    refine tR (tR ?_)
    refine bZ (tR ?_)
    refine bodyPost_ret (results_tmp2 rfl _ _ _) rfl (⟨D, none, 0, [], [], ey, (hC.trans hD), rfl, rfl, rdV_nil, ok_nil, .inr ⟨by omega, rfl, x, List.mem_of_getElem? hx, y, hyf⟩, (((hv.front 2 rfl).front 2 rfl).sub (List.Sublist.cons_cons _ (List.Sublist.cons_cons _ (List.Sublist.cons _ (List.Sublist.cons _ (List.Sublist.cons _ (List.Sublist.refl _)))))))⟩)
   refine xG (.bool false) rfl (ex_neq rfl rfl rfl (decide_eq_false hb22)) ?_
   simp only [zP, po]
   refine wK k21 (cF rfl ?_)
   refine kS (tK k20 ?_)
   have hey0 : ey = 0 := by omega
   refine rL (xM (.slice ra ss.length rc) rfl ?_)
   refine xF (.pointer (some ⟨b17, 3, none⟩)) rfl (x2fa85_3 _ _ _) (xF (.pointer (some ⟨b17, 6, none⟩)) rfl (s1fa78_3 _ _ _) ?_)
   simp only [zP, po]
   refine xL _ rfl (run_load1 s1na22 (hv.load 0 6 rfl rfl)) (sl_rowOne (v := .slice ysa y.val.texts.length ysc) tV (wn rfl) rfl rfl hv c3el143 rfl (fun b24 w25 hv => ?_))
   replace hv := hv.front 4 rfl
   simp only [List.eraseIdx_cons_succ, List.eraseIdx_cons_zero] at hv
   refine sl_append (news := [.slice ysa y.val.texts.length ysc]) tV (wn rfl) rfl rfl rfl c3el143 hv (ok_full (by omega)) rfl (rd_all (hv.get 1 rfl)) (by intro u hu; simp only [List.mem_cons, List.not_mem_nil, or_false] at hu; rcases hu with rfl <;> rfl) (by unfold maxLen; omega) (by omega) (fun rv26 w29 hv => ?_)
   obtain ⟨ra27, rc28, rfl⟩ := row_slice hv.head
   simp only [zP, po]
   refine xA (.slice ra27 (ss.length + 1) rc28) rfl (wL ?_)
   simp only [zP, po]
   refine bN (tK k13 ?_)
   refine rL (xG (.int .i64 ((i + 1 : Nat) : Int)) rfl (ex_add rfl rfl rfl (by rw [i64_in (by omega)]; omega)) ?_)
   refine xM (.int .i64 ((i + 1 : Nat) : Int)) rfl (wL ?_)
   simp only [zP, po]
   refine then_normal ?_
   go_roundw
   case rel => exact ⟨i + 1, D, ss ++ [y.val.texts], _, _, _, rfl, by rw [List.length_append, List.length_singleton], (hC.trans hD), by omega, by rw [List.length_append, List.length_singleton, hsl], TxsAt.append (TxsAt.single ⟨_, _, rfl, hoky, hry⟩) (htx.more hD), fun j k' s' hk' hs' => (by
      rcases Nat.lt_or_ge j ss.length with h | h
      ·rw [List.getElem?_append_left h] at hs'; exact hall j k' s' hk' hs'
      have hj := (List.getElem?_eq_some_iff.1 hs').1
      rw [List.length_append, List.length_singleton] at hj
      obtain rfl : j = ss.length := by omega
      rw [List.getElem?_append_right (Nat.le_refl _), Nat.sub_self] at hs'
      rw [hsl, hx] at hk'
      cases hk'; cases hs'
      exact ⟨y, by rw [← hey0]; exact hyf, rfl⟩), by rw [List.length_append, List.length_singleton]; exact (((((hv.front 4 rfl).front 4 rfl).front 5 rfl).front 3 rfl).sub (List.Sublist.cons_cons _ (List.Sublist.cons_cons _ (List.Sublist.cons_cons _ (List.Sublist.cons_cons _ (List.Sublist.cons _ (List.Sublist.cons _ (List.Sublist.refl _))))))))⟩
   case measure => show ks.length - (((i + 1 : Nat) : Int)).toNat < ks.length - ((i : Int)).toNat; omega
  refine xG (.bool false) rfl (ex_lss rfl rfl rfl (decide_eq_false hb11)) ?_
  simp only [zP, po]
  refine wK k10 (sK fun _ k30 => ?_)
  refine cF rfl (xE ?_)
  refine tX (tX ?_)
  refine bH (tK k7 ?_)
  refine sK fun _ k31 => rL (xM (.slice ra ss.length rc) rfl ?_)
  refine xA (.slice ra ss.length rc) rfl (xA (.int .i64 0) rfl ?_)
  simp only [zP, po]
  refine wK k31 (rR ?_)
  refine bodyPost_ret (results_tmp2 rfl _ _ _) rfl ?_
  obtain rfl : i = ks.length := by omega
  obtain ⟨E, hE, hv, hro, hoko, -⟩ := (((((hv.front 3 rfl).front 3 rfl).front 2 rfl).sub (List.Sublist.cons_cons _ (List.Sublist.cons_cons _ (List.Sublist.cons_cons _ (List.Sublist.cons _ (List.Sublist.refl _))))))).rowBy
  exact ⟨E, ra, rc, ss, txs, 0, hC.trans hE, rfl, htx.more hE, hro, hoko, .inl ⟨rfl, hsl, hall⟩, hv⟩
theorem SetsR.right {M : List (List UInt8 × Ver)} {clk ec : Int} {keys : List (List UInt8)} {ss : List (List (List UInt8))} (hO : OkM M) (h : SetsR M clk keys ss ec) : ∀ s ∈ ss, SetOk s := by
 intro s hs
 rcases h with ⟨-, h1, h2⟩ | ⟨-, h1, -⟩
 ·obtain ⟨i, hi⟩ := List.mem_iff_getElem?.1 hs
  have hl := (List.getElem?_eq_some_iff.1 hi).1
  obtain ⟨y, h3, rfl⟩ := h2 i keys[i] s (List.getElem?_eq_getElem (by omega)) hi
  exact hO.set h3
 rw [h1] at hs; cases hs
theorem c3callable69 : Callable Tryz.prog 69 := ⟨_, Tryz.func69, by kernel_rfl, by kernel_rfl⟩
theorem c3callable71 : Callable Tryz.prog 71 := ⟨_, Tryz.func71, by kernel_rfl, by kernel_rfl⟩
theorem c3callable72 : Callable Tryz.prog 72 := ⟨_, Tryz.func72, by kernel_rfl, by kernel_rfl⟩
set_option maxHeartbeats 8000000 in
theorem csetCombined (B : Base) (H : List Res) (w : World) (v t m s p wb : Nat) (va : Option Addr) (vc : Nat) (sv : Value) (clk : Int) (es : List (List UInt8 × Value)) (M : List (List UInt8 × Ver)) (hM : VM B es M) (hO : OkM M) (aa : Option Addr) (ac : Nat) (args : List (List UInt8)) (name : List UInt8) (ka : Option Addr) (kc : Nat) (ks : List (List UInt8)) (hrk : RdV B [] ka (textCells ks)) (hmk : ks.length ≤ 1000) (hk0 : 0 < ks.length) (hv : Inv B (Res.cell v [.iface 62 (.pointer (some ⟨t, 0, none⟩))] 39 :: txR t m s p wb va vc sv clk es :: H) w) :
  Calls Tryz.prog 41 #[.agg #[.pointer (some ⟨v, 0, none⟩), .slice aa args.length ac], .string ⟨name.toArray⟩, .slice ka ks.length kc] w fun e w' => ∃ C oa oc out ec, B.Le C ∧ e = .returned (.tuple #[.slice oa out.length oc, .int .i64 ec]) ∧ SliceOk oa out.length oc ∧ RdV C [] oa (textCells out) ∧ CombR M clk name ks out ec ∧ Inv C (Res.cell v [.iface 62 (.pointer (some ⟨t, 0, none⟩))] 39 :: txR t m s p wb va vc sv clk es :: H) w' := by
 refine cW Tryz.func41 rfl Tryz.ntmps41 ?_
 simp only [al]
 refine sK fun _ k1 => rL (sl_box (L := [.pointer (some ⟨v, 0, none⟩), .slice aa args.length ac]) tV (wn rfl) rfl rfl hv (fun w => by kernel_rfl) (fun b2 w3 hv => ?_))
 refine xA (.slice none 0 0) rfl (xA (.int .i64 0) rfl ?_)
 simp only [zP, po]
 refine wK k1 (sK fun _ k4 => ?_)
 refine rL (xL (.agg #[.pointer (some ⟨v, 0, none⟩), .slice aa args.length ac]) rfl (run_load_mid (pre := []) (mid := [.pointer (some ⟨v, 0, none⟩), .slice aa args.length ac]) (post := []) c1wd73 (show Blk _ b2 ([] ++ [.pointer (some ⟨v, 0, none⟩), .slice aa args.length ac] ++ []) _ from hv.get 0 rfl) rfl) ?_)
 refine xM (.slice ka ks.length kc) rfl ?_
 replace hv := hv.front 2 rfl
 simp only [List.eraseIdx_cons_succ, List.eraseIdx_cons_zero] at hv
 replace hv := hv.front 2 rfl
 simp only [List.eraseIdx_cons_succ, List.eraseIdx_cons_zero] at hv
 refine xC c3callable69 rfl ((csetSets B _ _ v t m s p wb va vc sv clk es M hM hO aa ac args ka kc ks hrk hmk hv).mono ?_) rfl
 rintro e w5 ⟨C, oa, oc, ss, txs, e1, hC, rfl, htx, hrs, hoks, hss, hv⟩
 refine ⟨_, rfl, ?_⟩
 have hrt := hss.right hO
 have hssl : ss.length ≤ ks.length := hss.elim (fun h9 => by have := h9.2.1; omega) (fun h9 => by rw [h9.2.1]; exact Nat.zero_le _)
 simp only [zP, po]
 refine xM (.tuple #[.slice oa ss.length oc, .int .i64 e1]) rfl (xG (.slice oa ss.length oc) rfl (ex_extract rfl rfl rfl) ?_)
 refine xG (.int .i64 e1) rfl (ex_extract rfl rfl rfl) ?_
 simp only [zP, po]
 refine xA (.slice oa ss.length oc) rfl (xA (.int .i64 e1) rfl ?_)
 simp only [zP, po]
 refine wK k4 (sK fun _ k6 => ?_)
 refine sK fun _ k7 => rL (xM (.int .i64 e1) rfl ?_)
 by_cases hb8 : e1 ≠ 0
 ·refine xG (.bool true) rfl (ex_neq rfl rfl rfl (decide_eq_true hb8)) ?_
  simp only [zP, po]
  refine wK k7 (cT rfl ?_)
  refine sK fun _ k9 => rL (xM (.int .i64 e1) rfl ?_)
  refine xA (.slice none 0 0) rfl (xA (.int .i64 e1) rfl ?_)
  simp only [zP, po]
  refine wK k9 (rR ?_)
  refine tR (bodyPost_ret (results_tmp2 rfl _ _ _) rfl ?_)
  exact ⟨C, none, 0, [], e1, hC, rfl, ok_nil, rdV_nil, ⟨ss, e1, hss, .inl ⟨by omega, rfl, rfl⟩⟩, (((hv.front 1 rfl).front 1 rfl).sub (List.Sublist.cons_cons _ (List.Sublist.cons_cons _ (List.Sublist.cons _ (List.Sublist.refl _)))))⟩
 refine xG (.bool false) rfl (ex_neq rfl rfl rfl (decide_eq_false hb8)) ?_
 simp only [zP, po]
 refine wK k7 (cF rfl ?_)
 refine kS (tK k6 ?_)
 refine sK fun _ k10 => sK fun _ k11 => rL (xM (.string ⟨name.toArray⟩) rfl ?_)
 simp only [zP, po]
 refine wK k11 (bB ?_)
 refine sK fun _ k12 => rL ?_
 by_cases hb13 : name = ([83, 68, 73, 70, 70] : List UInt8)
 ·refine xG (.bool true) rfl (ex_seql rfl rfl rfl (decide_eq_true hb13)) (xA (.bool true) rfl ?_)
  simp only [zP, po]
  refine wK k12 (cT rfl ?_)
  refine sK fun _ k14 => ?_
  have hs0 : 0 < ss.length := by rcases hss with ⟨-, h9, -⟩ | ⟨h9, -⟩ <;> omega
  obtain ⟨q, hq⟩ : ∃ x, ss[0]? = some x := ⟨_, List.getElem?_eq_getElem (show 0 < ss.length by omega)⟩
  obtain ⟨tb, to, qa, qc, had, hokq, hrq, hrdq⟩ := TxsAt.reads htx hrs hq
  subst had
  obtain ⟨a3, c3, ha3, ok3, hr3⟩ := sliced_fromV 1 hoks hrs (by rw [htx.len, Nat.mul_one]) (show 1 ≤ ss.length by omega) (by decide)
  have hd1 : (ss.drop 1).length = ss.length - 1 := List.length_drop
  refine rW mixed [5] [0,1,2,3,4,5,6,7] 36 rfl (by kernel_rfl) hv ?_
  simp only [qm, opAt]
  refine dM (.slice (some ⟨tb, to, none⟩) ss.length oc) rfl (dG (.pointer (some ⟨tb, to + 0, none⟩)) rfl (ex_index rfl rfl rfl (run_idx1 (k := 0) Tryz.underlying143 t3es143 (by omega))) ?_)
  refine dL _ rfl (fun hv => ex_load rfl rfl (run_load1 s1na22 (hrdq _ _ _ (Base.Le.refl _) no_res hv 0 _ rfl))) ?_
  simp only [zP, po]
  refine dM (.slice (some ⟨tb, to, none⟩) ss.length oc) rfl (dG (.slice a3 ((ss.drop 1).length) c3) rfl (ex_slice (lo' := some (.int .i64 ((1 : Nat) : Int))) rfl rfl (congrArg some rfl) rfl rfl ((run_fromAny Tryz.underlying143 t3es143 (by omega)).trans (by rw [ha3, hd1]))) ?_)
  refine dS rfl fun w15 hv => mC t3callable70 rfl ((setDiff C _ _ qa qc q hrq (by have := (hrt q (List.mem_of_getElem? hq)).1; omega) a3 c3 (ss.drop 1) (txs.drop 1) (htx.drop 1) (by rw [Nat.mul_one] at hr3; exact hr3) (by omega) (fun s hs => ⟨(setOk_iff.1 (hrt s (List.mem_of_mem_drop hs))).2.2, by have := (hrt s (List.mem_of_mem_drop hs)).1; omega⟩) hv).mono ?_) rfl
  rintro e w16 ⟨D, ra, rc, out, hD, rfl, hoko, hro, hout, hv⟩
  refine ⟨_, rfl, dW hv ?_⟩
  simp only [zP, po]
  refine dA (.slice ra out.length rc) rfl (dA (.int .i64 0) rfl ?_)
  refine dE fun w17 hv => ?_
  simp only [zP, po]
  refine tK k14 (rR ?_)
  refine bZ (tR ?_)
  refine bodyPost_ret (results_tmp2 rfl _ _ _) rfl ?_
  have he1 : e1 = 0 := by omega
  exact ⟨D, ra, rc, out, 0, (hC.trans hD), rfl, hoko, hro, ⟨ss, e1, hss, .inr ⟨he1, .inl ⟨hb13, rfl, q, hq, hout⟩⟩⟩, (((hv.front 1 rfl).front 1 rfl).sub (List.Sublist.cons_cons _ (List.Sublist.cons_cons _ (List.Sublist.cons _ (List.Sublist.refl _)))))⟩
 refine xG (.bool false) rfl (ex_seql rfl rfl rfl (decide_eq_false hb13)) (xA (.bool false) rfl ?_)
 simp only [zP, po]
 refine wK k12 (cF rfl ?_)
 refine sK fun _ k18 => rL ?_
 by_cases hb19 : name = ([83, 73, 78, 84, 69, 82] : List UInt8)
 ·refine xG (.bool true) rfl (ex_seql rfl rfl rfl (decide_eq_true hb19)) (xA (.bool true) rfl ?_)
  simp only [zP, po]
  refine wK k18 (cT rfl ?_)
  refine sK fun _ k20 => rL (xM (.slice oa ss.length oc) rfl ?_)
  refine xC c3callable71 rfl ((setInter C _ _ oa oc ss txs htx hrs (by omega) (fun s hs => ⟨(setOk_iff.1 (hrt s hs)).2.2, by have := (hrt s hs).1; omega⟩) hoks hv).mono ?_) rfl
  rintro e w21 ⟨D, ra, rc, out, hD, rfl, hoko, hro, hout, hv⟩
  refine ⟨_, rfl, ?_⟩
  refine xA (.slice ra out.length rc) rfl ?_
  simp only [zP, po]
  refine xA (.int .i64 0) rfl ?_
  simp only [zP, po]
  refine wK k20 (rR ?_)
  refine bZ (tR ?_)
  refine bodyPost_ret (results_tmp2 rfl _ _ _) rfl ?_
  have he1 : e1 = 0 := by omega
  exact ⟨D, ra, rc, out, 0, (hC.trans hD), rfl, hoko, hro, ⟨ss, e1, hss, .inr ⟨he1, .inr (.inl ⟨hb13, hb19, rfl, hout⟩)⟩⟩, (((hv.front 1 rfl).front 1 rfl).sub (List.Sublist.cons_cons _ (List.Sublist.cons_cons _ (List.Sublist.cons _ (List.Sublist.refl _)))))⟩
 refine xG (.bool false) rfl (ex_seql rfl rfl rfl (decide_eq_false hb19)) (xA (.bool false) rfl ?_)
 simp only [zP, po]
 refine wK k18 (cF rfl ?_)
 refine kS (bN ?_)
 refine tK k10 (sK fun _ k22 => ?_)
 refine rL (xM (.slice oa ss.length oc) rfl ?_)
 refine xC c3callable72 rfl ((setUnion C _ _ oa oc ss txs htx hrs (by omega) (fun s hs => (hrt s hs).1) hv).mono ?_) rfl
 rintro e w23 ⟨D, ra, rc, out, e2, hD, rfl, hoko, hro, hout, hv⟩
 refine ⟨_, rfl, ?_⟩
 refine xG (.slice ra out.length rc) rfl (ex_extract rfl rfl rfl) ?_
 simp only [zP, po]
 refine xG (.int .i64 e2) rfl (ex_extract rfl rfl rfl) (xA (.slice ra out.length rc) rfl ?_)
 refine xA (.int .i64 e2) rfl ?_
 simp only [zP, po]
 refine wK k22 (rR ?_)
 refine bodyPost_ret (results_tmp2 rfl _ _ _) rfl ?_
 have he1 : e1 = 0 := by omega
 exact ⟨D, ra, rc, out, e2, (hC.trans hD), rfl, hoko, hro, ⟨ss, e1, hss, .inr ⟨he1, .inr (.inr ⟨hb13, hb19, hout⟩)⟩⟩, (((hv.front 1 rfl).front 1 rfl).sub (List.Sublist.cons_cons _ (List.Sublist.cons_cons _ (List.Sublist.cons _ (List.Sublist.refl _)))))⟩
theorem c3al28 (w : World) : (Instr.alloc 28 true (.tuple #[])).run Tryz.prog w = .ok (.pointer (some ⟨w.heap.size, 0, none⟩)) (w.alloc (.cells ([.int .i64 0, .string ⟨([] : List UInt8).toArray⟩, .int .i64 0, .slice none 0 0] : List Value).toArray 28)) := by kernel_rfl
theorem c3mk9 : (Tryz.prog.info? 9).map (fun i => (i.zero, i.size, i.bytes)) = some (some (.string ⟨([] : List UInt8).toArray⟩), 1, 16) := by kernel_rfl
theorem c3el22 : Elem Tryz.prog 22 9 (.string ⟨([] : List UInt8).toArray⟩) 1 16 := elem_of Tryz.underlying22 c3mk9 (by rfl) (by decide)
set_option maxHeartbeats 16000000 in
theorem csetMove (B : Base) (H : List Res) (w : World) (v t m s p wb : Nat) (va : Option Addr) (vc : Nat) (sv : Value) (clk : Int) (es : List (List UInt8 × Value)) (M : List (List UInt8 × Ver)) (hM : VM B es M) (hO : OkM M) (aa : Option Addr) (ac : Nat) (args : List (List UInt8)) (k l x : List UInt8) (hv : Inv B (Res.cell v [.iface 62 (.pointer (some ⟨t, 0, none⟩))] 39 :: txR t m s p wb va vc sv clk es :: H) w) :
  Calls Tryz.prog 47 #[.agg #[.pointer (some ⟨v, 0, none⟩), .slice aa args.length ac], .string ⟨k.toArray⟩, .string ⟨l.toArray⟩, .string ⟨x.toArray⟩] w fun e w' => ∃ C es' M' r cs, B.Le C ∧ e = .returned (.agg cs.toArray) ∧ RpAt C r cs ∧ VM C es' M' ∧ OkM M' ∧ MoveR M clk k l x M' r ∧ Inv C (Res.cell v [.iface 62 (.pointer (some ⟨t, 0, none⟩))] 39 :: txR t m s p wb va vc sv clk es' :: H) w' := by
 refine cW Tryz.func47 rfl Tryz.ntmps47 ?_
 simp only [al]
 refine sK fun _ k1 => rL (sl_box (L := [.pointer (some ⟨v, 0, none⟩), .slice aa args.length ac]) tV (wn rfl) rfl rfl hv (fun w => by kernel_rfl) (fun b2 w3 hv => ?_))
 refine sl_alloc tV (wn rfl) rfl hv c3al28 (fun b4 w5 hv => ?_)
 simp only [zP, po]
 refine wK k1 (sK fun _ k6 => ?_)
 refine rL (xF (.pointer (some ⟨b2, 0, none⟩)) rfl (c1fa73_0 _ _ _) ?_)
 refine xL _ rfl (run_load1 c1na24 (hv.load 1 0 rfl rfl)) (xM (.string ⟨k.toArray⟩) rfl ?_)
 simp only [zP, po]
 replace hv := hv.front 3 rfl
 simp only [List.eraseIdx_cons_succ, List.eraseIdx_cons_zero] at hv
 replace hv := hv.front 3 rfl
 simp only [List.eraseIdx_cons_succ, List.eraseIdx_cons_zero] at hv
 refine xC c1callable63 rfl ((viewOf B _ _ v t m s p wb va vc sv clk es M k 4 hM hv).mono ?_) rfl
 rintro e w7 ⟨C1, y1, y1p, y1t, y1z, ey1, hC1, rfl, hy1v, hy1f, hv⟩
 refine ⟨_, rfl, ?_⟩
 obtain ⟨y1pa, y1pc, y1za, y1zc, y1pn, y1zn, y1sa, y1sc, rfl, rfl, rfl, hoky1, hry1⟩ : ∃ pa pc za zc pn zn sa sc, y1p = .slice pa pn pc ∧ y1z = .slice za zn zc ∧ y1t = .slice sa y1.val.texts.length sc ∧ SliceOk sa y1.val.texts.length sc ∧ RdV C1 [] sa (textCells y1.val.texts) := by
  obtain ⟨⟨a1, c1, h1, -⟩, ⟨a2, c2, h2, h3, h4⟩, ⟨a3, c3, h5, -⟩, -⟩ := hy1v
  exact ⟨_, _, _, _, _, _, _, _, h1, h5, h2, h3, h4⟩
 refine xM (.tuple #[.agg #[.int .i64 y1.stamp, .bool y1.gone, .int .i64 y1.expire, .int .i64 y1.val.kind, .string ⟨y1.val.text.toArray⟩, .slice y1pa y1pn y1pc, .slice y1sa y1.val.texts.length y1sc, .slice y1za y1zn y1zc], .int .i64 ey1]) rfl (xG (.agg #[.int .i64 y1.stamp, .bool y1.gone, .int .i64 y1.expire, .int .i64 y1.val.kind, .string ⟨y1.val.text.toArray⟩, .slice y1pa y1pn y1pc, .slice y1sa y1.val.texts.length y1sc, .slice y1za y1zn y1zc]) rfl (ex_extract rfl rfl rfl) ?_)
 simp only [zP, po]
 refine xG (.int .i64 ey1) rfl (ex_extract rfl rfl rfl) (sl_alloc tV (wn rfl) rfl hv c3al85 (fun b8 w9 hv => ?_))
 refine xS 0 rfl hv x0sz85 rfl (by exact ⟨rfl, rfl, rfl, rfl, rfl, rfl, rfl, rfl, trivial⟩) (fun w10 hv => ?_)
 simp only [zO, sp] at hv
 simp only [zP, po]
 refine xA (.int .i64 ey1) rfl ?_
 simp only [zP, po]
 refine wK k6 (sK fun _ k11 => ?_)
 refine sK fun _ k12 => rL (xM (.int .i64 ey1) rfl ?_)
 by_cases hb13 : ey1 ≠ 0
 ·refine xG (.bool true) rfl (ex_neq rfl rfl rfl (decide_eq_true hb13)) ?_
  simp only [zP, po]
  refine wK k12 (cT rfl ?_)
  refine sK fun _ k14 => rL (xM (.int .i64 ey1) rfl ?_)
  refine xC rscallable24 rfl ((viewWrong C1 _ _ ey1 hv).mono ?_) rfl
  rintro e w16 ⟨s15, rfl, hv⟩
  refine ⟨_, rfl, ?_⟩
  refine xS 3 rfl hv rssz28 rfl (by exact ⟨rfl, rfl, rfl, rfl, trivial⟩) (fun w17 hv => ?_)
  simp only [zS, zO, sp] at hv
  simp only [zP, po]
  refine wK k14 (rR ?_)
  refine tR (bodyPost_ret (res_cell1 rfl rfl (run_load_mid (pre := []) (mid := [.int .i64 1, .string ⟨s15.toArray⟩, .int .i64 0, .slice none 0 0]) (post := []) rswd28 (show Blk _ b4 ([] ++ [.int .i64 1, .string ⟨s15.toArray⟩, .int .i64 0, .slice none 0 0] ++ []) _ from hv.get 3 rfl) rfl)) rfl ?_)
  exact ⟨C1, es, M, rFault s15, rpCells 1 s15 0 (.slice none 0 0), hC1, rfl, rpAt_leaf, hM.more hC1, hO, ⟨y1, ey1, hy1f, .inl ⟨by omega, rfl, rfl⟩⟩, (((hv.front 2 rfl).front 2 rfl).sub (List.Sublist.cons_cons _ (List.Sublist.cons_cons _ (List.Sublist.cons _ (List.Sublist.cons _ (List.Sublist.cons _ (List.Sublist.refl _)))))))⟩
 refine xG (.bool false) rfl (ex_neq rfl rfl rfl (decide_eq_false hb13)) ?_
 simp only [zP, po]
 refine wK k12 (cF rfl ?_)
 refine kS (tK k11 ?_)
 refine sK fun _ k18 => rL (xF (.pointer (some ⟨b2, 0, none⟩)) rfl (c1fa73_0 _ _ _) ?_)
 refine xL _ rfl (run_load1 c1na24 (hv.load 4 0 rfl rfl)) (xM (.string ⟨l.toArray⟩) rfl ?_)
 simp only [zP, po]
 replace hv := hv.front 2 rfl
 simp only [List.eraseIdx_cons_succ, List.eraseIdx_cons_zero] at hv
 replace hv := hv.front 2 rfl
 simp only [List.eraseIdx_cons_succ, List.eraseIdx_cons_zero] at hv
 refine xC c1callable63 rfl ((viewOf C1 _ _ v t m s p wb va vc sv clk es M l 4 (hM.more hC1) hv).mono ?_) rfl
 rintro e w19 ⟨C2, y2, y2p, y2t, y2z, ey2, hC2, rfl, hy2v, hy2f, hv⟩
 refine ⟨_, rfl, ?_⟩
 obtain ⟨y2pa, y2pc, y2za, y2zc, y2pn, y2zn, y2sa, y2sc, rfl, rfl, rfl, hoky2, hry2⟩ : ∃ pa pc za zc pn zn sa sc, y2p = .slice pa pn pc ∧ y2z = .slice za zn zc ∧ y2t = .slice sa y2.val.texts.length sc ∧ SliceOk sa y2.val.texts.length sc ∧ RdV C2 [] sa (textCells y2.val.texts) := by
  obtain ⟨⟨a1, c1, h1, -⟩, ⟨a2, c2, h2, h3, h4⟩, ⟨a3, c3, h5, -⟩, -⟩ := hy2v
  exact ⟨_, _, _, _, _, _, _, _, h1, h5, h2, h3, h4⟩
 refine xM (.tuple #[.agg #[.int .i64 y2.stamp, .bool y2.gone, .int .i64 y2.expire, .int .i64 y2.val.kind, .string ⟨y2.val.text.toArray⟩, .slice y2pa y2pn y2pc, .slice y2sa y2.val.texts.length y2sc, .slice y2za y2zn y2zc], .int .i64 ey2]) rfl (xG (.agg #[.int .i64 y2.stamp, .bool y2.gone, .int .i64 y2.expire, .int .i64 y2.val.kind, .string ⟨y2.val.text.toArray⟩, .slice y2pa y2pn y2pc, .slice y2sa y2.val.texts.length y2sc, .slice y2za y2zn y2zc]) rfl (ex_extract rfl rfl rfl) ?_)
 simp only [zP, po]
 refine xG (.int .i64 ey2) rfl (ex_extract rfl rfl rfl) (sl_alloc tV (wn rfl) rfl hv c3al85 (fun b20 w21 hv => ?_))
 refine xS 0 rfl hv x0sz85 rfl (by exact ⟨rfl, rfl, rfl, rfl, rfl, rfl, rfl, rfl, trivial⟩) (fun w22 hv => ?_)
 simp only [zO, sp] at hv
 simp only [zP, po]
 refine xA (.int .i64 ey2) rfl ?_
 simp only [zP, po]
 refine wK k18 (sK fun _ k23 => ?_)
 refine sK fun _ k24 => rL (xM (.int .i64 ey2) rfl ?_)
 by_cases hb25 : ey2 ≠ 0
 ·refine xG (.bool true) rfl (ex_neq rfl rfl rfl (decide_eq_true hb25)) ?_
  simp only [zP, po]
  refine wK k24 (cT rfl ?_)
  refine sK fun _ k26 => rL (xM (.int .i64 ey2) rfl ?_)
  refine xC rscallable24 rfl ((viewWrong C2 _ _ ey2 hv).mono ?_) rfl
  rintro e w28 ⟨s27, rfl, hv⟩
  refine ⟨_, rfl, ?_⟩
  refine xS 4 rfl hv rssz28 rfl (by exact ⟨rfl, rfl, rfl, rfl, trivial⟩) (fun w29 hv => ?_)
  simp only [zS, zO, sp] at hv
  simp only [zP, po]
  refine wK k26 (rR ?_)
  refine tR (bodyPost_ret (res_cell1 rfl rfl (run_load_mid (pre := []) (mid := [.int .i64 1, .string ⟨s27.toArray⟩, .int .i64 0, .slice none 0 0]) (post := []) rswd28 (show Blk _ b4 ([] ++ [.int .i64 1, .string ⟨s27.toArray⟩, .int .i64 0, .slice none 0 0] ++ []) _ from hv.get 4 rfl) rfl)) rfl ?_)
  exact ⟨C2, es, M, rFault s27, rpCells 1 s27 0 (.slice none 0 0), (hC1.trans hC2), rfl, rpAt_leaf, hM.more (hC1.trans hC2), hO, ⟨y1, ey1, hy1f, .inr ⟨by omega, y2, ey2, hy2f, .inl ⟨by omega, rfl, rfl⟩⟩⟩, (((hv.front 2 rfl).front 2 rfl).sub (List.Sublist.cons_cons _ (List.Sublist.cons_cons _ (List.Sublist.cons _ (List.Sublist.cons _ (List.Sublist.cons _ (List.Sublist.cons _ (List.Sublist.refl _))))))))⟩
 refine xG (.bool false) rfl (ex_neq rfl rfl rfl (decide_eq_false hb25)) ?_
 simp only [zP, po]
 refine wK k24 (cF rfl ?_)
 refine kS (tK k23 ?_)
 refine sK fun _ k30 => sK fun _ k31 => rL (xM (.string ⟨k.toArray⟩) rfl ?_)
 refine xM (.string ⟨l.toArray⟩) rfl ?_
 by_cases hb32 : k = l
 ·refine xG (.bool true) rfl (ex_seql rfl rfl rfl (decide_eq_true hb32)) ?_
  simp only [zP, po]
  refine xM (.bool true) rfl ?_
  iterate 6 refine yN rfl ?_
  refine xK true (.bool true) rfl ?_
  simp only [zP, po]
  refine wK k31 (cT rfl ?_)
  refine sK fun _ k33 => rL (xF (.pointer (some ⟨b8, 3, none⟩)) rfl (x2fa85_3 _ _ _) ?_)
  refine xF (.pointer (some ⟨b8, 6, none⟩)) rfl (s1fa78_3 _ _ _) (xL _ rfl (run_load1 s1na22 (hv.load 3 6 rfl rfl)) ?_)
  simp only [zP, po]
  refine xM (.string ⟨x.toArray⟩) rfl (xC t3callable67 rfl ((setHas C2 _ _ y1sa y1sc y1.val.texts x (hry1.more hC2 (fun _ h => h)) (by have := (hO.set hy1f).1; omega) (hO.sorted hy1f) hv).mono ?_) rfl)
  rintro e w34 ⟨rfl, hv⟩
  refine ⟨_, rfl, ?_⟩
  refine xC c2callable66 rfl ((csetTruth C2 _ _ (decide (x ∈ y1.val.texts)) hv).mono ?_) rfl
  rintro e w35 ⟨rfl, hv⟩
  refine ⟨_, rfl, ?_⟩
  simp only [zP, po]
  refine xS 4 rfl hv rssz28 rfl (by exact ⟨rfl, rfl, rfl, rfl, trivial⟩) (fun w36 hv => ?_)
  simp only [zS, zO, sp] at hv
  simp only [zP, po]
  refine wK k33 (rR ?_)
  refine tR (bodyPost_ret (res_cell1 rfl rfl (run_load_mid (pre := []) (mid := [.int .i64 2, .string ⟨([] : List UInt8).toArray⟩, .int .i64 (if decide (x ∈ y1.val.texts) then 1 else 0), .slice none 0 0]) (post := []) rswd28 (show Blk _ b4 ([] ++ [.int .i64 2, .string ⟨([] : List UInt8).toArray⟩, .int .i64 (if decide (x ∈ y1.val.texts) then 1 else 0), .slice none 0 0] ++ []) _ from hv.get 4 rfl) rfl)) rfl ?_)
  exact ⟨C2, es, M, rInt (if decide (x ∈ y1.val.texts) then 1 else 0), rpCells 2 [] (if decide (x ∈ y1.val.texts) then 1 else 0) (.slice none 0 0), (hC1.trans hC2), rfl, rpAt_leaf, hM.more (hC1.trans hC2), hO, ⟨y1, ey1, hy1f, .inr ⟨by omega, y2, ey2, hy2f, .inr ⟨by omega, .inl ⟨.inl hb32, rfl, rfl⟩⟩⟩⟩, (((hv.front 2 rfl).front 2 rfl).sub (List.Sublist.cons_cons _ (List.Sublist.cons_cons _ (List.Sublist.cons _ (List.Sublist.cons _ (List.Sublist.cons _ (List.Sublist.cons _ (List.Sublist.refl _))))))))⟩
 refine xG (.bool false) rfl (ex_seql rfl rfl rfl (decide_eq_false hb32)) ?_
 simp only [zP, po]
 refine xM (.bool false) rfl (xF (.pointer (some ⟨b8, 3, none⟩)) rfl (x2fa85_3 _ _ _) ?_)
 refine xF (.pointer (some ⟨b8, 6, none⟩)) rfl (s1fa78_3 _ _ _) ?_
 simp only [zP, po]
 refine xL _ rfl (run_load1 s1na22 (hv.load 3 6 rfl rfl)) (xM (.string ⟨x.toArray⟩) rfl ?_)
 refine xC t3callable67 rfl ((setHas C2 _ _ y1sa y1sc y1.val.texts x (hry1.more hC2 (fun _ h => h)) (by have := (hO.set hy1f).1; omega) (hO.sorted hy1f) hv).mono ?_) rfl
 rintro e w37 ⟨rfl, hv⟩
 refine ⟨_, rfl, ?_⟩
 simp only [zP, po]
 refine xG (.bool (!(decide (x ∈ y1.val.texts)))) rfl (ex_not rfl rfl rfl) (xK false (.bool (!(decide (x ∈ y1.val.texts)))) rfl ?_)
 simp only [zP, po]
 refine wK k31 (wpIn_cond_split (t := !(decide (x ∈ y1.val.texts))) rfl (fun hc38 => ?_) (fun hc38 => ?_))
 ·refine sK fun _ k39 => rL (xF (.pointer (some ⟨b8, 3, none⟩)) rfl (x2fa85_3 _ _ _) ?_)
  refine xF (.pointer (some ⟨b8, 6, none⟩)) rfl (s1fa78_3 _ _ _) (xL _ rfl (run_load1 s1na22 (hv.load 3 6 rfl rfl)) ?_)
  simp only [zP, po]
  refine xM (.string ⟨x.toArray⟩) rfl (xC t3callable67 rfl ((setHas C2 _ _ y1sa y1sc y1.val.texts x (hry1.more hC2 (fun _ h => h)) (by have := (hO.set hy1f).1; omega) (hO.sorted hy1f) hv).mono ?_) rfl)
  rintro e w40 ⟨rfl, hv⟩
  refine ⟨_, rfl, ?_⟩
  refine xC c2callable66 rfl ((csetTruth C2 _ _ (decide (x ∈ y1.val.texts)) hv).mono ?_) rfl
  rintro e w41 ⟨rfl, hv⟩
  refine ⟨_, rfl, ?_⟩
  simp only [zP, po]
  refine xS 4 rfl hv rssz28 rfl (by exact ⟨rfl, rfl, rfl, rfl, trivial⟩) (fun w42 hv => ?_)
  simp only [zS, zO, sp] at hv
  simp only [zP, po]
  refine wK k39 (rR ?_)
  refine tR (bodyPost_ret (res_cell1 rfl rfl (run_load_mid (pre := []) (mid := [.int .i64 2, .string ⟨([] : List UInt8).toArray⟩, .int .i64 (if decide (x ∈ y1.val.texts) then 1 else 0), .slice none 0 0]) (post := []) rswd28 (show Blk _ b4 ([] ++ [.int .i64 2, .string ⟨([] : List UInt8).toArray⟩, .int .i64 (if decide (x ∈ y1.val.texts) then 1 else 0), .slice none 0 0] ++ []) _ from hv.get 4 rfl) rfl)) rfl ?_)
  exact ⟨C2, es, M, rInt (if decide (x ∈ y1.val.texts) then 1 else 0), rpCells 2 [] (if decide (x ∈ y1.val.texts) then 1 else 0) (.slice none 0 0), (hC1.trans hC2), rfl, rpAt_leaf, hM.more (hC1.trans hC2), hO, ⟨y1, ey1, hy1f, .inr ⟨by omega, y2, ey2, hy2f, .inr ⟨by omega, .inl ⟨.inr (by simpa using hc38), rfl, rfl⟩⟩⟩⟩, (((hv.front 2 rfl).front 2 rfl).sub (List.Sublist.cons_cons _ (List.Sublist.cons_cons _ (List.Sublist.cons _ (List.Sublist.cons _ (List.Sublist.cons _ (List.Sublist.cons _ (List.Sublist.refl _))))))))⟩
 refine kS (tK k30 ?_)
 refine sK fun _ k43 => rL (xF (.pointer (some ⟨b20, 3, none⟩)) rfl (x2fa85_3 _ _ _) ?_)
 refine xF (.pointer (some ⟨b20, 6, none⟩)) rfl (s1fa78_3 _ _ _) (xL _ rfl (run_load1 s1na22 (hv.load 0 6 rfl rfl)) ?_)
 simp only [zP, po]
 refine xM (.string ⟨x.toArray⟩) rfl (sl_rowOne (v := .string ⟨x.toArray⟩) tV (wn rfl) rfl rfl hv c3el22 rfl (fun b44 w45 hv => ?_))
 obtain ⟨D1, hD1, hv, hrkD1, -, -⟩ := (hv.cellRow (n := 1) (c := 1) (size := 1) rfl (by decide) (by decide)).rowBy
 have hs2 := (hO.set hy2f).1
 refine xC c1callable64 rfl ((setAdd D1 _ _ y2sa _ y2sc 1 y2.val.texts [x] hoky2 (hry2.more hD1 (fun _ h => h)) (hO.sorted hy2f) (by omega) (ok_full (by simp)) hrkD1 (by simp) hv).mono ?_) rfl
 rintro e w46 ⟨D2, oa, oc, out, n, e3, hD2, rfl, hoko, hro, hadd, hv⟩
 refine ⟨_, rfl, ?_⟩
 have hol : out.length ≤ 1000000 := by
  have h9 := hadd
  rcases h9 with ⟨-, -, rfl, -⟩ | ⟨-, j, -, ⟨-, -, rfl, -⟩ | ⟨-, h9, rfl, -⟩⟩ <;> simp <;> omega
 simp only [zP, po]
 refine xM (.tuple #[.slice oa out.length oc, .int .i64 n, .int .i64 e3]) rfl (xG (.slice oa out.length oc) rfl (ex_extract rfl rfl rfl) ?_)
 refine xG (.int .i64 n) rfl (ex_extract rfl rfl rfl) ?_
 simp only [zP, po]
 refine xG (.int .i64 e3) rfl (ex_extract rfl rfl rfl) (xA (.slice oa out.length oc) rfl ?_)
 refine xA (.int .i64 n) rfl ?_
 simp only [zP, po]
 refine xA (.int .i64 e3) rfl ?_
 simp only [zP, po]
 refine wK k43 (sK fun _ k47 => ?_)
 refine sK fun _ k48 => rL (xM (.int .i64 e3) rfl ?_)
 by_cases hb49 : e3 ≠ 0
 ·refine xG (.bool true) rfl (ex_neq rfl rfl rfl (decide_eq_true hb49)) ?_
  simp only [zP, po]
  refine wK k48 (cT rfl ?_)
  refine sK fun _ k50 => rL (xM (.int .i64 e3) rfl ?_)
  refine xC rscallable24 rfl ((viewWrong D2 _ _ e3 hv).mono ?_) rfl
  rintro e w52 ⟨s51, rfl, hv⟩
  refine ⟨_, rfl, ?_⟩
  refine xS 4 rfl hv rssz28 rfl (by exact ⟨rfl, rfl, rfl, rfl, trivial⟩) (fun w53 hv => ?_)
  simp only [zS, zO, sp] at hv
  simp only [zP, po]
  refine wK k50 (rR ?_)
  refine tR (bodyPost_ret (res_cell1 rfl rfl (run_load_mid (pre := []) (mid := [.int .i64 1, .string ⟨s51.toArray⟩, .int .i64 0, .slice none 0 0]) (post := []) rswd28 (show Blk _ b4 ([] ++ [.int .i64 1, .string ⟨s51.toArray⟩, .int .i64 0, .slice none 0 0] ++ []) _ from hv.get 4 rfl) rfl)) rfl ?_)
  exact ⟨D2, es, M, rFault s51, rpCells 1 s51 0 (.slice none 0 0), (((hC1.trans hC2).trans hD1).trans hD2), rfl, rpAt_leaf, hM.more (((hC1.trans hC2).trans hD1).trans hD2), hO, ⟨y1, ey1, hy1f, .inr ⟨by omega, y2, ey2, hy2f, .inr ⟨by omega, .inr ⟨hb32, by simpa using hc38, out, n, e3, hadd, .inl ⟨by omega, rfl, rfl⟩⟩⟩⟩⟩, (((hv.front 2 rfl).front 2 rfl).sub (List.Sublist.cons_cons _ (List.Sublist.cons_cons _ (List.Sublist.cons _ (List.Sublist.cons _ (List.Sublist.cons _ (List.Sublist.cons _ (List.Sublist.refl _))))))))⟩
 refine xG (.bool false) rfl (ex_neq rfl rfl rfl (decide_eq_false hb49)) ?_
 simp only [zP, po]
 refine wK k48 (cF rfl ?_)
 refine kS (tK k47 ?_)
 refine sK fun _ k54 => sK fun _ k55 => rL (xL (.agg #[.pointer (some ⟨v, 0, none⟩), .slice aa args.length ac]) rfl (run_load_mid (pre := []) (mid := [.pointer (some ⟨v, 0, none⟩), .slice aa args.length ac]) (post := []) c1wd73 (show Blk _ b2 ([] ++ [.pointer (some ⟨v, 0, none⟩), .slice aa args.length ac] ++ []) _ from hv.get 5 rfl) rfl) ?_)
 refine xM (.string ⟨l.toArray⟩) rfl (xL (.agg #[.int .i64 y2.stamp, .bool y2.gone, .int .i64 y2.expire, .int .i64 y2.val.kind, .string ⟨y2.val.text.toArray⟩, .slice y2pa y2pn y2pc, .slice y2sa y2.val.texts.length y2sc, .slice y2za y2zn y2zc]) rfl (run_load_mid (pre := []) (mid := [.int .i64 y2.stamp, .bool y2.gone, .int .i64 y2.expire, .int .i64 y2.val.kind, .string ⟨y2.val.text.toArray⟩, .slice y2pa y2pn y2pc, .slice y2sa y2.val.texts.length y2sc, .slice y2za y2zn y2zc]) (post := []) x0wd85 (show Blk _ b20 ([] ++ [.int .i64 y2.stamp, .bool y2.gone, .int .i64 y2.expire, .int .i64 y2.val.kind, .string ⟨y2.val.text.toArray⟩, .slice y2pa y2pn y2pc, .slice y2sa y2.val.texts.length y2sc, .slice y2za y2zn y2zc] ++ []) _ from hv.get 0 rfl) rfl) ?_)
 simp only [zP, po]
 refine xM (.slice oa out.length oc) rfl ?_
 replace hv := hv.front 2 rfl
 simp only [List.eraseIdx_cons_succ, List.eraseIdx_cons_zero] at hv
 replace hv := hv.front 2 rfl
 simp only [List.eraseIdx_cons_succ, List.eraseIdx_cons_zero] at hv
 refine xC c1callable44 rfl ((csetKeep D2 _ _ v t m s p wb va vc sv clk es M (hM.more (((hC1.trans hC2).trans hD1).trans hD2)) hO aa ac args.length l y2 _ _ _ (hy2v.more (hD1.trans hD2)) oa oc out hro hoko hol hv).mono ?_) rfl
 rintro e w56 ⟨D3, es1, M1, e4, hD3, rfl, hM1, hk1, hv⟩
 refine ⟨_, rfl, ?_⟩
 have hO1 := hO.keep hk1
 refine xA (.int .i64 e4) rfl ?_
 simp only [zP, po]
 refine wK k55 (sK fun _ k57 => ?_)
 refine rL (xM (.int .i64 e4) rfl ?_)
 by_cases hb58 : e4 ≠ 0
 ·refine xG (.bool true) rfl (ex_neq rfl rfl rfl (decide_eq_true hb58)) ?_
  simp only [zP, po]
  refine wK k57 (cT rfl ?_)
  refine sK fun _ k59 => rL (xM (.int .i64 e4) rfl ?_)
  refine xC rscallable24 rfl ((viewWrong D3 _ _ e4 hv).mono ?_) rfl
  rintro e w61 ⟨s60, rfl, hv⟩
  refine ⟨_, rfl, ?_⟩
  refine xS 4 rfl hv rssz28 rfl (by exact ⟨rfl, rfl, rfl, rfl, trivial⟩) (fun w62 hv => ?_)
  simp only [zS, zO, sp] at hv
  simp only [zP, po]
  refine wK k59 (rR ?_)
  refine tR (bodyPost_ret (res_cell1 rfl rfl (run_load_mid (pre := []) (mid := [.int .i64 1, .string ⟨s60.toArray⟩, .int .i64 0, .slice none 0 0]) (post := []) rswd28 (show Blk _ b4 ([] ++ [.int .i64 1, .string ⟨s60.toArray⟩, .int .i64 0, .slice none 0 0] ++ []) _ from hv.get 4 rfl) rfl)) rfl ?_)
  exact ⟨D3, es1, M1, rFault s60, rpCells 1 s60 0 (.slice none 0 0), ((((hC1.trans hC2).trans hD1).trans hD2).trans hD3), rfl, rpAt_leaf, hM1.more (Base.Le.refl _), hO1, ⟨y1, ey1, hy1f, .inr ⟨by omega, y2, ey2, hy2f, .inr ⟨by omega, .inr ⟨hb32, by simpa using hc38, out, n, e3, hadd, .inr ⟨by omega, M1, e4, hk1, .inl ⟨by omega, rfl, rfl⟩⟩⟩⟩⟩⟩, (((hv.front 1 rfl).front 1 rfl).sub (List.Sublist.cons_cons _ (List.Sublist.cons_cons _ (List.Sublist.cons _ (List.Sublist.cons _ (List.Sublist.cons _ (List.Sublist.cons _ (List.Sublist.refl _))))))))⟩
 refine xG (.bool false) rfl (ex_neq rfl rfl rfl (decide_eq_false hb58)) ?_
 simp only [zP, po]
 refine wK k57 (cF rfl ?_)
 refine kS (tK k54 ?_)
 refine sK fun _ k63 => rL (xF (.pointer (some ⟨b8, 3, none⟩)) rfl (x2fa85_3 _ _ _) ?_)
 refine xF (.pointer (some ⟨b8, 6, none⟩)) rfl (s1fa78_3 _ _ _) (xL _ rfl (run_load1 s1na22 (hv.load 3 6 rfl rfl)) ?_)
 simp only [zP, po]
 refine xM (.string ⟨x.toArray⟩) rfl (sl_rowOne (v := .string ⟨x.toArray⟩) tV (wn rfl) rfl rfl hv c3el22 rfl (fun b64 w65 hv => ?_))
 obtain ⟨D4, hD4, hv, hrkD4, -, -⟩ := (hv.cellRow (n := 1) (c := 1) (size := 1) rfl (by decide) (by decide)).rowBy
 have hs1 := (hO.set hy1f).1
 refine xC c1callable65 rfl ((setDel D4 _ _ y1sa y1sc y1.val.texts (hry1.more ((((hC2.trans hD1).trans hD2).trans hD3).trans hD4) (fun _ h => h)) (by omega) _ 1 [x] (ok_full (by simp)) hrkD4 (by simp) hv).mono ?_) rfl
 rintro e w66 ⟨D5, la, lc, lft, hD5, rfl, hokl, hrl, hdel, hv⟩
 refine ⟨_, rfl, ?_⟩
 have hll : lft.length ≤ 1000000 := by
  have h9 : lft.length ≤ y1.val.texts.length := by rw [hdel]; exact List.length_filter_le _ _
  omega
 simp only [zP, po]
 refine xM (.tuple #[.slice la lft.length lc, .int .i64 ((y1.val.texts.length : Int) - (lft.length : Int))]) rfl (xG (.slice la lft.length lc) rfl (ex_extract rfl rfl rfl) ?_)
 refine xG (.int .i64 ((y1.val.texts.length : Int) - (lft.length : Int))) rfl (ex_extract rfl rfl rfl) ?_
 simp only [zP, po]
 refine xA (.slice la lft.length lc) rfl (xA (.int .i64 ((y1.val.texts.length : Int) - (lft.length : Int))) rfl ?_)
 simp only [zP, po]
 refine wK k63 (sK fun _ k67 => ?_)
 refine rL (xL (.agg #[.pointer (some ⟨v, 0, none⟩), .slice aa args.length ac]) rfl (run_load_mid (pre := []) (mid := [.pointer (some ⟨v, 0, none⟩), .slice aa args.length ac]) (post := []) c1wd73 (show Blk _ b2 ([] ++ [.pointer (some ⟨v, 0, none⟩), .slice aa args.length ac] ++ []) _ from hv.get 5 rfl) rfl) ?_)
 refine xM (.string ⟨k.toArray⟩) rfl (xL (.agg #[.int .i64 y1.stamp, .bool y1.gone, .int .i64 y1.expire, .int .i64 y1.val.kind, .string ⟨y1.val.text.toArray⟩, .slice y1pa y1pn y1pc, .slice y1sa y1.val.texts.length y1sc, .slice y1za y1zn y1zc]) rfl (run_load_mid (pre := []) (mid := [.int .i64 y1.stamp, .bool y1.gone, .int .i64 y1.expire, .int .i64 y1.val.kind, .string ⟨y1.val.text.toArray⟩, .slice y1pa y1pn y1pc, .slice y1sa y1.val.texts.length y1sc, .slice y1za y1zn y1zc]) (post := []) x0wd85 (show Blk _ b8 ([] ++ [.int .i64 y1.stamp, .bool y1.gone, .int .i64 y1.expire, .int .i64 y1.val.kind, .string ⟨y1.val.text.toArray⟩, .slice y1pa y1pn y1pc, .slice y1sa y1.val.texts.length y1sc, .slice y1za y1zn y1zc] ++ []) _ from hv.get 3 rfl) rfl) ?_)
 simp only [zP, po]
 refine xM (.slice la lft.length lc) rfl ?_
 replace hv := hv.front 1 rfl
 simp only [List.eraseIdx_cons_succ, List.eraseIdx_cons_zero] at hv
 replace hv := hv.front 1 rfl
 simp only [List.eraseIdx_cons_succ, List.eraseIdx_cons_zero] at hv
 refine xC c1callable44 rfl ((csetKeep D5 _ _ v t m s p wb va vc sv clk es1 M1 (hM1.more (hD4.trans hD5)) hO1 aa ac args.length k y1 _ _ _ (hy1v.more (((((hC2.trans hD1).trans hD2).trans hD3).trans hD4).trans hD5)) la lc lft hrl hokl hll hv).mono ?_) rfl
 rintro e w68 ⟨D6, es2, M2, e5, hD6, rfl, hM2, hk2, hv⟩
 refine ⟨_, rfl, ?_⟩
 refine xC c1callable45 rfl ((respInt D6 _ _ 1 hv).mono ?_) rfl
 rintro e w69 ⟨rfl, hv⟩
 refine ⟨_, rfl, ?_⟩
 simp only [zP, po]
 refine xC c1callable42 rfl ((viewDone D6 _ _ e5 2 1 ([] : List UInt8) (.slice none 0 0) rfl rfl hv).mono ?_) rfl
 rintro e w70 ⟨xr, hxr, rfl, hv⟩
 refine ⟨_, rfl, ?_⟩
 rcases hxr with ⟨hec0, rfl⟩ | ⟨hec0, s71, rfl⟩
 ·refine xS 4 rfl hv rssz28 rfl (by exact ⟨rfl, rfl, rfl, rfl, trivial⟩) (fun w72 hv => ?_)
  simp only [zS, zO, sp] at hv
  simp only [zP, po]
  refine wK k67 (rR ?_)
  refine bodyPost_ret (res_cell1 rfl rfl (run_load_mid (pre := []) (mid := [.int .i64 2, .string ⟨([] : List UInt8).toArray⟩, .int .i64 1, .slice none 0 0]) (post := []) rswd28 (show Blk _ b4 ([] ++ [.int .i64 2, .string ⟨([] : List UInt8).toArray⟩, .int .i64 1, .slice none 0 0] ++ []) _ from hv.get 4 rfl) rfl)) rfl ?_
  rw [hdel] at hk2
  exact ⟨D6, es2, M2, rInt 1, rpCells 2 [] 1 (.slice none 0 0), (((((((hC1.trans hC2).trans hD1).trans hD2).trans hD3).trans hD4).trans hD5).trans hD6), rfl, rpAt_leaf, hM2.more (Base.Le.refl _), hO1.keep hk2, ⟨y1, ey1, hy1f, .inr ⟨by omega, y2, ey2, hy2f, .inr ⟨by omega, .inr ⟨hb32, by simpa using hc38, out, n, e3, hadd, .inr ⟨by omega, M1, e4, hk1, .inr ⟨by omega, e5, hk2, .inl ⟨by omega, rfl⟩⟩⟩⟩⟩⟩⟩, (((hv.front 1 rfl).front 1 rfl).sub (List.Sublist.cons_cons _ (List.Sublist.cons_cons _ (List.Sublist.cons _ (List.Sublist.cons _ (List.Sublist.cons _ (List.Sublist.cons _ (List.Sublist.refl _))))))))⟩
 refine xS 4 rfl hv rssz28 rfl (by exact ⟨rfl, rfl, rfl, rfl, trivial⟩) (fun w73 hv => ?_)
 simp only [zS, zO, sp] at hv
 simp only [zP, po]
 refine wK k67 (rR ?_)
 refine bodyPost_ret (res_cell1 rfl rfl (run_load_mid (pre := []) (mid := [.int .i64 1, .string ⟨s71.toArray⟩, .int .i64 0, .slice none 0 0]) (post := []) rswd28 (show Blk _ b4 ([] ++ [.int .i64 1, .string ⟨s71.toArray⟩, .int .i64 0, .slice none 0 0] ++ []) _ from hv.get 4 rfl) rfl)) rfl ?_
 rw [hdel] at hk2
 exact ⟨D6, es2, M2, rFault s71, rpCells 1 s71 0 (.slice none 0 0), (((((((hC1.trans hC2).trans hD1).trans hD2).trans hD3).trans hD4).trans hD5).trans hD6), rfl, rpAt_leaf, hM2.more (Base.Le.refl _), hO1.keep hk2, ⟨y1, ey1, hy1f, .inr ⟨by omega, y2, ey2, hy2f, .inr ⟨by omega, .inr ⟨hb32, by simpa using hc38, out, n, e3, hadd, .inr ⟨by omega, M1, e4, hk1, .inr ⟨by omega, e5, hk2, .inr ⟨by omega, rfl⟩⟩⟩⟩⟩⟩⟩, (((hv.front 1 rfl).front 1 rfl).sub (List.Sublist.cons_cons _ (List.Sublist.cons_cons _ (List.Sublist.cons _ (List.Sublist.cons _ (List.Sublist.cons _ (List.Sublist.cons _ (List.Sublist.refl _))))))))⟩
end Go.Proofs.YtoljdfjnannakaaGreatDoor
/- The order of texts, octet by octet. -/
namespace Go.Pm
open Go.RowKit
section
variable {P : Program} {a : Act} {w : World} {o : Oper} {t : TypeId} {x y : Operand} {l : List UInt8}
theorem ex_sidx0 {i : Nat} {c : UInt8} (ht : P.underlying t = some .string) (ho : o.op = .index t x y) (hx : a.eval x = .string ⟨l.toArray⟩) (hy : a.eval y = .int .i64 (i : Int)) (hc : l[i]? = some c) : Ex P a o w (.int .u8 (c.toNat : Int)) w := by
 obtain ⟨hi, rfl⟩ := List.getElem?_eq_some_iff.1 hc
 have h := run_index_string (P := P) w t ⟨l.toArray⟩ .i64 (i : Int) ht
 rw [dif_pos ⟨by omega, by show (i : Int) < (l.length : Int); omega⟩] at h
 have e : (⟨l.toArray⟩ : ByteArray)[((i : Int)).toNat]'(by show ((i : Int)).toNat < l.length; omega) = l[i] := rfl
 rw [e] at h
 unfold Ex
 simp [execOp, ho, hx, hy, h]
end
section
variable {a b : List UInt8} {i : Nat}
end
end Go.Pm
/- view.Is. -/
namespace Go.Proofs.YtoljdfjnannakaaGreatDoor
open Go.RowKit Go.Pm
def lowZ (n : Int) : Int := if 65 ≤ n ∧ n ≤ 90 then n + 32 else n
def SameC (x arg : List UInt8) : Prop := x.length = arg.length ∧ ∀ (k : Nat) (a b : UInt8), x[k]? = some a → arg[k]? = some b → lowZ (a.toNat : Int) = lowZ (b.toNat : Int)
def IsI (arg : List UInt8) (ws : List (List UInt8)) (r : Int) : Prop := (r = -1 ∧ ∀ x ∈ ws, ¬ SameC x arg) ∨ ∃ (i : Nat) (x : List UInt8), r = (i : Int) ∧ ws[i]? = some x ∧ SameC x arg ∧ ∀ (j : Nat) y, j < i → ws[j]? = some y → ¬ SameC y arg
set_option maxHeartbeats 2000000 in
theorem viewLow (B : Base) (H : List Res) (w : World) (n : Int) (h0 : 0 ≤ n) (h1 : n ≤ 255) (hv : Inv B H w) :
  Calls Tryz.prog 96 #[.int .u8 n] w fun e w' => e = .returned (.int .u8 (lowZ n)) ∧ Inv B H w' := by
 refine cW Tryz.func96 rfl Tryz.ntmps96 ?_
 simp only [al]
 refine sK fun _ k1 => rL (xA (.int .u8 0) rfl ?_)
 simp only [zP, po]
 refine wK k1 (sK fun _ k2 => ?_)
 refine sK fun _ k3 => rL (xM (.int .u8 n) rfl ?_)
 by_cases hb4 : 65 ≤ n
 ·refine xG (.bool true) rfl (ex_leq rfl rfl rfl (decide_eq_true hb4)) (xM (.bool true) rfl ?_)
  simp only [zP, po]
  refine xM (.int .u8 n) rfl ?_
  by_cases hb5 : n ≤ 90
  ·refine xG (.bool true) rfl (ex_leq rfl rfl rfl (decide_eq_true hb5)) (xK true (.bool true) rfl ?_)
   simp only [zP, po]
   refine wK k3 (cT rfl ?_)
   refine sK fun _ k6 => rL (xM (.int .u8 n) rfl ?_)
   refine xG (.int .u8 (n + 97)) rfl (ex_add rfl rfl rfl (u8_in (by omega))) (xG (.int .u8 (n + 32)) rfl (ex_sub rfl rfl rfl (by rw [u8_in (by omega)]; omega)) ?_)
   simp only [zP, po]
   refine xA (.int .u8 (n + 32)) rfl ?_
   simp only [zP, po]
   refine wK k6 (rR ?_)
   refine tR (bR rfl rfl ?_)
   exact ⟨congrArg (fun n : Int => Ending.returned (Value.int .u8 n)) (by unfold lowZ; split <;> omega), hv⟩
  refine xG (.bool false) rfl (ex_leq rfl rfl rfl (decide_eq_false hb5)) (xK true (.bool false) rfl ?_)
  simp only [zP, po]
  refine wK k3 (cF rfl ?_)
  refine kS (tK k2 ?_)
  refine sK fun _ k7 => rL (xM (.int .u8 n) rfl ?_)
  refine xA (.int .u8 n) rfl ?_
  simp only [zP, po]
  refine wK k7 (rR ?_)
  refine bR rfl rfl (⟨congrArg (fun n : Int => Ending.returned (Value.int .u8 n)) (by unfold lowZ; split <;> omega), hv⟩)
 refine xG (.bool false) rfl (ex_leq rfl rfl rfl (decide_eq_false hb4)) (xM (.bool false) rfl ?_)
 simp only [zP, po]
 iterate 2 refine yN rfl ?_
 refine xK false (.bool false) rfl ?_
 simp only [zP, po]
 refine wK k3 (cF rfl ?_)
 refine kS (tK k2 ?_)
 refine sK fun _ k8 => rL (xM (.int .u8 n) rfl ?_)
 refine xA (.int .u8 n) rfl ?_
 simp only [zP, po]
 refine wK k8 (rR ?_)
 refine bR rfl rfl (⟨congrArg (fun n : Int => Ending.returned (Value.int .u8 n)) (by unfold lowZ; split <;> omega), hv⟩)
theorem v5callable96 : Callable Tryz.prog 96 := ⟨_, Tryz.func96, by kernel_rfl, by kernel_rfl⟩
set_option maxHeartbeats 4000000 in
theorem viewIs (B : Base) (H : List Res) (w : World) (arg : List UInt8) (ka : Option Addr) (kc : Nat) (ws : List (List UInt8)) (hr : RdV B [] ka (textCells ws)) (hm : ws.length ≤ 1000000) (hma : arg.length ≤ 9223372036854775807) (hv : Inv B H w) :
  Calls Tryz.prog 75 #[.string ⟨arg.toArray⟩, .slice ka ws.length kc] w fun e w' => ∃ r : Int, e = .returned (.int .i64 r) ∧ IsI arg ws r ∧ Inv B H w' := by
 refine cW Tryz.func75 rfl Tryz.ntmps75 ?_
 simp only [al]
 refine sK fun _ k1 => rL (xA (.int .i64 0) rfl ?_)
 simp only [zP, po]
 refine wK k1 (wpIn_scopeW ?_)
 refine sK fun _ k2 => wpIn_label (tK k2 ?_)
 refine sK fun _ k3 => sK fun _ k4 => rL (xM (.slice ka ws.length kc) rfl ?_)
 refine xG (.int .i64 (ws.length : Int)) rfl (ex_len0 Tryz.underlying22 rfl rfl) (xM (.int .i64 0) rfl ?_)
 simp only [zP, po]
 refine wK k4 (bB ?_)
 gi_loopw [10] (fun x10 wr => ∃ (i : Nat), x10 = .int .i64 (i : Int) ∧ i ≤ ws.length ∧ (∀ (j : Nat) y, j < i → ws[j]? = some y → ¬ SameC y arg) ∧ Inv B H wr) (fun x10 _ => ws.length - (intOf x10).toNat)
 case atStart => exact ⟨0, rfl, Nat.zero_le _, fun j y h => by omega, hv⟩
 case round =>
  obtain ⟨i, rfl, hi, hno, hv⟩ := hrel
  refine sK fun _ k6 => rL ?_
  by_cases hb7 : (i : Int) < (ws.length : Int)
  ·refine xG (.bool true) rfl (ex_lss rfl rfl rfl (decide_eq_true hb7)) ?_
   simp only [zP, po]
   refine wK k6 (sK fun _ k8 => ?_)
   refine cT rfl (kS ?_)
   refine tK k8 (sK fun _ k9 => ?_)
   refine bB (sK fun _ k10 => ?_)
   obtain ⟨x, hx⟩ : ∃ x, ws[i]? = some x := ⟨_, List.getElem?_eq_getElem (show i < ws.length by omega)⟩
   obtain ⟨bb, bo, had, hrdx⟩ := text_reads hr hx
   subst had
   refine rL (xM (.int .i64 (i : Int)) rfl ?_)
   refine xG (.pointer (some ⟨bb, bo + i, none⟩)) rfl (ex_index rfl rfl rfl (run_idx1 (k := i) Tryz.underlying22 s9es22 (by omega))) (xL _ rfl (run_load1 s9na9 (hrdx _ _ _ (Base.Le.refl _) no_res hv 0 _ rfl)) ?_)
   simp only [zP, po]
   refine xA (.int .i64 (i : Int)) rfl (xA (.string ⟨x.toArray⟩) rfl ?_)
   simp only [zP, po]
   refine wK k10 (sK fun _ k11 => ?_)
   refine sK fun _ k12 => rL (xM (.string ⟨x.toArray⟩) rfl ?_)
   refine xG (.int .i64 (x.length : Int)) rfl (ex_lenStr Tryz.underlying9 rfl rfl) (xM (.string ⟨arg.toArray⟩) rfl ?_)
   simp only [zP, po]
   refine xG (.int .i64 (arg.length : Int)) rfl (ex_lenStr Tryz.underlying9 rfl rfl) ?_
   by_cases hb13 : (x.length : Int) ≠ (arg.length : Int)
   ·refine xG (.bool true) rfl (ex_neq rfl rfl rfl (decide_eq_true hb13)) ?_
    simp only [zP, po]
    refine wK k12 (cT rfl ?_)
    refine xE (tX ?_)
    refine bH (tK k9 ?_)
    refine rL (xG (.int .i64 ((i + 1 : Nat) : Int)) rfl (ex_add rfl rfl rfl (by rw [i64_in (by omega)]; omega)) ?_)
    refine xM (.int .i64 ((i + 1 : Nat) : Int)) rfl (wL ?_)
    simp only [zP, po]
    refine then_normal ?_
    go_roundw
    case rel => exact ⟨i + 1, rfl, by omega, fun j9 y9 hj9 hy9 => (by
       rcases Nat.lt_or_ge j9 i with h | h
       ·exact hno j9 y9 h hy9
       obtain rfl : j9 = i := by omega
       rw [hx] at hy9; cases hy9
       exact fun h => by have h9 := h.1; omega), hv⟩
    case measure => show ws.length - (((i + 1 : Nat) : Int)).toNat < ws.length - ((i : Int)).toNat; omega
   refine xG (.bool false) rfl (ex_neq rfl rfl rfl (decide_eq_false hb13)) ?_
   simp only [zP, po]
   refine wK k12 (cF rfl ?_)
   refine kS (tK k11 ?_)
   refine sK fun _ k14 => sK fun _ k15 => rL (xM (.string ⟨x.toArray⟩) rfl ?_)
   refine xG (.int .i64 (x.length : Int)) rfl (ex_lenStr Tryz.underlying9 rfl rfl) (xM (.int .i64 0) rfl ?_)
   simp only [zP, po]
   refine wK k15 (bB ?_)
   gi_loopw [22] (fun x22 wr => ∃ (j : Nat), x22 = .int .i64 (j : Int) ∧ j ≤ x.length ∧ (∀ (k : Nat) (a b : UInt8), k < j → x[k]? = some a → arg[k]? = some b → lowZ (a.toNat : Int) = lowZ (b.toNat : Int)) ∧ Inv B H wr) (fun x22 _ => x.length - (intOf x22).toNat)
   case atStart => exact ⟨0, rfl, Nat.zero_le _, fun k a b h => by omega, hv⟩
   case round =>
    obtain ⟨j, rfl, hj, heq, hv⟩ := hrel
    refine sK fun _ k17 => rL ?_
    by_cases hb18 : (j : Int) < (x.length : Int)
    ·refine xG (.bool true) rfl (ex_lss rfl rfl rfl (decide_eq_true hb18)) ?_
     simp only [zP, po]
     refine wK k17 (sK fun _ k19 => ?_)
     refine cT rfl (kS ?_)
     refine tK k19 (sK fun _ k20 => ?_)
     refine bB (sK fun _ k21 => ?_)
     refine rL (xM (.int .i64 (j : Int)) rfl ?_)
     refine xA (.int .i64 (j : Int)) rfl ?_
     simp only [zP, po]
     refine wK k21 (sK fun _ k22 => ?_)
     obtain ⟨a, ha⟩ : ∃ y, x[j]? = some y := ⟨_, List.getElem?_eq_getElem (show j < x.length by omega)⟩
     obtain ⟨b, hb⟩ : ∃ y, arg[j]? = some y := ⟨_, List.getElem?_eq_getElem (show j < arg.length by omega)⟩
     refine rW mixed [3, 7] [0,1,2,4,5,6,3,7,8] 37 rfl (by kernel_rfl) hv ?_
     simp only [qm, opAt]
     refine dM (.string ⟨x.toArray⟩) rfl (dM (.int .i64 (j : Int)) rfl ?_)
     refine dG (.int .u8 (a.toNat : Int)) rfl (ex_sidx0 Tryz.underlying9 rfl rfl rfl ha) ?_
     simp only [zP, po]
     refine dM (.string ⟨arg.toArray⟩) rfl (dM (.int .i64 (j : Int)) rfl ?_)
     refine dG (.int .u8 (b.toNat : Int)) rfl (ex_sidx0 Tryz.underlying9 rfl rfl rfl hb) ?_
     simp only [zP, po]
     refine dS rfl fun w23 hv => mC v5callable96 rfl ((viewLow B _ _ (a.toNat : Int) (by omega) (by have := a.toNat_lt; omega) hv).mono ?_) rfl
     rintro e w24 ⟨rfl, hv⟩
     refine ⟨_, rfl, dW hv ?_⟩
     refine dS rfl fun w25 hv => mC v5callable96 rfl ((viewLow B _ _ (b.toNat : Int) (by omega) (by have := b.toNat_lt; omega) hv).mono ?_) rfl
     rintro e w26 ⟨rfl, hv⟩
     refine ⟨_, rfl, dW hv ?_⟩
     by_cases hb27 : (lowZ (a.toNat : Int)) ≠ (lowZ (b.toNat : Int))
     ·refine dG (.bool true) rfl (ex_neq rfl rfl rfl (decide_eq_true hb27)) (dE fun w28 hv => ?_)
      simp only [zP, po]
      refine tK k22 (cT rfl ?_)
      refine xE (bM rfl ?_)
      refine tX (tX ?_)
      refine bM rfl (tX ?_)
      refine bH (tK k9 ?_)
      refine rL (xG (.int .i64 ((i + 1 : Nat) : Int)) rfl (ex_add rfl rfl rfl (by rw [i64_in (by omega)]; omega)) ?_)
      refine xM (.int .i64 ((i + 1 : Nat) : Int)) rfl (wL ?_)
      simp only [zP, po]
      refine then_normal ?_
      go_roundw
      case rel => exact ⟨i + 1, rfl, by omega, fun j9 y9 hj9 hy9 => (by
         rcases Nat.lt_or_ge j9 i with h | h
         ·exact hno j9 y9 h hy9
         obtain rfl : j9 = i := by omega
         rw [hx] at hy9; cases hy9
         exact fun h => hb27 (h.2 j a b ha hb)), hv⟩
      case measure => show ws.length - (((i + 1 : Nat) : Int)).toNat < ws.length - ((i : Int)).toNat; omega
     refine dG (.bool false) rfl (ex_neq rfl rfl rfl (decide_eq_false hb27)) (dE fun w29 hv => ?_)
     simp only [zP, po]
     refine tK k22 (cF rfl ?_)
     refine kS (bN ?_)
     refine tK k20 (rL ?_)
     refine xG (.int .i64 ((j + 1 : Nat) : Int)) rfl (ex_add rfl rfl rfl (by rw [i64_in (by omega)]; omega)) (xM (.int .i64 ((j + 1 : Nat) : Int)) rfl ?_)
     refine wL ?_
     simp only [zP, po]
     refine then_normal ?_
     go_roundw
     case rel => exact ⟨j + 1, rfl, by omega, fun k9 a9 b9 hk9 ha9 hb9 => (by
        rcases Nat.lt_or_ge k9 j with h | h
        ·exact heq k9 a9 b9 h ha9 hb9
        obtain rfl : k9 = j := by omega
        rw [ha] at ha9; cases ha9
        rw [hb] at hb9; cases hb9
        omega), hv⟩
     case measure => show x.length - (((j + 1 : Nat) : Int)).toNat < x.length - ((j : Int)).toNat; omega
    refine xG (.bool false) rfl (ex_lss rfl rfl rfl (decide_eq_false hb18)) ?_
    simp only [zP, po]
    refine wK k17 (sK fun _ k30 => ?_)
    refine cF rfl (xE ?_)
    refine tX (tX ?_)
    refine bH (tK k14 ?_)
    refine sK fun _ k31 => rL (xM (.int .i64 (i : Int)) rfl ?_)
    refine xA (.int .i64 (i : Int)) rfl ?_
    simp only [zP, po]
    refine wK k31 (rR ?_)
    refine bZ (tR ?_)
    refine tR (bZ ?_)
    refine tR (scope_ret ?_)
    refine bR rfl rfl (⟨_, rfl, .inr ⟨i, x, rfl, hx, ⟨by omega, fun k9 a9 b9 ha9 hb9 => heq k9 a9 b9 (by have := (List.getElem?_eq_some_iff.1 ha9).1; omega) ha9 hb9⟩, hno⟩, hv⟩)
  refine xG (.bool false) rfl (ex_lss rfl rfl rfl (decide_eq_false hb7)) ?_
  simp only [zP, po]
  refine wK k6 (sK fun _ k32 => ?_)
  refine cF rfl (xE ?_)
  refine tX (tX ?_)
  refine bH (tK k3 ?_)
  refine sK fun _ k33 => rL (xA (.int .i64 (-1)) rfl ?_)
  simp only [zP, po]
  refine wK k33 (rR ?_)
  refine scope_ret (bR rfl rfl ?_)
  obtain rfl : i = ws.length := by omega
  exact ⟨_, rfl, .inl ⟨rfl, fun y hy => (by obtain ⟨j9, hj9⟩ := List.mem_iff_getElem?.1 hy; exact hno j9 y (List.getElem?_eq_some_iff.1 hj9).1 hj9)⟩, hv⟩
end Go.Proofs.YtoljdfjnannakaaGreatDoor
