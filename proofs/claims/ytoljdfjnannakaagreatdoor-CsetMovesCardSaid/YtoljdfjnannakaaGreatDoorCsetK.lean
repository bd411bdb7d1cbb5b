/- Law 24: awake. -/
import Derived.Test.YtoljdfjnannakaaGreatDoorCsetB
import Derived.Test.YtoljdfjnannakaaGreatDoorCsetJ
import Derived.Test.YtoljdfjnannakaaGreatDoorRows
import Derived.Laws.StructEq
import Derived.Lib.LaidTab
import Derived.LaidSub
import Derived.Lib.ItoaNum
import Derived.Deep.LoopGhost
import Derived.Test.YtoljdfjnannakaaGreatDoorCsetG
import Derived.Lib.ParseIntBTie
set_option maxRecDepth 100000
namespace Go.Proofs.YtoljdfjnannakaaGreatDoor
open Go.RowKit Go.Pm
theorem rp_int {B : Base} {n : Int} {cs : List Value} (h : RpAt B (rInt n) cs) : ∃ v, cs = rpCells 2 [] n v := by
 simp only [rInt, RpAt] at h
 obtain ⟨v, xs, h1, -⟩ := h
 exact ⟨v, h1⟩
theorem rp_strs {B : Base} {l : List (List UInt8)} {cs : List Value} (h : RpAt B (rStrs l) cs) : ∃ a c, cs = rpCells 5 [] 0 (.slice a l.length c) := by
 simp only [rStrs, rList, RpAt] at h
 obtain ⟨v, xs, h1, ⟨a, c, rfl, -⟩, -⟩ := h
 exact ⟨a, c, by rw [h1, List.length_map]⟩
theorem vmNil (B : Base) : VM B [] [] := trivial
theorem all0 {p : List UInt8 → Prop} : ∀ x ∈ ([] : List (List UInt8)), p x := fun _ h => by cases h
theorem all1 {p : List UInt8 → Prop} {a : List UInt8} {l : List (List UInt8)} (h : p a) (t : ∀ x ∈ l, p x) : ∀ x ∈ a :: l, p x := fun x hx => (List.mem_cons.1 hx).elim (fun e => e ▸ h) (t x)
section
variable {M M' : List (List UInt8 × Ver)} {f : List UInt8 → List (List UInt8)} {k a b : List UInt8} {r : Rp}
theorem setF_ne {s : List (List UInt8)} {k' : List UInt8} (h : k ≠ k') : setF f k s k' = f k' := if_neg h
theorem setF_eq {s : List (List UInt8)} : setF f k s k = s := if_pos rfl
theorem add_new {L : List (List UInt8)} (hL : SortedT L) (h1 : L.length ≤ 100) (h2 : ∀ x ∈ L, x.length ≤ 300) (hf : f k = []) : ∀ out n e, AddR (f k) L out n e → e = 0 ∧ JoinS (f k) L out ∧ n = (out.length : Int) - (f k).length ∧ SetOk out ∧ (¬ 0 < n → out = f k) := fun out n e ha => by
 rw [hf] at ha ⊢
 have same : ∀ j, JoinS [] L j → j = L := fun j hj => sorted_ext hj.1 hL fun z => by rw [hj.2]; simp
 rcases ha with ⟨-, -, -, z, h3, h4⟩ | ⟨-, j, hj, ⟨-, -, -, h3⟩ | ⟨h3, -, rfl, h4⟩⟩
 ·have := h2 z h3; omega
 ·rw [same j hj] at h3; omega
 have e9 := same _ hj
 refine ⟨h3, hj, h4, by rw [e9]; exact ok_of_bnd hL (by omega) h2, fun h9 => List.eq_nil_of_length_eq_zero ?_⟩
 simp only [List.length_nil] at h4
 omega
theorem cmd_adds (h : SeesS M f) (hk : k.length ≤ 256) {L : List (List UInt8)} (hL : SortedT L) (h1 : L.length ≤ 100) (h2 : ∀ x ∈ L, x.length ≤ 300) (hf : f k = []) (hnb : ¬ CountBad nSADD (k :: L).length) (hd : DoX M nSADD (k :: L) M' r) : SeesS M' (setF f k L) ∧ r = rInt (L.length : Int) := by
 have hd := no_bad hd hnb
 rcases hd with ⟨-, k', e1, h3⟩ | ⟨hn, -⟩ | ⟨hn, -⟩ | ⟨hn, -⟩ | ⟨hn, -⟩ | ⟨hn, -⟩
 ·cases e1
  obtain ⟨s, h4, h5, h6⟩ := change_of h hk h3 (add_new hL h1 h2 hf)
  rw [hf] at h5 h6
  have e2 : s = L := sorted_ext h5.1 hL fun z => by rw [h5.2]; simp
  subst e2
  exact ⟨h4, by rw [h6]; congr 1⟩
 all_goals exact absurd hn (by decide)
theorem cmd_diff (h : SeesS M f) (hd : DoX M nSDIFF [a, b] M' r) : M' = M ∧ r = rStrs (diffS (f a) [f b]) := by
 have hd := no_bad hd (bad_no rfl)
 rcases hd with ⟨hn, -⟩ | ⟨hn, -⟩ | ⟨-, hM, out, ec, ⟨ss, e1, hs, h2⟩, hd⟩ | ⟨hn, -⟩ | ⟨hn, -⟩ | ⟨hn, -⟩
 rotate_left 2
 ·obtain ⟨rfl, rfl⟩ := sets_two h hs
  rcases h2 with ⟨h2, -⟩ | ⟨-, ⟨-, rfl, q, hq, ho⟩ | ⟨h2, -⟩ | ⟨h2, -⟩⟩
  ·exact absurd rfl h2
  ·cases hq
   exact ⟨hM, by rw [doneR0 hd rfl, ho]; rfl⟩
  ·exact absurd rfl h2
  exact absurd rfl h2
 all_goals exact absurd hn (by decide)
theorem BndS.mono {n m : Nat} (h : BndS f n) (hm : n ≤ m) : BndS f m := fun k => ⟨Nat.le_trans (h k).1 hm, (h k).2⟩
theorem BndS.add {n : Nat} {s : List (List UInt8)} {x : List UInt8} (h : BndS f n) (hs : SortedT (f k)) (hj : JoinS (f k) [x] s) (hx : x.length ≤ 300) : BndS (setF f k s) (n + 1) :=
 (h.mono (Nat.le_succ n)).set (by have := join_len hs hj; have := (h k).1; omega) (join_short hj (h k).2 hx)
end
def wAw : List (List UInt8) := [[120], [121], [122]]
theorem wAw_sorted : SortedT wAw := by unfold SortedT wAw; decide
theorem w1_sorted : SortedT [[121]] := by unfold SortedT; decide
theorem w_diff : diffS wAw [[[121]]] = [[120], [122]] := by decide
theorem c8callable7 : Callable Tryz.prog 7 := ⟨_, Tryz.func7, by kernel_rfl, by kernel_rfl⟩
theorem c8al28 (w : World) : (Instr.alloc 28 true (.tuple #[])).run Tryz.prog w = .ok (.pointer (some ⟨w.heap.size, 0, none⟩)) (w.alloc (.cells ([.int .i64 0, .string ⟨([] : List UInt8).toArray⟩, .int .i64 0, .slice none 0 0] : List Value).toArray 28)) := by kernel_rfl
theorem c8callable17 : Callable Tryz.prog 17 := ⟨_, Tryz.func17, by kernel_rfl, by kernel_rfl⟩
set_option maxHeartbeats 8000000 in
theorem lawAwake24 (B : Base) (H : List Res) (w : World) (hN : NumB B) (hv : Inv B H w) :
  Calls Tryz.prog 6 #[] w fun e w' => e = .returned (.bool true) ∧ Inv B H w' := by
 refine cW Tryz.func6 rfl Tryz.ntmps6 ?_
 simp only [al]
 refine sK fun _ k1 => rL (xA (.bool false) rfl ?_)
 simp only [zP, po]
 refine wK k1 (sK fun _ k2 => ?_)
 refine rL (xC c8callable7 rfl ((lawOpened24 B _ _ 0 (by omega) (by omega) hv).mono ?_) rfl)
 rintro e w3 ⟨v, t, m, s, p, wb, va, vc, sv, rfl, hv⟩
 refine ⟨_, rfl, ?_⟩
 refine xA (.pointer (some ⟨v, 0, none⟩)) rfl ?_
 simp only [zP, po]
 refine wK k2 (sK fun _ k4 => ?_)
 refine sK fun _ k5 => rL (xM (.pointer (some ⟨v, 0, none⟩)) rfl ?_)
 refine xG (.bool false) rfl (ex_pisnil Tryz.underlying24 rfl rfl rfl rfl) ?_
 simp only [zP, po]
 refine wK k5 (cF rfl ?_)
 refine kS (tK k4 ?_)
 refine sK fun _ k6 => rL (xM (.pointer (some ⟨v, 0, none⟩)) rfl ?_)
 refine sl_rowN (pv := #[(0, .string ⟨([97] : List UInt8).toArray⟩), (1, .string ⟨([120] : List UInt8).toArray⟩), (2, .string ⟨([121] : List UInt8).toArray⟩), (3, .string ⟨([122] : List UInt8).toArray⟩)]) (L := [.string ⟨([97] : List UInt8).toArray⟩, .string ⟨([120] : List UInt8).toArray⟩, .string ⟨([121] : List UInt8).toArray⟩, .string ⟨([122] : List UInt8).toArray⟩]) (e := 9) tV (wn rfl) rfl (by simp only [List.map_toArray, List.map_cons, List.map_nil]; rfl) hv (fun w => by kernel_rfl) (fun b7 w8 hv => ?_)
 obtain ⟨D9, hD9, hv, hrD9, hoD9, -⟩ := (hv.cellRow (n := 4) (c := 4) (size := 1) rfl (by decide) (by decide)).rowBy
 replace hv := hv.front 1 rfl
 simp only [List.eraseIdx_cons_succ, List.eraseIdx_cons_zero] at hv
 replace hv := hv.front 1 rfl
 simp only [List.eraseIdx_cons_succ, List.eraseIdx_cons_zero] at hv
 refine xC c7callable11 rfl ((csetDoD D9 _ _ v t m s p wb va vc sv 0 [] [] ((vmNil B).more hD9) OkM.nil _ _ [([97] : List UInt8), ([120] : List UInt8), ([121] : List UInt8), ([122] : List UInt8)] hrD9 hoD9 (by decide) nSADD (by decide) (all1 (by decide) (all1 (by decide) (all1 (by decide) (all1 (by decide) all0)))) (hN.more hD9) hv).mono ?_) rfl
 rintro e w10 ⟨C1, es1, M1, r1, cs1, hC1, rfl, hrp1, hM1, hO1, hrel1, hv⟩
 refine ⟨_, rfl, ?_⟩
 obtain ⟨hS1, rfl⟩ := cmd_adds (L := wAw) SeesS.nil (by decide) wAw_sorted (by decide) (all1 (by decide) (all1 (by decide) (all1 (by decide) all0))) rfl (bad_no rfl) hrel1
 obtain ⟨v1, rfl⟩ := rp_int hrp1
 simp only [zP, po]
 refine xM (.tuple #[.agg #[.int .i64 2, .string ⟨([] : List UInt8).toArray⟩, .int .i64 3, v1], .bool true]) rfl (xG (.agg #[.int .i64 2, .string ⟨([] : List UInt8).toArray⟩, .int .i64 3, v1]) rfl (ex_extract rfl rfl rfl) ?_)
 refine xG (.bool true) rfl (ex_extract rfl rfl rfl) ?_
 simp only [zP, po]
 refine sl_alloc tV (wn rfl) rfl hv c8al28 (fun b11 w12 hv => ?_)
 refine xS 0 rfl hv rssz28 rfl (by exact ⟨rfl, rfl, rfl, hrp1.lv.2, trivial⟩) (fun w13 hv => ?_)
 simp only [zO, sp] at hv
 refine xA (.bool true) rfl ?_
 simp only [zP, po]
 refine wK k6 (sK fun _ k14 => ?_)
 refine rL (xM (.pointer (some ⟨v, 0, none⟩)) rfl ?_)
 refine sl_rowN (pv := #[(0, .string ⟨([98] : List UInt8).toArray⟩), (1, .string ⟨([121] : List UInt8).toArray⟩)]) (L := [.string ⟨([98] : List UInt8).toArray⟩, .string ⟨([121] : List UInt8).toArray⟩]) (e := 9) tV (wn rfl) rfl (by simp only [List.map_toArray, List.map_cons, List.map_nil]; rfl) hv (fun w => by kernel_rfl) (fun b15 w16 hv => ?_)
 obtain ⟨D17, hD17, hv, hrD17, hoD17, -⟩ := (hv.cellRow (n := 2) (c := 2) (size := 1) rfl (by decide) (by decide)).rowBy
 replace hv := hv.front 2 rfl
 simp only [List.eraseIdx_cons_succ, List.eraseIdx_cons_zero] at hv
 replace hv := hv.front 2 rfl
 simp only [List.eraseIdx_cons_succ, List.eraseIdx_cons_zero] at hv
 refine xC c7callable11 rfl ((csetDoD D17 _ _ v t m s p wb va vc sv 0 es1 M1 (hM1.more hD17) hO1 _ _ [([98] : List UInt8), ([121] : List UInt8)] hrD17 hoD17 (by decide) nSADD (by decide) (all1 (by decide) (all1 (by decide) all0)) (hN.more ((hD9.trans hC1).trans hD17)) hv).mono ?_) rfl
 rintro e w18 ⟨C2, es2, M2, r2, cs2, hC2, rfl, hrp2, hM2, hO2, hrel2, hv⟩
 refine ⟨_, rfl, ?_⟩
 obtain ⟨hS2, rfl⟩ := cmd_adds (L := [[121]]) hS1 (by decide) w1_sorted (by decide) (all1 (by decide) all0) rfl (bad_no rfl) hrel2
 obtain ⟨v2, rfl⟩ := rp_int hrp2
 simp only [zP, po]
 refine xM (.tuple #[.agg #[.int .i64 2, .string ⟨([] : List UInt8).toArray⟩, .int .i64 1, v2], .bool true]) rfl (xG (.agg #[.int .i64 2, .string ⟨([] : List UInt8).toArray⟩, .int .i64 1, v2]) rfl (ex_extract rfl rfl rfl) ?_)
 refine xG (.bool true) rfl (ex_extract rfl rfl rfl) ?_
 simp only [zP, po]
 refine sl_alloc tV (wn rfl) rfl hv c8al28 (fun b19 w20 hv => ?_)
 refine xS 0 rfl hv rssz28 rfl (by exact ⟨rfl, rfl, rfl, hrp2.lv.2, trivial⟩) (fun w21 hv => ?_)
 simp only [zO, sp] at hv
 refine xA (.bool true) rfl ?_
 simp only [zP, po]
 refine wK k14 (sK fun _ k22 => ?_)
 refine rL (xM (.pointer (some ⟨v, 0, none⟩)) rfl ?_)
 refine sl_rowN (pv := #[(0, .string ⟨([97] : List UInt8).toArray⟩), (1, .string ⟨([98] : List UInt8).toArray⟩)]) (L := [.string ⟨([97] : List UInt8).toArray⟩, .string ⟨([98] : List UInt8).toArray⟩]) (e := 9) tV (wn rfl) rfl (by simp only [List.map_toArray, List.map_cons, List.map_nil]; rfl) hv (fun w => by kernel_rfl) (fun b23 w24 hv => ?_)
 obtain ⟨D25, hD25, hv, hrD25, hoD25, -⟩ := (hv.cellRow (n := 2) (c := 2) (size := 1) rfl (by decide) (by decide)).rowBy
 replace hv := hv.front 2 rfl
 simp only [List.eraseIdx_cons_succ, List.eraseIdx_cons_zero] at hv
 replace hv := hv.front 2 rfl
 simp only [List.eraseIdx_cons_succ, List.eraseIdx_cons_zero] at hv
 refine xC c7callable11 rfl ((csetDoD D25 _ _ v t m s p wb va vc sv 0 es2 M2 (hM2.more hD25) hO2 _ _ [([97] : List UInt8), ([98] : List UInt8)] hrD25 hoD25 (by decide) nSDIFF (by decide) (all1 (by decide) (all1 (by decide) all0)) (hN.more ((((hD9.trans hC1).trans hD17).trans hC2).trans hD25)) hv).mono ?_) rfl
 rintro e w26 ⟨C3, es3, M3, r3, cs3, hC3, rfl, hrp3, hM3, hO3, hrel3, hv⟩
 refine ⟨_, rfl, ?_⟩
 obtain ⟨-, rfl⟩ := cmd_diff hS2 hrel3
 rw [show diffS (setF (setF (fun _ => []) [97] wAw) [98] [[121]] [97]) [setF (setF (fun _ => []) [97] wAw) [98] [[121]] [98]] = [[120], [122]] from w_diff] at hrp3
 obtain ⟨a3, c3, rfl⟩ := rp_strs hrp3
 simp only [zP, po]
 refine xM (.tuple #[.agg #[.int .i64 5, .string ⟨([] : List UInt8).toArray⟩, .int .i64 0, .slice a3 2 c3], .bool true]) rfl (xG (.agg #[.int .i64 5, .string ⟨([] : List UInt8).toArray⟩, .int .i64 0, .slice a3 2 c3]) rfl (ex_extract rfl rfl rfl) ?_)
 refine xG (.bool true) rfl (ex_extract rfl rfl rfl) ?_
 simp only [zP, po]
 refine sl_alloc tV (wn rfl) rfl hv c8al28 (fun b27 w28 hv => ?_)
 refine xS 0 rfl hv rssz28 rfl (by exact ⟨rfl, rfl, rfl, rfl, trivial⟩) (fun w29 hv => ?_)
 simp only [zO, sp] at hv
 refine xA (.bool true) rfl ?_
 simp only [zP, po]
 refine wK k22 (sK fun _ k30 => ?_)
 refine rW mixed [19, 20, 21] [0,1,2,3,4,5,6,7,8,9,10,11,12,13,14,15,16,17,18,19,20,21,22,23] 52 rfl (by kernel_rfl) hv ?_
 simp only [qm, opAt]
 refine dM (.bool true) rfl (dM (.bool true) rfl ?_)
 refine dM (.bool true) rfl ?_
 simp only [zP, po]
 refine dK true (.bool true) rfl (dM (.bool true) rfl ?_)
 refine dM (.bool true) rfl ?_
 simp only [zP, po]
 refine dK true (.bool true) rfl (dM (.bool true) rfl ?_)
 refine dG (.pointer (some ⟨b11, 2, none⟩)) rfl (ex_field rfl rfl (c7fa28_2 _ _ _)) ?_
 simp only [zP, po]
 refine dL _ rfl (fun hv => ex_load rfl rfl (run_load1 s2na3 (hv.load 4 2 rfl rfl))) (dG (.bool true) rfl (ex_eql rfl rfl rfl (by decide)) ?_)
 refine dK true (.bool true) rfl ?_
 simp only [zP, po]
 refine dM (.bool true) rfl (dG (.pointer (some ⟨b19, 2, none⟩)) rfl (ex_field rfl rfl (c7fa28_2 _ _ _)) ?_)
 refine dL _ rfl (fun hv => ex_load rfl rfl (run_load1 s2na3 (hv.load 3 2 rfl rfl))) ?_
 simp only [zP, po]
 refine dG (.bool true) rfl (ex_eql rfl rfl rfl (by decide)) (dK true (.bool true) rfl ?_)
 refine dM (.bool true) rfl ?_
 simp only [zP, po]
 refine dF (.agg #[.int .i64 5, .string ⟨([] : List UInt8).toArray⟩, .int .i64 0, .slice a3 2 c3]) rfl (fun hv => ex_load rfl rfl (run_load_mid (pre := []) (mid := [.int .i64 5, .string ⟨([] : List UInt8).toArray⟩, .int .i64 0, .slice a3 2 c3]) (post := []) rswd28 (show Blk _ b27 ([] ++ [.int .i64 5, .string ⟨([] : List UInt8).toArray⟩, .int .i64 0, .slice a3 2 c3] ++ []) _ from hv.get 0 rfl) rfl)) fun f31 hf31 => dS rfl fun w32 hv => mem_row2 (v1 := .string ⟨([120] : List UInt8).toArray⟩) (v2 := .string ⟨([122] : List UInt8).toArray⟩) (e := 9) rfl rfl rfl rfl hv (fun w => by kernel_rfl) (fun b33 w34 hv => ?_)
 refine dV hv (fC (fun ww hv => hf31 ww ?_) fN) ?_
 ·exact ex_load rfl rfl (run_load_mid (pre := []) (mid := [.int .i64 5, .string ⟨([] : List UInt8).toArray⟩, .int .i64 0, .slice a3 2 c3]) (post := []) rswd28 (show Blk _ b27 ([] ++ [.int .i64 5, .string ⟨([] : List UInt8).toArray⟩, .int .i64 0, .slice a3 2 c3] ++ []) _ from hv.get 1 rfl) rfl)
 refine dS rfl fun w35 hv => ?_
 obtain ⟨D36, hD36, hv, hrD36, hoD36, -⟩ := (hv.cellRow (n := 2) (c := 2) (size := 1) rfl (by decide) (by decide)).rowBy
 refine mC c8callable17 rfl ((ref20Strs D36 _ _ _ _ [([120] : List UInt8), ([122] : List UInt8)] hrD36 (by decide) hv).mono ?_) rfl
 rintro e w37 ⟨E, ve, hE, rfl, hrpE, hv⟩
 refine ⟨_, rfl, dV hv (fC (fun ww hv => hf31 ww ?_) fN) ?_⟩
 ·exact ex_load rfl rfl (run_load_mid (pre := []) (mid := [.int .i64 5, .string ⟨([] : List UInt8).toArray⟩, .int .i64 0, .slice a3 2 c3]) (post := []) rswd28 (show Blk _ b27 ([] ++ [.int .i64 5, .string ⟨([] : List UInt8).toArray⟩, .int .i64 0, .slice a3 2 c3] ++ []) _ from hv.get 0 rfl) rfl)
 simp only [zP, po]
 refine dS rfl fun w38 hv => mC c7callable9 rfl (((sameR_strs (B := E) (l := [[120], [122]]) (by decide)) _ _ (rpCells 5 [] 0 (.slice a3 2 c3)) (rpCells 5 [] 0 ve) (hrp3.more (hD36.trans hE)) (hrpE.more (Base.Le.refl _)) hv).mono ?_) rfl
 rintro e w39 ⟨rfl, hv⟩
 refine ⟨_, rfl, dV hv (fK rfl fN) ?_⟩
 refine dK true (.bool true) rfl (dA (.bool true) rfl ?_)
 refine dE fun w40 hv => ?_
 simp only [zP, po]
 refine tK k30 (rR ?_)
 refine bR rfl rfl (⟨rfl, ((hv.sub (List.Sublist.cons _ (List.Sublist.cons _ (List.Sublist.cons _ (List.Sublist.cons _ (List.Sublist.cons _ (List.Sublist.refl _)))))))).weak (((((((hD9.trans hC1).trans hD17).trans hC2).trans hD25).trans hC3).trans hD36).trans hE)⟩)
end Go.Proofs.YtoljdfjnannakaaGreatDoor
/- CsetMoves: the law's walk. -/
namespace Go.Proofs.YtoljdfjnannakaaGreatDoor
open Go.RowKit Go.Pm
section
variable {f : List UInt8 → List (List UInt8)} {k l a b x : List UInt8} {j s t : List (List UInt8)} {n : Nat}
theorem bnd_union (h : BndS f n) (ha : SortedT (f a)) (hb : SortedT (f b)) (hj : JoinAll [f a, f b] j) : BndS (setF f k j) (n + n) :=
 (h.mono (Nat.le_add_left n n)).set (by have := union_len ha hb hj; have := (h a).1; have := (h b).1; omega) fun z hz => by
  obtain ⟨s9, h8, h9⟩ := (hj.2 z).1 hz
  rcases List.mem_cons.1 h8 with rfl | h8
  ·exact (h a).2 z h9
  rw [List.mem_singleton.1 h8] at h9; exact (h b).2 z h9
theorem bnd_diff (h : BndS f n) : BndS (setF f k (diffS (f a) [t])) n :=
 h.set (Nat.le_trans diff_sub (h a).1) fun z hz => (h a).2 z (List.mem_filter.1 hz).1
theorem drop_keep {f' : List UInt8 → List (List UInt8)} {A : List (List UInt8)} (hf : f' = setF f k s) (hk : k ≠ a) (h : f a = A) : f' a = A := by rw [hf, setF_ne hk, h]
end
theorem l24bcallable6 : Callable Tryz.prog 6 := ⟨_, Tryz.func6, by kernel_rfl, by kernel_rfl⟩
theorem l24bcallable8 : Callable Tryz.prog 8 := ⟨_, Tryz.func8, by kernel_rfl, by kernel_rfl⟩
theorem l24bal28 (w : World) : (Instr.alloc 28 true (.tuple #[])).run Tryz.prog w = .ok (.pointer (some ⟨w.heap.size, 0, none⟩)) (w.alloc (.cells ([.int .i64 0, .string ⟨([] : List UInt8).toArray⟩, .int .i64 0, .slice none 0 0] : List Value).toArray 28)) := by kernel_rfl
set_option maxHeartbeats 16000000 in
theorem csetMovesMain (B : Base) (H : List Res) (w : World) (xa ya : Option Addr) (xc yc : Nat) (xs ys : List (List UInt8)) (x : List UInt8) (hrx : RdV B [] xa (textCells xs)) (hry : RdV B [] ya (textCells ys)) (hN : NumB B) (hv : Inv B H w) :
  Calls Tryz.prog 3 #[.slice xa xs.length xc, .slice ya ys.length yc, .string ⟨x.toArray⟩] w fun e w' => e = .returned (.bool true) ∧ Inv B H w' := by
 refine cW Tryz.func3 rfl Tryz.ntmps3 ?_
 simp only [al]
 refine sK fun _ k1 => rL (xA (.bool false) rfl ?_)
 simp only [zP, po]
 refine wK k1 (sK fun _ k2 => ?_)
 refine sK fun _ k3 => rL (xC l24bcallable6 rfl ((lawAwake24 B _ _ hN hv).mono ?_) rfl)
 rintro e w4 ⟨rfl, hv⟩
 refine ⟨_, rfl, ?_⟩
 refine xG (.bool false) rfl (ex_not rfl rfl rfl) (xM (.bool false) rfl ?_)
 simp only [zP, po]
 refine xM (.slice xa xs.length xc) rfl (xG (.int .i64 (xs.length : Int)) rfl (ex_len0 Tryz.underlying22 rfl rfl) ?_)
 by_cases hb5 : (xs.length : Int) > 12
 ·refine xG (.bool true) rfl (ex_gtr rfl rfl rfl (decide_eq_true hb5)) ?_
  simp only [zP, po]
  refine xK false (.bool true) rfl (xM (.bool true) rfl ?_)
  iterate 3 refine yN rfl ?_
  refine xK true (.bool true) rfl ?_
  simp only [zP, po]
  refine xM (.bool true) rfl ?_
  iterate 3 refine yN rfl ?_
  refine xK true (.bool true) rfl ?_
  simp only [zP, po]
  refine wK k3 (cT rfl ?_)
  refine sK fun _ k6 => rL (xC l24bcallable6 rfl ((lawAwake24 B _ _ hN hv).mono ?_) rfl)
  rintro e w7 ⟨rfl, hv⟩
  refine ⟨_, rfl, ?_⟩
  refine xA (.bool true) rfl ?_
  simp only [zP, po]
  refine wK k6 (rR ?_)
  refine tR (bR rfl rfl ?_)
  exact ⟨rfl, hv⟩
 refine xG (.bool false) rfl (ex_gtr rfl rfl rfl (decide_eq_false hb5)) ?_
 simp only [zP, po]
 refine xK false (.bool false) rfl (xM (.bool false) rfl ?_)
 refine xM (.slice ya ys.length yc) rfl ?_
 simp only [zP, po]
 refine xG (.int .i64 (ys.length : Int)) rfl (ex_len0 Tryz.underlying22 rfl rfl) ?_
 by_cases hb8 : (ys.length : Int) > 12
 ·refine xG (.bool true) rfl (ex_gtr rfl rfl rfl (decide_eq_true hb8)) (xK false (.bool true) rfl ?_)
  simp only [zP, po]
  refine xM (.bool true) rfl ?_
  iterate 3 refine yN rfl ?_
  refine xK true (.bool true) rfl ?_
  simp only [zP, po]
  refine wK k3 (cT rfl ?_)
  refine sK fun _ k9 => rL (xC l24bcallable6 rfl ((lawAwake24 B _ _ hN hv).mono ?_) rfl)
  rintro e w10 ⟨rfl, hv⟩
  refine ⟨_, rfl, ?_⟩
  refine xA (.bool true) rfl ?_
  simp only [zP, po]
  refine wK k9 (rR ?_)
  refine tR (bR rfl rfl ?_)
  exact ⟨rfl, hv⟩
 refine xG (.bool false) rfl (ex_gtr rfl rfl rfl (decide_eq_false hb8)) (xK false (.bool false) rfl ?_)
 simp only [zP, po]
 refine xM (.bool false) rfl (xM (.string ⟨x.toArray⟩) rfl ?_)
 refine xG (.int .i64 (x.length : Int)) rfl (ex_lenStr Tryz.underlying9 rfl rfl) ?_
 simp only [zP, po]
 by_cases hb11 : (x.length : Int) > 300
 ·refine xG (.bool true) rfl (ex_gtr rfl rfl rfl (decide_eq_true hb11)) (xK false (.bool true) rfl ?_)
  simp only [zP, po]
  refine wK k3 (cT rfl ?_)
  refine sK fun _ k12 => rL (xC l24bcallable6 rfl ((lawAwake24 B _ _ hN hv).mono ?_) rfl)
  rintro e w13 ⟨rfl, hv⟩
  refine ⟨_, rfl, ?_⟩
  refine xA (.bool true) rfl ?_
  simp only [zP, po]
  refine wK k12 (rR ?_)
  refine tR (bR rfl rfl ?_)
  exact ⟨rfl, hv⟩
 refine xG (.bool false) rfl (ex_gtr rfl rfl rfl (decide_eq_false hb11)) (xK false (.bool false) rfl ?_)
 simp only [zP, po]
 refine wK k3 (cF rfl ?_)
 refine kS (tK k2 ?_)
 refine sK fun _ k14 => rL (xC c8callable7 rfl ((lawOpened24 B _ _ 0 (by omega) (by omega) hv).mono ?_) rfl)
 rintro e w15 ⟨v, t, m, s, p, wb, va, vc, sv, rfl, hv⟩
 refine ⟨_, rfl, ?_⟩
 refine xA (.pointer (some ⟨v, 0, none⟩)) rfl ?_
 simp only [zP, po]
 refine wK k14 (sK fun _ k16 => ?_)
 refine sK fun _ k17 => rL (xA (.int .i64 0) rfl ?_)
 simp only [zP, po]
 refine wK k17 (bB ?_)
 gi_loopw [8] (fun x8 wr => ∃ (i : Nat) (C : Base) (es : List (List UInt8 × Value)) (M : List (List UInt8 × Ver)) (f : List UInt8 → List (List UInt8)), x8 = .int .i64 (i : Int) ∧ B.Le C ∧ i ≤ xs.length ∧ VM C es M ∧ OkM M ∧ SeesS M f ∧ BndS f i ∧ Inv C (Res.cell v [.iface 62 (.pointer (some ⟨t, 0, none⟩))] 39 :: txR t m s p wb va vc sv 0 es :: H) wr) (fun x8 _ => xs.length - (intOf x8).toNat)
 case atStart => exact ⟨0, B, [], [], fun _ => [], rfl, Base.Le.refl _, Nat.zero_le _, vmNil B, OkM.nil, SeesS.nil, fun k => ⟨Nat.zero_le _, all0⟩, ((hv.front 1 rfl).front 1 rfl)⟩
 case round =>
  obtain ⟨i, C, es, M, f, rfl, hBC, hi, hMv, hOk, hSe, hBn, hv⟩ := hrel
  refine sK fun _ k19 => sK fun _ k20 => rL (xM (.int .i64 (i : Int)) rfl ?_)
  refine xM (.slice xa xs.length xc) rfl (xG (.int .i64 (xs.length : Int)) rfl (ex_len0 Tryz.underlying22 rfl rfl) ?_)
  simp only [zP, po]
  by_cases hb21 : (i : Int) < (xs.length : Int)
  ·refine xG (.bool true) rfl (ex_lss rfl rfl rfl (decide_eq_true hb21)) ?_
   simp only [zP, po]
   refine wK k20 (cT rfl ?_)
   refine kS (tK k19 ?_)
   refine sK fun _ k22 => bB (sK fun _ k23 => ?_)
   refine sK fun _ k24 => ?_
   obtain ⟨z, hz⟩ : ∃ x, xs[i]? = some x := ⟨_, List.getElem?_eq_getElem (show i < xs.length by omega)⟩
   obtain ⟨bb, bo, had, hrdz⟩ := text_reads hrx hz
   subst had
   refine rL (xM (.slice (some ⟨bb, bo, none⟩) xs.length xc) rfl ?_)
   refine xM (.int .i64 (i : Int)) rfl (xG (.pointer (some ⟨bb, bo + i, none⟩)) rfl (ex_index rfl rfl rfl (run_idx1 (k := i) Tryz.underlying22 s9es22 (by omega))) ?_)
   simp only [zP, po]
   refine xL _ rfl (run_load1 s9na9 (hrdz _ _ _ hBC no_res hv 0 _ rfl)) (xG (.int .i64 (z.length : Int)) rfl (ex_lenStr Tryz.underlying9 rfl rfl) ?_)
   by_cases hb25 : (z.length : Int) > 300
   ·refine xG (.bool true) rfl (ex_gtr rfl rfl rfl (decide_eq_true hb25)) ?_
    simp only [zP, po]
    refine wK k24 (cT rfl ?_)
    refine sK fun _ k26 => rL (xA (.bool true) rfl ?_)
    simp only [zP, po]
    refine wK k26 (rR ?_)
    refine tR (bZ ?_)
    refine tR (tR ?_)
    refine bZ (tR ?_)
    refine bR rfl rfl (⟨rfl, ((hv.sub (List.Sublist.cons _ (List.Sublist.cons _ (List.Sublist.refl _))))).weak hBC⟩)
   refine xG (.bool false) rfl (ex_gtr rfl rfl rfl (decide_eq_false hb25)) ?_
   simp only [zP, po]
   refine wK k24 (cF rfl ?_)
   refine kS (tK k23 ?_)
   refine rL (xM (.pointer (some ⟨v, 0, none⟩)) rfl ?_)
   refine xM (.slice (some ⟨bb, bo, none⟩) xs.length xc) rfl (xM (.int .i64 (i : Int)) rfl ?_)
   simp only [zP, po]
   refine xG (.pointer (some ⟨bb, bo + i, none⟩)) rfl (ex_index rfl rfl rfl (run_idx1 (k := i) Tryz.underlying22 s9es22 (by omega))) (xL _ rfl (run_load1 s9na9 (hrdz _ _ _ hBC no_res hv 0 _ rfl)) ?_)
   refine sl_rowN (pv := #[(0, .string ⟨([83, 65, 68, 68] : List UInt8).toArray⟩), (1, .string ⟨([97] : List UInt8).toArray⟩), (2, .string ⟨z.toArray⟩)]) (L := [.string ⟨([83, 65, 68, 68] : List UInt8).toArray⟩, .string ⟨([97] : List UInt8).toArray⟩, .string ⟨z.toArray⟩]) (e := 9) tV (wn rfl) rfl (by simp only [List.map_toArray, List.map_cons, List.map_nil]; rfl) hv (fun w => by kernel_rfl) (fun b27 w28 hv => ?_)
   simp only [zP, po]
   obtain ⟨D29, hD29, hv, hrD29, hoD29, -⟩ := (hv.cellRow (n := 3) (c := 3) (size := 1) rfl (by decide) (by decide)).rowBy
   replace hv := hv.front 1 rfl
   simp only [List.eraseIdx_cons_succ, List.eraseIdx_cons_zero] at hv
   replace hv := hv.front 1 rfl
   simp only [List.eraseIdx_cons_succ, List.eraseIdx_cons_zero] at hv
   refine xC l24bcallable8 rfl ((lawDo24 D29 _ _ v t m s p wb va vc sv 0 es M (hMv.more hD29) hOk _ _ nSADD [([97] : List UInt8), z] hrD29 hoD29 (Nat.le_of_ble_eq_true rfl) (by decide) (all1 (by decide) (all1 (by omega) all0)) (hN.more (hBC.trans hD29)) hv).mono ?_) rfl
   rintro e w30 ⟨C1, es1, M1, r1, cs1, hC1, rfl, hrp1, hM1, hO1, hrel1, hv⟩
   refine ⟨_, rfl, ?_⟩
   obtain ⟨s1, hS1, hj1, rfl⟩ := cmd_add hSe (hBn.mono (by omega)) (by decide) (by omega) hrel1
   obtain ⟨v1, rfl⟩ := rp_int hrp1
   have hB1 := hBn.add (hSe _).1 hj1 (show z.length ≤ 300 by omega)
   refine wL ?_
   simp only [zP, po]
   refine bN (tK k22 ?_)
   refine rL (xM (.int .i64 (i : Int)) rfl ?_)
   refine xG (.int .i64 ((i + 1 : Nat) : Int)) rfl (ex_add rfl rfl rfl (by rw [i64_in (by omega)]; omega)) (xA (.int .i64 ((i + 1 : Nat) : Int)) rfl ?_)
   refine wL ?_
   simp only [zP, po]
   refine then_normal ?_
   go_roundw
   case rel => exact ⟨i + 1, C1, _, _, _, rfl, ((hBC.trans hD29).trans hC1), by omega, hM1.more (Base.Le.refl _), hO1, hS1, hB1.mono (by omega), ((hv.front 1 rfl).front 1 rfl)⟩
   case measure => show xs.length - (((i + 1 : Nat) : Int)).toNat < xs.length - ((i : Int)).toNat; omega
  refine xG (.bool false) rfl (ex_lss rfl rfl rfl (decide_eq_false hb21)) ?_
  simp only [zP, po]
  refine wK k20 (cF rfl ?_)
  refine xE (tX ?_)
  refine tX (bH ?_)
  refine tK k16 (sK fun _ k31 => ?_)
  refine sK fun _ k32 => rL (xA (.int .i64 0) rfl ?_)
  simp only [zP, po]
  refine wK k32 (bB ?_)
  gi_loopw [9] (fun x9 wr => ∃ (i2 : Nat) (C' : Base) (es' : List (List UInt8 × Value)) (M' : List (List UInt8 × Ver)) (f' : List UInt8 → List (List UInt8)), x9 = .int .i64 (i2 : Int) ∧ B.Le C' ∧ i2 ≤ ys.length ∧ VM C' es' M' ∧ OkM M' ∧ SeesS M' f' ∧ BndS f' (xs.length + i2) ∧ Inv C' (Res.cell v [.iface 62 (.pointer (some ⟨t, 0, none⟩))] 39 :: txR t m s p wb va vc sv 0 es' :: H) wr) (fun x9 _ => ys.length - (intOf x9).toNat)
  case atStart => exact ⟨0, C, es, M, f, rfl, hBC, Nat.zero_le _, hMv, hOk, hSe, hBn.mono (by omega), ((hv.front 1 rfl).front 1 rfl)⟩
  case round =>
   obtain ⟨i2, C', es', M', f', rfl, hBC', hi, hMv', hOk', hSe', hBn', hv⟩ := hrel
   refine sK fun _ k34 => sK fun _ k35 => rL (xM (.int .i64 (i2 : Int)) rfl ?_)
   refine xM (.slice ya ys.length yc) rfl (xG (.int .i64 (ys.length : Int)) rfl (ex_len0 Tryz.underlying22 rfl rfl) ?_)
   simp only [zP, po]
   by_cases hb36 : (i2 : Int) < (ys.length : Int)
   ·refine xG (.bool true) rfl (ex_lss rfl rfl rfl (decide_eq_true hb36)) ?_
    simp only [zP, po]
    refine wK k35 (cT rfl ?_)
    refine kS (tK k34 ?_)
    refine sK fun _ k37 => bB (sK fun _ k38 => ?_)
    refine sK fun _ k39 => ?_
    obtain ⟨z, hz⟩ : ∃ x, ys[i2]? = some x := ⟨_, List.getElem?_eq_getElem (show i2 < ys.length by omega)⟩
    obtain ⟨bb, bo, had, hrdz⟩ := text_reads hry hz
    subst had
    refine rL (xM (.slice (some ⟨bb, bo, none⟩) ys.length yc) rfl ?_)
    refine xM (.int .i64 (i2 : Int)) rfl (xG (.pointer (some ⟨bb, bo + i2, none⟩)) rfl (ex_index rfl rfl rfl (run_idx1 (k := i2) Tryz.underlying22 s9es22 (by omega))) ?_)
    simp only [zP, po]
    refine xL _ rfl (run_load1 s9na9 (hrdz _ _ _ hBC' no_res hv 0 _ rfl)) (xG (.int .i64 (z.length : Int)) rfl (ex_lenStr Tryz.underlying9 rfl rfl) ?_)
    by_cases hb40 : (z.length : Int) > 300
    ·refine xG (.bool true) rfl (ex_gtr rfl rfl rfl (decide_eq_true hb40)) ?_
     simp only [zP, po]
     refine wK k39 (cT rfl ?_)
     refine sK fun _ k41 => rL (xA (.bool true) rfl ?_)
     simp only [zP, po]
     refine wK k41 (rR ?_)
     refine tR (bZ ?_)
     refine tR (tR ?_)
     refine bZ (tR ?_)
     refine bR rfl rfl (⟨rfl, ((hv.sub (List.Sublist.cons _ (List.Sublist.cons _ (List.Sublist.refl _))))).weak hBC'⟩)
    refine xG (.bool false) rfl (ex_gtr rfl rfl rfl (decide_eq_false hb40)) ?_
    simp only [zP, po]
    refine wK k39 (cF rfl ?_)
    refine kS (tK k38 ?_)
    refine rL (xM (.pointer (some ⟨v, 0, none⟩)) rfl ?_)
    refine xM (.slice (some ⟨bb, bo, none⟩) ys.length yc) rfl (xM (.int .i64 (i2 : Int)) rfl ?_)
    simp only [zP, po]
    refine xG (.pointer (some ⟨bb, bo + i2, none⟩)) rfl (ex_index rfl rfl rfl (run_idx1 (k := i2) Tryz.underlying22 s9es22 (by omega))) (xL _ rfl (run_load1 s9na9 (hrdz _ _ _ hBC' no_res hv 0 _ rfl)) ?_)
    refine sl_rowN (pv := #[(0, .string ⟨([83, 65, 68, 68] : List UInt8).toArray⟩), (1, .string ⟨([98] : List UInt8).toArray⟩), (2, .string ⟨z.toArray⟩)]) (L := [.string ⟨([83, 65, 68, 68] : List UInt8).toArray⟩, .string ⟨([98] : List UInt8).toArray⟩, .string ⟨z.toArray⟩]) (e := 9) tV (wn rfl) rfl (by simp only [List.map_toArray, List.map_cons, List.map_nil]; rfl) hv (fun w => by kernel_rfl) (fun b42 w43 hv => ?_)
    simp only [zP, po]
    obtain ⟨D44, hD44, hv, hrD44, hoD44, -⟩ := (hv.cellRow (n := 3) (c := 3) (size := 1) rfl (by decide) (by decide)).rowBy
    replace hv := hv.front 1 rfl
    simp only [List.eraseIdx_cons_succ, List.eraseIdx_cons_zero] at hv
    replace hv := hv.front 1 rfl
    simp only [List.eraseIdx_cons_succ, List.eraseIdx_cons_zero] at hv
    refine xC l24bcallable8 rfl ((lawDo24 D44 _ _ v t m s p wb va vc sv 0 es' M' (hMv'.more hD44) hOk' _ _ nSADD [([98] : List UInt8), z] hrD44 hoD44 (Nat.le_of_ble_eq_true rfl) (by decide) (all1 (by decide) (all1 (by omega) all0)) (hN.more (hBC'.trans hD44)) hv).mono ?_) rfl
    rintro e w45 ⟨C1, es1, M1, r1, cs1, hC1, rfl, hrp1, hM1, hO1, hrel1, hv⟩
    refine ⟨_, rfl, ?_⟩
    obtain ⟨s1, hS1, hj1, rfl⟩ := cmd_add hSe' (hBn'.mono (by omega)) (by decide) (by omega) hrel1
    obtain ⟨v1, rfl⟩ := rp_int hrp1
    have hB1 := hBn'.add (hSe' _).1 hj1 (show z.length ≤ 300 by omega)
    refine wL ?_
    simp only [zP, po]
    refine bN (tK k37 ?_)
    refine rL (xM (.int .i64 (i2 : Int)) rfl ?_)
    refine xG (.int .i64 ((i2 + 1 : Nat) : Int)) rfl (ex_add rfl rfl rfl (by rw [i64_in (by omega)]; omega)) (xA (.int .i64 ((i2 + 1 : Nat) : Int)) rfl ?_)
    refine wL ?_
    simp only [zP, po]
    refine then_normal ?_
    go_roundw
    case rel => exact ⟨i2 + 1, C1, _, _, _, rfl, ((hBC'.trans hD44).trans hC1), by omega, hM1.more (Base.Le.refl _), hO1, hS1, hB1.mono (by omega), ((hv.front 1 rfl).front 1 rfl)⟩
    case measure => show ys.length - (((i2 + 1 : Nat) : Int)).toNat < ys.length - ((i2 : Int)).toNat; omega
   refine xG (.bool false) rfl (ex_lss rfl rfl rfl (decide_eq_false hb36)) ?_
   simp only [zP, po]
   refine wK k35 (cF rfl ?_)
   refine xE (tX ?_)
   refine tX (bH ?_)
   refine tK k31 (sK fun _ k46 => ?_)
   have hi2 : i2 = ys.length := by omega
   obtain ⟨A, hA⟩ : ∃ A, A = f' [97] := ⟨_, rfl⟩
   obtain ⟨Q, hQ⟩ : ∃ A, A = f' [98] := ⟨_, rfl⟩
   have hB24 : BndS f' 24 := hBn'.mono (by omega)
   have hAs : SortedT A := by rw [hA]; exact (hSe' _).1
   have hQs : SortedT Q := by rw [hQ]; exact (hSe' _).1
   have hAl : A.length ≤ 24 := by rw [hA]; exact (hB24 _).1
   have hQl : Q.length ≤ 24 := by rw [hQ]; exact (hB24 _).1
   have hAx : ∀ z ∈ A, z.length ≤ 300 := by rw [hA]; exact (hB24 _).2
   have hQx : ∀ z ∈ Q, z.length ≤ 300 := by rw [hQ]; exact (hB24 _).2
   have hIl : (interS A [Q]).length ≤ A.length := List.length_filter_le _ _
   have hDl := diff_len (s := A) (t := Q)
   refine rL (xM (.pointer (some ⟨v, 0, none⟩)) rfl ?_)
   refine sl_rowN (pv := #[(0, .string ⟨([83, 77, 69, 77, 66, 69, 82, 83] : List UInt8).toArray⟩), (1, .string ⟨([97] : List UInt8).toArray⟩)]) (L := [.string ⟨([83, 77, 69, 77, 66, 69, 82, 83] : List UInt8).toArray⟩, .string ⟨([97] : List UInt8).toArray⟩]) (e := 9) tV (wn rfl) rfl (by simp only [List.map_toArray, List.map_cons, List.map_nil]; rfl) hv (fun w => by kernel_rfl) (fun b47 w48 hv => ?_)
   obtain ⟨D49, hD49, hv, hrD49, hoD49, -⟩ := (hv.cellRow (n := 2) (c := 2) (size := 1) rfl (by decide) (by decide)).rowBy
   replace hv := hv.front 1 rfl
   simp only [List.eraseIdx_cons_succ, List.eraseIdx_cons_zero] at hv
   replace hv := hv.front 1 rfl
   simp only [List.eraseIdx_cons_succ, List.eraseIdx_cons_zero] at hv
   refine xC l24bcallable8 rfl ((lawDo24 D49 _ _ v t m s p wb va vc sv 0 es' M' (hMv'.more hD49) hOk' _ _ nSMEM [([97] : List UInt8)] hrD49 hoD49 (Nat.le_of_ble_eq_true rfl) (by decide) (all1 (by decide) all0) (hN.more (hBC'.trans hD49)) hv).mono ?_) rfl
   rintro e w50 ⟨C1, es1, M1, r1, cs1, hC1, rfl, hrp1, hM1, hO1, hrel1, hv⟩
   refine ⟨_, rfl, ?_⟩
   obtain ⟨hme1, rfl⟩ := cmd_members hSe' hrel1
   rw [hme1] at hM1 hO1
   rw [hA.symm] at hrp1
   obtain ⟨a1, c1, rfl⟩ := rp_strs hrp1
   simp only [zP, po]
   refine xM (.pointer (some ⟨v, 0, none⟩)) rfl (sl_rowN (pv := #[(0, .string ⟨([83, 77, 69, 77, 66, 69, 82, 83] : List UInt8).toArray⟩), (1, .string ⟨([98] : List UInt8).toArray⟩)]) (L := [.string ⟨([83, 77, 69, 77, 66, 69, 82, 83] : List UInt8).toArray⟩, .string ⟨([98] : List UInt8).toArray⟩]) (e := 9) tV (wn rfl) rfl (by simp only [List.map_toArray, List.map_cons, List.map_nil]; rfl) hv (fun w => by kernel_rfl) (fun b51 w52 hv => ?_))
   obtain ⟨D53, hD53, hv, hrD53, hoD53, -⟩ := (hv.cellRow (n := 2) (c := 2) (size := 1) rfl (by decide) (by decide)).rowBy
   replace hv := hv.front 1 rfl
   simp only [List.eraseIdx_cons_succ, List.eraseIdx_cons_zero] at hv
   replace hv := hv.front 1 rfl
   simp only [List.eraseIdx_cons_succ, List.eraseIdx_cons_zero] at hv
   refine xC l24bcallable8 rfl ((lawDo24 D53 _ _ v t m s p wb va vc sv 0 es1 M' (hM1.more hD53) hO1 _ _ nSMEM [([98] : List UInt8)] hrD53 hoD53 (Nat.le_of_ble_eq_true rfl) (by decide) (all1 (by decide) all0) (hN.more (((hBC'.trans hD49).trans hC1).trans hD53)) hv).mono ?_) rfl
   rintro e w54 ⟨C2, es2, M2, r2, cs2, hC2, rfl, hrp2, hM2, hO2, hrel2, hv⟩
   refine ⟨_, rfl, ?_⟩
   obtain ⟨hme2, rfl⟩ := cmd_members hSe' hrel2
   rw [hme2] at hM2 hO2
   rw [hQ.symm] at hrp2
   obtain ⟨a2, c2, rfl⟩ := rp_strs hrp2
   simp only [zP, po]
   refine sl_alloc tV (wn rfl) rfl hv l24bal28 (fun b55 w56 hv => ?_)
   refine sl_alloc tV (wn rfl) rfl hv l24bal28 (fun b57 w58 hv => ?_)
   refine xS 1 rfl hv rssz28 rfl (by exact ⟨rfl, rfl, rfl, rfl, trivial⟩) (fun w59 hv => ?_)
   simp only [zS, zO, sp] at hv
   simp only [zP, po]
   refine xS 0 rfl hv rssz28 rfl (by exact ⟨rfl, rfl, rfl, rfl, trivial⟩) (fun w60 hv => ?_)
   simp only [zO, sp] at hv
   simp only [zP, po]
   refine wK k46 (sK fun _ k61 => ?_)
   refine rL (xM (.pointer (some ⟨v, 0, none⟩)) rfl ?_)
   refine sl_rowN (pv := #[(0, .string ⟨([83, 85, 78, 73, 79, 78, 83, 84, 79, 82, 69] : List UInt8).toArray⟩), (1, .string ⟨([117] : List UInt8).toArray⟩), (2, .string ⟨([97] : List UInt8).toArray⟩), (3, .string ⟨([98] : List UInt8).toArray⟩)]) (L := [.string ⟨([83, 85, 78, 73, 79, 78, 83, 84, 79, 82, 69] : List UInt8).toArray⟩, .string ⟨([117] : List UInt8).toArray⟩, .string ⟨([97] : List UInt8).toArray⟩, .string ⟨([98] : List UInt8).toArray⟩]) (e := 9) tV (wn rfl) rfl (by simp only [List.map_toArray, List.map_cons, List.map_nil]; rfl) hv (fun w => by kernel_rfl) (fun b62 w63 hv => ?_)
   obtain ⟨D64, hD64, hv, hrD64, hoD64, -⟩ := (hv.cellRow (n := 4) (c := 4) (size := 1) rfl (by decide) (by decide)).rowBy
   replace hv := hv.front 3 rfl
   simp only [List.eraseIdx_cons_succ, List.eraseIdx_cons_zero] at hv
   replace hv := hv.front 3 rfl
   simp only [List.eraseIdx_cons_succ, List.eraseIdx_cons_zero] at hv
   refine xC l24bcallable8 rfl ((lawDo24 D64 _ _ v t m s p wb va vc sv 0 es2 M' (hM2.more hD64) hO2 _ _ nSUNIONS [([117] : List UInt8), ([97] : List UInt8), ([98] : List UInt8)] hrD64 hoD64 (Nat.le_of_ble_eq_true rfl) (by decide) (all1 (by decide) (all1 (by decide) (all1 (by decide) all0))) (hN.more (((((hBC'.trans hD49).trans hC1).trans hD53).trans hC2).trans hD64)) hv).mono ?_) rfl
   rintro e w65 ⟨C3, es3, M3, r3, cs3, hC3, rfl, hrp3, hM3, hO3, hrel3, hv⟩
   refine ⟨_, rfl, ?_⟩
   obtain ⟨j3, hS3, hj3, rfl⟩ := cmd_unions hSe' (hB24.mono (by omega)) (by decide) hrel3
   obtain ⟨v3, rfl⟩ := rp_int hrp3
   have hU := hj3
   rw [hA.symm, hQ.symm] at hU
   have hUl := union_len hAs hQs hU
   obtain ⟨f3, hf3⟩ : ∃ g9, g9 = setF f' [117] j3 := ⟨_, rfl⟩
   rw [← hf3] at hS3
   have hB3 := bnd_union (k := [117]) hB24 (hSe' _).1 (hSe' _).1 hj3
   rw [← hf3] at hB3
   have ha3 := drop_keep hf3 (by decide) hA.symm
   have hb3 := drop_keep hf3 (by decide) hQ.symm
   simp only [zP, po]
   refine xG (.int .i64 (j3.length : Int)) rfl (ex_fieldv rfl rfl (fun w => by kernel_rfl)) (xM (.pointer (some ⟨v, 0, none⟩)) rfl ?_)
   refine sl_rowN (pv := #[(0, .string ⟨([83, 73, 78, 84, 69, 82, 67, 65, 82, 68] : List UInt8).toArray⟩), (1, .string ⟨([50] : List UInt8).toArray⟩), (2, .string ⟨([97] : List UInt8).toArray⟩), (3, .string ⟨([98] : List UInt8).toArray⟩)]) (L := [.string ⟨([83, 73, 78, 84, 69, 82, 67, 65, 82, 68] : List UInt8).toArray⟩, .string ⟨([50] : List UInt8).toArray⟩, .string ⟨([97] : List UInt8).toArray⟩, .string ⟨([98] : List UInt8).toArray⟩]) (e := 9) tV (wn rfl) rfl (by simp only [List.map_toArray, List.map_cons, List.map_nil]; rfl) hv (fun w => by kernel_rfl) (fun b66 w67 hv => ?_)
   simp only [zP, po]
   obtain ⟨D68, hD68, hv, hrD68, hoD68, -⟩ := (hv.cellRow (n := 4) (c := 4) (size := 1) rfl (by decide) (by decide)).rowBy
   replace hv := hv.front 1 rfl
   simp only [List.eraseIdx_cons_succ, List.eraseIdx_cons_zero] at hv
   replace hv := hv.front 1 rfl
   simp only [List.eraseIdx_cons_succ, List.eraseIdx_cons_zero] at hv
   refine xC l24bcallable8 rfl ((lawDo24 D68 _ _ v t m s p wb va vc sv 0 es3 M3 (hM3.more hD68) hO3 _ _ nSICARD [([50] : List UInt8), ([97] : List UInt8), ([98] : List UInt8)] hrD68 hoD68 (Nat.le_of_ble_eq_true rfl) (by decide) (all1 (by decide) (all1 (by decide) (all1 (by decide) all0))) (hN.more (((((((hBC'.trans hD49).trans hC1).trans hD53).trans hC2).trans hD64).trans hC3).trans hD68)) hv).mono ?_) rfl
   rintro e w69 ⟨C4, es4, M4, r4, cs4, hC4, rfl, hrp4, hM4, hO4, hrel4, hv⟩
   refine ⟨_, rfl, ?_⟩
   obtain ⟨hme4, rfl⟩ := cmd_inter hS3 hrel4
   rw [hme4] at hM4 hO4
   rw [ha3, hb3] at hrp4
   obtain ⟨v4, rfl⟩ := rp_int hrp4
   refine xG (.int .i64 ((interS A [Q]).length : Int)) rfl (ex_fieldv rfl rfl (fun w => by kernel_rfl)) (xG (.int .i64 ((j3.length : Int) + (interS A [Q]).length)) rfl (ex_add rfl rfl rfl (by first | (rw [i64_in (by omega)]; done) | (rw [i64_in (by omega)]; omega))) ?_)
   simp only [zP, po]
   refine xA (.int .i64 ((j3.length : Int) + (interS A [Q]).length)) rfl ?_
   simp only [zP, po]
   refine wK k61 (sK fun _ k70 => ?_)
   refine sK fun _ k71 => rF mixed (fun az wz => ∃ (C6 : Base) (es6 : List (List UInt8 × Value)) (M5 : List (List UInt8 × Ver)) (f5 : List UInt8 → List (List UInt8)) (v5 : Value) (v6 : Value) (b76 : Nat) (b82 : Nat), (C4.Le C6) ∧ (VM C6 es6 M5) ∧ (OkM M5) ∧ (SeesS M5 f5) ∧ (BndS f5 (24 + 24)) ∧ (f5 [97] = A) ∧ (f5 [98] = Q) ∧ az = { tmps := #[.slice xa xs.length xc, .slice ya ys.length yc, .string ⟨x.toArray⟩, undef, undef, undef, u6, .pointer (some ⟨v, 0, none⟩), .int .i64 (i : Int), .int .i64 (i2 : Int), .pointer (some ⟨b55, 0, none⟩), .pointer (some ⟨b57, 0, none⟩), .int .i64 ((j3.length : Int) + (interS A [Q]).length), .bool true, .bool false, .bool false, .slice xa xs.length xc, .int .i64 (xs.length : Int), .bool false, .bool false, .bool false, .slice ya ys.length yc, .int .i64 (ys.length : Int), .bool false, .bool false, .bool false, .string ⟨x.toArray⟩, .int .i64 (x.length : Int), .bool false, .bool false, undef, .pointer (some ⟨v, 0, none⟩), .int .i64 (i : Int), .slice xa xs.length xc, .int .i64 (xs.length : Int), .bool false, u36, u37, u38, u39, u40, u41, u42, u43, u44, u45, u46, u47, u48, u49, u50, .int .i64 (i2 : Int), .slice ya ys.length yc, .int .i64 (ys.length : Int), .bool false, u55, u56, u57, u58, u59, u60, u61, u62, u63, u64, u65, u66, u67, u68, u69, .pointer (some ⟨v, 0, none⟩), .slice (some ⟨b47, 0, none⟩) 2 2, .agg #[.int .i64 5, .string ⟨([] : List UInt8).toArray⟩, .int .i64 0, .slice a1 A.length c1], .pointer (some ⟨v, 0, none⟩), .slice (some ⟨b51, 0, none⟩) 2 2, .agg #[.int .i64 5, .string ⟨([] : List UInt8).toArray⟩, .int .i64 0, .slice a2 Q.length c2], .pointer (some ⟨v, 0, none⟩), .slice (some ⟨b62, 0, none⟩) 4 4, .agg #[.int .i64 2, .string ⟨([] : List UInt8).toArray⟩, .int .i64 (j3.length : Int), v3], .int .i64 (j3.length : Int), .pointer (some ⟨v, 0, none⟩), .slice (some ⟨b66, 0, none⟩) 4 4, .agg #[.int .i64 2, .string ⟨([] : List UInt8).toArray⟩, .int .i64 ((interS A [Q]).length : Int), v4], .int .i64 ((interS A [Q]).length : Int), .int .i64 ((j3.length : Int) + (interS A [Q]).length), .int .i64 ((j3.length : Int) + (interS A [Q]).length), .pointer (some ⟨b55, 3, none⟩), .slice a1 A.length c1, .int .i64 (A.length : Int), .pointer (some ⟨b57, 3, none⟩), .slice a2 Q.length c2, .int .i64 (Q.length : Int), .int .i64 ((A.length : Int) + (Q.length : Int)), .bool false, .bool false, .pointer (some ⟨v, 0, none⟩), .slice (some ⟨b76, 0, none⟩) 4 4, .agg #[.int .i64 2, .string ⟨([] : List UInt8).toArray⟩, .int .i64 ((diffS A [Q]).length : Int), v5], .int .i64 ((diffS A [Q]).length : Int), .pointer (some ⟨v, 0, none⟩), .slice (some ⟨b82, 0, none⟩) 4 4, .agg #[.int .i64 2, .string ⟨([] : List UInt8).toArray⟩, .int .i64 ((interS A [Q]).length : Int), v6], .int .i64 ((interS A [Q]).length : Int), .int .i64 (((diffS A [Q]).length : Int) + ((interS A [Q]).length : Int)), .pointer (some ⟨b55, 3, none⟩), .slice a1 A.length c1, .int .i64 (A.length : Int), .bool false, .bool false, undef, undef, undef, undef, undef, undef, undef, undef, undef, undef, undef, undef, undef, undef, undef, undef, undef, undef, undef, undef, undef, undef, undef, undef, undef, undef, undef, undef, undef, undef, undef, undef, undef, undef], defers := [] } ∧ Inv C6 (Res.cell v [.iface 62 (.pointer (some ⟨t, 0, none⟩))] 39 :: txR t m s p wb va vc sv 0 es6 :: Res.cell b57 [.int .i64 5, .string ⟨([] : List UInt8).toArray⟩, .int .i64 0, .slice a2 Q.length c2] 28 :: Res.cell b55 [.int .i64 5, .string ⟨([] : List UInt8).toArray⟩, .int .i64 0, .slice a1 A.length c1] 28 :: H) wz) [11,12,15,16] [0,1,2,3,4,5,6,7,8,9,10,14,19,20,21] (.fork 11 (.fork 12 (.lin [13,15,16,17,18,22,23]) 15 (.lin [12,13,16,17,18,22,23])) 15 (.lin [11,12,13,16,17,18,22,23])) 143 rfl (by kernel_rfl) hv ?_ ?_
   ·intro R2 T hR2 hT
    simp only [qm, opAt]
    refine bG (.int .i64 ((j3.length : Int) + (interS A [Q]).length)) rfl (ex_move rfl rfl) (bG (.pointer (some ⟨b55, 3, none⟩)) rfl (ex_field rfl rfl (rtfa28_3 _ _ _)) ?_)
    simp only [zP, po]
    refine bF (.slice a1 A.length c1) rfl (fun hv => ex_load rfl rfl (run_load1 rtna26 (hv.load 3 3 rfl rfl))) fun f72 hf72 => bG (.int .i64 (A.length : Int)) rfl (ex_len0 Tryz.underlying26 rfl rfl) ?_
    simp only [zP, po]
    refine bG (.pointer (some ⟨b57, 3, none⟩)) rfl (ex_field rfl rfl (rtfa28_3 _ _ _)) (bF (.slice a2 Q.length c2) rfl (fun hv => ex_load rfl rfl (run_load1 rtna26 (hv.load 2 3 rfl rfl))) fun f73 hf73 => ?_)
    simp only [zP, po]
    refine bG (.int .i64 (Q.length : Int)) rfl (ex_len0 Tryz.underlying26 rfl rfl) (bG (.int .i64 ((A.length : Int) + (Q.length : Int))) rfl (ex_add (m := (A.length : Int)) (n := (Q.length : Int)) rfl rfl rfl (by first | (rw [i64_in (by omega)]; done) | (rw [i64_in (by omega)]; omega))) ?_)
    simp only [zP, po]
    refine bG (.bool false) rfl (ex_neq (k := .i64) (m := ((j3.length : Int) + (interS A [Q]).length)) (n := ((A.length : Int) + (Q.length : Int))) rfl rfl rfl (decide_eq_false (fun h9 => h9 (by omega)))) (bG (.bool false) rfl (ex_move rfl rfl) ?_)
    simp only [zP, po]
    refine bG (.pointer (some ⟨v, 0, none⟩)) rfl (ex_move rfl rfl) (bG (.pointer (some ⟨v, 0, none⟩)) rfl (ex_move rfl rfl) ?_)
    simp only [zP, po]
    refine bG (.pointer (some ⟨b55, 3, none⟩)) rfl (ex_field rfl rfl (rtfa28_3 _ _ _)) (bF (.slice a1 A.length c1) rfl (fun hv => ex_load rfl rfl (run_load1 rtna26 (hv.load 3 3 rfl rfl))) fun f74 hf74 => ?_)
    simp only [zP, po]
    refine bG (.int .i64 (A.length : Int)) rfl (ex_len0 Tryz.underlying26 rfl rfl) ?_
    simp only [zP, po]
    refine bE ?_
    rw [hT]; clear hT
    simp only [qmT, qm, opAt]
    refine gF ?_ ?_
    ·refine gS rfl fun w75 hv => mem_rowN (pv := #[(0, .string ⟨([83, 68, 73, 70, 70, 83, 84, 79, 82, 69] : List UInt8).toArray⟩), (1, .string ⟨([100] : List UInt8).toArray⟩), (2, .string ⟨([97] : List UInt8).toArray⟩), (3, .string ⟨([98] : List UInt8).toArray⟩)]) (L := [.string ⟨([83, 68, 73, 70, 70, 83, 84, 79, 82, 69] : List UInt8).toArray⟩, .string ⟨([100] : List UInt8).toArray⟩, .string ⟨([97] : List UInt8).toArray⟩, .string ⟨([98] : List UInt8).toArray⟩]) (e := 9) rfl rfl (by simp only [List.map_toArray, List.map_cons, List.map_nil]; rfl) hv (fun w => by kernel_rfl) (fun b76 w77 hv => ?_)
     refine gV hv (fC (fun ww hv => hf74 ww (ex_load rfl rfl (run_load1 rtna26 (hv.load 4 3 rfl rfl)))) (fK rfl (fK rfl fN))) ?_
     simp only [zP, po]
     refine gF ?_ ?_
     ·refine gS rfl fun w78 hv => ?_
      obtain ⟨D79, hD79, hv, hrD79, hoD79, -⟩ := (hv.cellRow (n := 4) (c := 4) (size := 1) rfl (by decide) (by decide)).rowBy
      replace hv := hv.front 1 rfl
      simp only [List.eraseIdx_cons_succ, List.eraseIdx_cons_zero] at hv
      replace hv := hv.front 1 rfl
      simp only [List.eraseIdx_cons_succ, List.eraseIdx_cons_zero] at hv
      refine mC l24bcallable8 rfl ((lawDo24 D79 _ _ v t m s p wb va vc sv 0 es4 M3 (hM4.more hD79) hO4 _ _ nSDIFFS [([100] : List UInt8), ([97] : List UInt8), ([98] : List UInt8)] hrD79 hoD79 (Nat.le_of_ble_eq_true rfl) (by decide) (all1 (by decide) (all1 (by decide) (all1 (by decide) all0))) (hN.more (((((((((hBC'.trans hD49).trans hC1).trans hD53).trans hC2).trans hD64).trans hC3).trans hD68).trans hC4).trans hD79)) hv).mono ?_) rfl
      rintro e w80 ⟨C5, es5, M5, r5, cs5, hC5, rfl, hrp5, hM5, hO5, hrel5, hv⟩
      obtain ⟨hS5, rfl⟩ := cmd_diffs hS3 (hB3.mono (by omega)) (by decide) hrel5
      rw [ha3, hb3] at hrp5
      obtain ⟨v5, rfl⟩ := rp_int hrp5
      obtain ⟨f5, hf5⟩ : ∃ g9, g9 = setF f3 [100] (diffS (f3 [97]) [f3 [98]]) := ⟨_, rfl⟩
      rw [← hf5] at hS5
      have hB5 := bnd_diff (k := [100]) (a := [97]) (t := f3 [98]) hB3
      rw [← hf5] at hB5
      have ha5 := drop_keep hf5 (by decide) ha3
      have hb5 := drop_keep hf5 (by decide) hb3
      refine ⟨_, rfl, gV hv (fC (fun ww hv => hf74 ww (ex_load rfl rfl (run_load1 rtna26 (hv.load 3 3 rfl rfl)))) (fK rfl (fK rfl fN))) ?_⟩
      simp only [zP, po]
      refine gL (dG (.int .i64 ((diffS A [Q]).length : Int)) rfl (ex_fieldv rfl rfl (fun w => by kernel_rfl)) ?_)
      refine dS rfl fun w81 hv => mem_rowN (pv := #[(0, .string ⟨([83, 73, 78, 84, 69, 82, 67, 65, 82, 68] : List UInt8).toArray⟩), (1, .string ⟨([50] : List UInt8).toArray⟩), (2, .string ⟨([97] : List UInt8).toArray⟩), (3, .string ⟨([98] : List UInt8).toArray⟩)]) (L := [.string ⟨([83, 73, 78, 84, 69, 82, 67, 65, 82, 68] : List UInt8).toArray⟩, .string ⟨([50] : List UInt8).toArray⟩, .string ⟨([97] : List UInt8).toArray⟩, .string ⟨([98] : List UInt8).toArray⟩]) (e := 9) rfl rfl (by simp only [List.map_toArray, List.map_cons, List.map_nil]; rfl) hv (fun w => by kernel_rfl) (fun b82 w83 hv => ?_)
      refine dV hv (fC (fun ww hv => hf74 ww (ex_load rfl rfl (run_load1 rtna26 (hv.load 4 3 rfl rfl)))) (fK rfl (fK rfl fN))) (dS rfl fun w84 hv => ?_)
      obtain ⟨D85, hD85, hv, hrD85, hoD85, -⟩ := (hv.cellRow (n := 4) (c := 4) (size := 1) rfl (by decide) (by decide)).rowBy
      replace hv := hv.front 1 rfl
      simp only [List.eraseIdx_cons_succ, List.eraseIdx_cons_zero] at hv
      replace hv := hv.front 1 rfl
      simp only [List.eraseIdx_cons_succ, List.eraseIdx_cons_zero] at hv
      refine mC l24bcallable8 rfl ((lawDo24 D85 _ _ v t m s p wb va vc sv 0 es5 M5 (hM5.more hD85) hO5 _ _ nSICARD [([50] : List UInt8), ([97] : List UInt8), ([98] : List UInt8)] hrD85 hoD85 (Nat.le_of_ble_eq_true rfl) (by decide) (all1 (by decide) (all1 (by decide) (all1 (by decide) all0))) (hN.more (((((((((((hBC'.trans hD49).trans hC1).trans hD53).trans hC2).trans hD64).trans hC3).trans hD68).trans hC4).trans hD79).trans hC5).trans hD85)) hv).mono ?_) rfl
      rintro e w86 ⟨C6, es6, M6, r6, cs6, hC6, rfl, hrp6, hM6, hO6, hrel6, hv⟩
      obtain ⟨hme6, rfl⟩ := cmd_inter hS5 hrel6
      rw [hme6] at hM6 hO6
      rw [ha5, hb5] at hrp6
      obtain ⟨v6, rfl⟩ := rp_int hrp6
      refine ⟨_, rfl, dV hv (fC (fun ww hv => hf74 ww (ex_load rfl rfl (run_load1 rtna26 (hv.load 3 3 rfl rfl)))) (fK rfl (fK rfl fN))) ?_⟩
      simp only [zP, po]
      refine dG (.int .i64 ((interS A [Q]).length : Int)) rfl (ex_fieldv rfl rfl (fun w => by kernel_rfl)) (dG (.int .i64 (((diffS A [Q]).length : Int) + ((interS A [Q]).length : Int))) rfl (ex_add rfl rfl rfl (by first | (rw [i64_in (by omega)]; done) | (rw [i64_in (by omega)]; omega))) ?_)
      refine dG (.bool false) rfl (ex_neq rfl rfl rfl (decide_eq_false (fun h9 => h9 (by omega)))) ?_
      simp only [zP, po]
      refine dK false (.bool false) rfl (dE fun wz hv => ?_)
      simp only [zP, po]
      exact hR2 _ _ ⟨C6, es6, M5, f5, v5, v6, b76, b82, (((hD79.trans hC5).trans hD85).trans hC6), hM6, hO6, hS5, hB5, ha5, hb5, rfl, ((((hv.front 3 rfl).front 3 rfl).front 3 rfl).front 3 rfl)⟩
     refine gS rfl fun w87 hv => mem_rowN (pv := #[(0, .string ⟨([83, 73, 78, 84, 69, 82, 67, 65, 82, 68] : List UInt8).toArray⟩), (1, .string ⟨([50] : List UInt8).toArray⟩), (2, .string ⟨([97] : List UInt8).toArray⟩), (3, .string ⟨([98] : List UInt8).toArray⟩)]) (L := [.string ⟨([83, 73, 78, 84, 69, 82, 67, 65, 82, 68] : List UInt8).toArray⟩, .string ⟨([50] : List UInt8).toArray⟩, .string ⟨([97] : List UInt8).toArray⟩, .string ⟨([98] : List UInt8).toArray⟩]) (e := 9) rfl rfl (by simp only [List.map_toArray, List.map_cons, List.map_nil]; rfl) hv (fun w => by kernel_rfl) (fun b88 w89 hv => ?_)
     refine gV hv (fC (fun ww hv => hf74 ww (ex_load rfl rfl (run_load1 rtna26 (hv.load 5 3 rfl rfl)))) (fK rfl (fK rfl fN))) ?_
     simp only [zP, po]
     refine gL (dS rfl fun w90 hv => ?_)
     replace hv := hv.front 1 rfl
     simp only [List.eraseIdx_cons_succ, List.eraseIdx_cons_zero] at hv
     obtain ⟨D91, hD91, hv, hrD91, hoD91, -⟩ := (hv.cellRow (n := 4) (c := 4) (size := 1) rfl (by decide) (by decide)).rowBy
     replace hv := hv.front 2 rfl
     simp only [List.eraseIdx_cons_succ, List.eraseIdx_cons_zero] at hv
     replace hv := hv.front 2 rfl
     simp only [List.eraseIdx_cons_succ, List.eraseIdx_cons_zero] at hv
     refine mC l24bcallable8 rfl ((lawDo24 D91 _ _ v t m s p wb va vc sv 0 es4 M3 (hM4.more hD91) hO4 _ _ nSDIFFS [([100] : List UInt8), ([97] : List UInt8), ([98] : List UInt8)] hrD91 hoD91 (Nat.le_of_ble_eq_true rfl) (by decide) (all1 (by decide) (all1 (by decide) (all1 (by decide) all0))) (hN.more (((((((((hBC'.trans hD49).trans hC1).trans hD53).trans hC2).trans hD64).trans hC3).trans hD68).trans hC4).trans hD91)) hv).mono ?_) rfl
     rintro e w92 ⟨C5, es5, M5, r5, cs5, hC5, rfl, hrp5, hM5, hO5, hrel5, hv⟩
     obtain ⟨hS5, rfl⟩ := cmd_diffs hS3 (hB3.mono (by omega)) (by decide) hrel5
     rw [ha3, hb3] at hrp5
     obtain ⟨v5, rfl⟩ := rp_int hrp5
     obtain ⟨f5, hf5⟩ : ∃ g9, g9 = setF f3 [100] (diffS (f3 [97]) [f3 [98]]) := ⟨_, rfl⟩
     rw [← hf5] at hS5
     have hB5 := bnd_diff (k := [100]) (a := [97]) (t := f3 [98]) hB3
     rw [← hf5] at hB5
     have ha5 := drop_keep hf5 (by decide) ha3
     have hb5 := drop_keep hf5 (by decide) hb3
     refine ⟨_, rfl, dV hv (fC (fun ww hv => hf74 ww (ex_load rfl rfl (run_load1 rtna26 (hv.load 4 3 rfl rfl)))) (fK rfl (fK rfl fN))) ?_⟩
     refine dG (.int .i64 ((diffS A [Q]).length : Int)) rfl (ex_fieldv rfl rfl (fun w => by kernel_rfl)) (dS rfl fun w93 hv => ?_)
     replace hv := hv.front 2 rfl
     simp only [List.eraseIdx_cons_succ, List.eraseIdx_cons_zero] at hv
     obtain ⟨D94, hD94, hv, hrD94, hoD94, -⟩ := (hv.cellRow (n := 4) (c := 4) (size := 1) rfl (by decide) (by decide)).rowBy
     replace hv := hv.front 1 rfl
     simp only [List.eraseIdx_cons_succ, List.eraseIdx_cons_zero] at hv
     replace hv := hv.front 1 rfl
     simp only [List.eraseIdx_cons_succ, List.eraseIdx_cons_zero] at hv
     refine mC l24bcallable8 rfl ((lawDo24 D94 _ _ v t m s p wb va vc sv 0 es5 M5 (hM5.more hD94) hO5 _ _ nSICARD [([50] : List UInt8), ([97] : List UInt8), ([98] : List UInt8)] hrD94 hoD94 (Nat.le_of_ble_eq_true rfl) (by decide) (all1 (by decide) (all1 (by decide) (all1 (by decide) all0))) (hN.more (((((((((((hBC'.trans hD49).trans hC1).trans hD53).trans hC2).trans hD64).trans hC3).trans hD68).trans hC4).trans hD91).trans hC5).trans hD94)) hv).mono ?_) rfl
     rintro e w95 ⟨C6, es6, M6, r6, cs6, hC6, rfl, hrp6, hM6, hO6, hrel6, hv⟩
     obtain ⟨hme6, rfl⟩ := cmd_inter hS5 hrel6
     rw [hme6] at hM6 hO6
     rw [ha5, hb5] at hrp6
     obtain ⟨v6, rfl⟩ := rp_int hrp6
     refine ⟨_, rfl, dV hv (fC (fun ww hv => hf74 ww (ex_load rfl rfl (run_load1 rtna26 (hv.load 3 3 rfl rfl)))) (fK rfl (fK rfl fN))) ?_⟩
     simp only [zP, po]
     refine dG (.int .i64 ((interS A [Q]).length : Int)) rfl (ex_fieldv rfl rfl (fun w => by kernel_rfl)) (dG (.int .i64 (((diffS A [Q]).length : Int) + ((interS A [Q]).length : Int))) rfl (ex_add rfl rfl rfl (by first | (rw [i64_in (by omega)]; done) | (rw [i64_in (by omega)]; omega))) ?_)
     refine dG (.bool false) rfl (ex_neq rfl rfl rfl (decide_eq_false (fun h9 => h9 (by omega)))) ?_
     simp only [zP, po]
     refine dK false (.bool false) rfl (dE fun wz hv => ?_)
     simp only [zP, po]
     exact hR2 _ _ ⟨C6, es6, M5, f5, v5, v6, b76, b88, (((hD91.trans hC5).trans hD94).trans hC6), hM6, hO6, hS5, hB5, ha5, hb5, rfl, ((((hv.front 3 rfl).front 3 rfl).front 3 rfl).front 3 rfl)⟩
    refine gS rfl fun w96 hv => mem_rowN (pv := #[(0, .string ⟨([83, 73, 78, 84, 69, 82, 67, 65, 82, 68] : List UInt8).toArray⟩), (1, .string ⟨([50] : List UInt8).toArray⟩), (2, .string ⟨([97] : List UInt8).toArray⟩), (3, .string ⟨([98] : List UInt8).toArray⟩)]) (L := [.string ⟨([83, 73, 78, 84, 69, 82, 67, 65, 82, 68] : List UInt8).toArray⟩, .string ⟨([50] : List UInt8).toArray⟩, .string ⟨([97] : List UInt8).toArray⟩, .string ⟨([98] : List UInt8).toArray⟩]) (e := 9) rfl rfl (by simp only [List.map_toArray, List.map_cons, List.map_nil]; rfl) hv (fun w => by kernel_rfl) (fun b97 w98 hv => ?_)
    refine gV hv (fC (fun ww hv => hf74 ww (ex_load rfl rfl (run_load1 rtna26 (hv.load 4 3 rfl rfl)))) (fK rfl (fK rfl fN))) ?_
    simp only [zP, po]
    refine gL (dS rfl fun w99 hv => ?_)
    refine mem_rowN (pv := #[(0, .string ⟨([83, 68, 73, 70, 70, 83, 84, 79, 82, 69] : List UInt8).toArray⟩), (1, .string ⟨([100] : List UInt8).toArray⟩), (2, .string ⟨([97] : List UInt8).toArray⟩), (3, .string ⟨([98] : List UInt8).toArray⟩)]) (L := [.string ⟨([83, 68, 73, 70, 70, 83, 84, 79, 82, 69] : List UInt8).toArray⟩, .string ⟨([100] : List UInt8).toArray⟩, .string ⟨([97] : List UInt8).toArray⟩, .string ⟨([98] : List UInt8).toArray⟩]) (e := 9) rfl rfl (by simp only [List.map_toArray, List.map_cons, List.map_nil]; rfl) hv (fun w => by kernel_rfl) (fun b100 w101 hv => ?_)
    refine dV hv (fC (fun ww hv => hf74 ww (ex_load rfl rfl (run_load1 rtna26 (hv.load 5 3 rfl rfl)))) (fK rfl (fK rfl fN))) (dS rfl fun w102 hv => ?_)
    obtain ⟨D103, hD103, hv, hrD103, hoD103, -⟩ := (hv.cellRow (n := 4) (c := 4) (size := 1) rfl (by decide) (by decide)).rowBy
    replace hv := hv.front 2 rfl
    simp only [List.eraseIdx_cons_succ, List.eraseIdx_cons_zero] at hv
    replace hv := hv.front 2 rfl
    simp only [List.eraseIdx_cons_succ, List.eraseIdx_cons_zero] at hv
    refine mC l24bcallable8 rfl ((lawDo24 D103 _ _ v t m s p wb va vc sv 0 es4 M3 (hM4.more hD103) hO4 _ _ nSDIFFS [([100] : List UInt8), ([97] : List UInt8), ([98] : List UInt8)] hrD103 hoD103 (Nat.le_of_ble_eq_true rfl) (by decide) (all1 (by decide) (all1 (by decide) (all1 (by decide) all0))) (hN.more (((((((((hBC'.trans hD49).trans hC1).trans hD53).trans hC2).trans hD64).trans hC3).trans hD68).trans hC4).trans hD103)) hv).mono ?_) rfl
    rintro e w104 ⟨C5, es5, M5, r5, cs5, hC5, rfl, hrp5, hM5, hO5, hrel5, hv⟩
    obtain ⟨hS5, rfl⟩ := cmd_diffs hS3 (hB3.mono (by omega)) (by decide) hrel5
    rw [ha3, hb3] at hrp5
    obtain ⟨v5, rfl⟩ := rp_int hrp5
    obtain ⟨f5, hf5⟩ : ∃ g9, g9 = setF f3 [100] (diffS (f3 [97]) [f3 [98]]) := ⟨_, rfl⟩
    rw [← hf5] at hS5
    have hB5 := bnd_diff (k := [100]) (a := [97]) (t := f3 [98]) hB3
    rw [← hf5] at hB5
    have ha5 := drop_keep hf5 (by decide) ha3
    have hb5 := drop_keep hf5 (by decide) hb3
    refine ⟨_, rfl, dV hv (fC (fun ww hv => hf74 ww (ex_load rfl rfl (run_load1 rtna26 (hv.load 4 3 rfl rfl)))) (fK rfl (fK rfl fN))) ?_⟩
    refine dG (.int .i64 ((diffS A [Q]).length : Int)) rfl (ex_fieldv rfl rfl (fun w => by kernel_rfl)) ?_
    simp only [zP, po]
    refine dS rfl fun w105 hv => ?_
    replace hv := hv.front 2 rfl
    simp only [List.eraseIdx_cons_succ, List.eraseIdx_cons_zero] at hv
    obtain ⟨D106, hD106, hv, hrD106, hoD106, -⟩ := (hv.cellRow (n := 4) (c := 4) (size := 1) rfl (by decide) (by decide)).rowBy
    replace hv := hv.front 1 rfl
    simp only [List.eraseIdx_cons_succ, List.eraseIdx_cons_zero] at hv
    replace hv := hv.front 1 rfl
    simp only [List.eraseIdx_cons_succ, List.eraseIdx_cons_zero] at hv
    refine mC l24bcallable8 rfl ((lawDo24 D106 _ _ v t m s p wb va vc sv 0 es5 M5 (hM5.more hD106) hO5 _ _ nSICARD [([50] : List UInt8), ([97] : List UInt8), ([98] : List UInt8)] hrD106 hoD106 (Nat.le_of_ble_eq_true rfl) (by decide) (all1 (by decide) (all1 (by decide) (all1 (by decide) all0))) (hN.more (((((((((((hBC'.trans hD49).trans hC1).trans hD53).trans hC2).trans hD64).trans hC3).trans hD68).trans hC4).trans hD103).trans hC5).trans hD106)) hv).mono ?_) rfl
    rintro e w107 ⟨C6, es6, M6, r6, cs6, hC6, rfl, hrp6, hM6, hO6, hrel6, hv⟩
    obtain ⟨hme6, rfl⟩ := cmd_inter hS5 hrel6
    rw [hme6] at hM6 hO6
    rw [ha5, hb5] at hrp6
    obtain ⟨v6, rfl⟩ := rp_int hrp6
    refine ⟨_, rfl, dV hv (fC (fun ww hv => hf74 ww (ex_load rfl rfl (run_load1 rtna26 (hv.load 3 3 rfl rfl)))) (fK rfl (fK rfl fN))) ?_⟩
    refine dG (.int .i64 ((interS A [Q]).length : Int)) rfl (ex_fieldv rfl rfl (fun w => by kernel_rfl)) (dG (.int .i64 (((diffS A [Q]).length : Int) + ((interS A [Q]).length : Int))) rfl (ex_add rfl rfl rfl (by first | (rw [i64_in (by omega)]; done) | (rw [i64_in (by omega)]; omega))) ?_)
    simp only [zP, po]
    refine dG (.bool false) rfl (ex_neq rfl rfl rfl (decide_eq_false (fun h9 => h9 (by omega)))) (dK false (.bool false) rfl ?_)
    refine dE fun wz hv => ?_
    simp only [zP, po]
    exact hR2 _ _ ⟨C6, es6, M5, f5, v5, v6, b100, b97, (((hD103.trans hC5).trans hD106).trans hC6), hM6, hO6, hS5, hB5, ha5, hb5, rfl, ((((hv.front 3 rfl).front 3 rfl).front 3 rfl).front 3 rfl)⟩
   rintro _ w108 ⟨C6, es6, M5, f5, v5, v6, b76, b82, hC6, hM6, hO6, hS5, hB5, ha5, hb5, rfl, hv⟩
   refine tK k71 (cF rfl ?_)
   refine kS (tK k70 ?_)
   refine sK fun _ k109 => sK fun _ k110 => rL (xM (.pointer (some ⟨v, 0, none⟩)) rfl ?_)
   refine xM (.string ⟨x.toArray⟩) rfl (sl_rowN (pv := #[(0, .string ⟨([83, 73, 83, 77, 69, 77, 66, 69, 82] : List UInt8).toArray⟩), (1, .string ⟨([98] : List UInt8).toArray⟩), (2, .string ⟨x.toArray⟩)]) (L := [.string ⟨([83, 73, 83, 77, 69, 77, 66, 69, 82] : List UInt8).toArray⟩, .string ⟨([98] : List UInt8).toArray⟩, .string ⟨x.toArray⟩]) (e := 9) tV (wn rfl) rfl (by simp only [List.map_toArray, List.map_cons, List.map_nil]; rfl) hv (fun w => by kernel_rfl) (fun b111 w112 hv => ?_))
   simp only [zP, po]
   obtain ⟨D113, hD113, hv, hrD113, hoD113, -⟩ := (hv.cellRow (n := 3) (c := 3) (size := 1) rfl (by decide) (by decide)).rowBy
   replace hv := hv.front 1 rfl
   simp only [List.eraseIdx_cons_succ, List.eraseIdx_cons_zero] at hv
   replace hv := hv.front 1 rfl
   simp only [List.eraseIdx_cons_succ, List.eraseIdx_cons_zero] at hv
   refine xC l24bcallable8 rfl ((lawDo24 D113 _ _ v t m s p wb va vc sv 0 es6 M5 (hM6.more hD113) hO6 _ _ nSISM [([98] : List UInt8), x] hrD113 hoD113 (Nat.le_of_ble_eq_true rfl) (by decide) (all1 (by decide) (all1 (by omega) all0)) (hN.more ((((((((((hBC'.trans hD49).trans hC1).trans hD53).trans hC2).trans hD64).trans hC3).trans hD68).trans hC4).trans hC6).trans hD113)) hv).mono ?_) rfl
   rintro e w114 ⟨C7, es7, M7, r7, cs7, hC7, rfl, hrp7, hM7, hO7, hrel7, hv⟩
   refine ⟨_, rfl, ?_⟩
   obtain ⟨hme7, rfl⟩ := cmd_ism hS5 hrel7
   rw [hme7] at hM7 hO7
   rw [hb5] at hrp7
   by_cases hxq : x ∈ Q
   ·rw [decide_eq_true hxq] at hrp7
    replace hrp7 : RpAt C7 (rInt 1) cs7 := hrp7
    obtain ⟨v7, rfl⟩ := rp_int hrp7
    refine xG (.int .i64 1) rfl (ex_fieldv rfl rfl (fun w => by kernel_rfl)) (xG (.bool true) rfl (ex_eql rfl rfl rfl (by decide)) ?_)
    simp only [zP, po]
    refine xM (.bool true) rfl ?_
    iterate 6 refine yN rfl ?_
    refine xK true (.bool true) rfl ?_
    simp only [zP, po]
    refine wK k110 (cT rfl ?_)
    refine sK fun _ k115 => rL (xA (.bool true) rfl ?_)
    simp only [zP, po]
    refine wK k115 (rR ?_)
    refine tR (bR rfl rfl ?_)
    exact ⟨rfl, ((hv.sub (List.Sublist.cons _ (List.Sublist.cons _ (List.Sublist.cons _ (List.Sublist.cons _ (List.Sublist.refl _))))))).weak (((((((((((hBC'.trans hD49).trans hC1).trans hD53).trans hC2).trans hD64).trans hC3).trans hD68).trans hC4).trans hC6).trans hD113).trans hC7)⟩
   rw [decide_eq_false hxq] at hrp7
   replace hrp7 : RpAt C7 (rInt 0) cs7 := hrp7
   obtain ⟨v7, rfl⟩ := rp_int hrp7
   refine xG (.int .i64 0) rfl (ex_fieldv rfl rfl (fun w => by kernel_rfl)) (xG (.bool false) rfl (ex_eql rfl rfl rfl (by decide)) ?_)
   simp only [zP, po]
   refine xM (.bool false) rfl (xM (.pointer (some ⟨v, 0, none⟩)) rfl ?_)
   refine xM (.string ⟨x.toArray⟩) rfl ?_
   simp only [zP, po]
   refine sl_rowN (pv := #[(0, .string ⟨([83, 77, 79, 86, 69] : List UInt8).toArray⟩), (1, .string ⟨([97] : List UInt8).toArray⟩), (2, .string ⟨([98] : List UInt8).toArray⟩), (3, .string ⟨x.toArray⟩)]) (L := [.string ⟨([83, 77, 79, 86, 69] : List UInt8).toArray⟩, .string ⟨([97] : List UInt8).toArray⟩, .string ⟨([98] : List UInt8).toArray⟩, .string ⟨x.toArray⟩]) (e := 9) tV (wanted_of (j := 6) (d := 115) (b := false) rfl rfl rfl) rfl (by simp only [List.map_toArray, List.map_cons, List.map_nil]; rfl) hv (fun w => by kernel_rfl) (fun b116 w117 hv => ?_)
   obtain ⟨D118, hD118, hv, hrD118, hoD118, -⟩ := (hv.cellRow (n := 4) (c := 4) (size := 1) rfl (by decide) (by decide)).rowBy
   replace hv := hv.front 1 rfl
   simp only [List.eraseIdx_cons_succ, List.eraseIdx_cons_zero] at hv
   replace hv := hv.front 1 rfl
   simp only [List.eraseIdx_cons_succ, List.eraseIdx_cons_zero] at hv
   refine xC l24bcallable8 rfl ((lawDo24 D118 _ _ v t m s p wb va vc sv 0 es7 M5 (hM7.more hD118) hO7 _ _ nSMOVE [([97] : List UInt8), ([98] : List UInt8), x] hrD118 hoD118 (Nat.le_of_ble_eq_true rfl) (by decide) (all1 (by decide) (all1 (by decide) (all1 (by omega) all0))) (hN.more ((((((((((((hBC'.trans hD49).trans hC1).trans hD53).trans hC2).trans hD64).trans hC3).trans hD68).trans hC4).trans hC6).trans hD113).trans hC7).trans hD118)) hv).mono ?_) rfl
   rintro e w119 ⟨C8, es8, M8, r8, cs8, hC8, rfl, hrp8, hM8, hO8, hrel8, hv⟩
   refine ⟨_, rfl, ?_⟩
   have hmv8 := cmd_move hS5 (hB5.mono (by omega)) (by decide) (by decide) (by decide) (by omega) hrel8
   rw [ha5, hb5] at hmv8
   rcases hmv8 with ⟨hno8, hme8, rfl⟩ | ⟨hyes8, s8, hj8, hS8, rfl⟩
   ·rw [hme8] at hM8 hO8
    obtain ⟨v8, rfl⟩ := rp_int hrp8
    refine xG (.int .i64 0) rfl (ex_fieldv rfl rfl (fun w => by kernel_rfl)) ?_
    simp only [zP, po]
    refine xG (.bool true) rfl (ex_eql rfl rfl rfl (by decide)) (xK false (.bool true) rfl ?_)
    simp only [zP, po]
    refine wK k110 (cT rfl ?_)
    refine sK fun _ k120 => rL (xA (.bool true) rfl ?_)
    simp only [zP, po]
    refine wK k120 (rR ?_)
    refine tR (bR rfl rfl ?_)
    exact ⟨rfl, ((hv.sub (List.Sublist.cons _ (List.Sublist.cons _ (List.Sublist.cons _ (List.Sublist.cons _ (List.Sublist.refl _))))))).weak (((((((((((((hBC'.trans hD49).trans hC1).trans hD53).trans hC2).trans hD64).trans hC3).trans hD68).trans hC4).trans hC6).trans hD113).trans hC7).trans hD118).trans hC8)⟩
   have hback : x ∈ s8 := (hj8.2 x).2 (.inr List.mem_cons_self)
   obtain ⟨f8, hf8⟩ : ∃ g9, g9 = setF (setF f5 ([98] : List UInt8) (s8)) ([97] : List UInt8) (diffS A [[x]]) := ⟨_, rfl⟩
   rw [← hf8] at hS8
   have hB8 : BndS f8 100 := by
    rw [hf8]
    refine (BndS.set (hB5.mono (by omega)) ?_ ?_).set ?_ ?_
    ·have := join_len hQs hj8; omega
    ·exact join_short hj8 hQx (by omega)
    ·have := diff_sub (s := A) (t := [x]); omega
    exact fun z hz => hAx z (List.mem_filter.1 hz).1
   have ha8 : f8 ([97] : List UInt8) = diffS A [[x]] := by rw [hf8]; exact setF_eq
   have hb8 : f8 ([98] : List UInt8) = s8 := by rw [hf8, setF_ne (by decide)]; exact setF_eq
   have hinA := hyes8
   have hnotQ := hxq
   have hjm := hj8
   obtain ⟨v8, rfl⟩ := rp_int hrp8
   refine xG (.int .i64 1) rfl (ex_fieldv rfl rfl (fun w => by kernel_rfl)) ?_
   simp only [zP, po]
   refine xG (.bool false) rfl (ex_eql rfl rfl rfl (by decide)) (xK false (.bool false) rfl ?_)
   simp only [zP, po]
   refine wK k110 (cF rfl ?_)
   refine kS (tK k109 ?_)
   refine sK fun _ k121 => rW mixed [2, 3, 8, 9, 11, 15, 16, 18] [0,1,2,3,4,5,6,7,10,8,9,11,12,13,14,17,15,16,18,19,20] 143 rfl (by kernel_rfl) hv ?_
   simp only [qm, opAt]
   refine dM (.pointer (some ⟨v, 0, none⟩)) rfl (dM (.string ⟨x.toArray⟩) rfl ?_)
   refine dS rfl fun w122 hv => mem_rowN (pv := #[(0, .string ⟨([83, 77, 79, 86, 69] : List UInt8).toArray⟩), (1, .string ⟨([98] : List UInt8).toArray⟩), (2, .string ⟨([97] : List UInt8).toArray⟩), (3, .string ⟨x.toArray⟩)]) (L := [.string ⟨([83, 77, 79, 86, 69] : List UInt8).toArray⟩, .string ⟨([98] : List UInt8).toArray⟩, .string ⟨([97] : List UInt8).toArray⟩, .string ⟨x.toArray⟩]) (e := 9) rfl rfl (by simp only [List.map_toArray, List.map_cons, List.map_nil]; rfl) hv (fun w => by kernel_rfl) (fun b123 w124 hv => ?_)
   refine dW hv ?_
   simp only [zP, po]
   refine dS rfl fun w125 hv => ?_
   obtain ⟨D126, hD126, hv, hrD126, hoD126, -⟩ := (hv.cellRow (n := 4) (c := 4) (size := 1) rfl (by decide) (by decide)).rowBy
   replace hv := hv.front 1 rfl
   simp only [List.eraseIdx_cons_succ, List.eraseIdx_cons_zero] at hv
   replace hv := hv.front 1 rfl
   simp only [List.eraseIdx_cons_succ, List.eraseIdx_cons_zero] at hv
   refine mC l24bcallable8 rfl ((lawDo24 D126 _ _ v t m s p wb va vc sv 0 es8 M8 (hM8.more hD126) hO8 _ _ nSMOVE [([98] : List UInt8), ([97] : List UInt8), x] hrD126 hoD126 (Nat.le_of_ble_eq_true rfl) (by decide) (all1 (by decide) (all1 (by decide) (all1 (by omega) all0))) (hN.more ((((((((((((((hBC'.trans hD49).trans hC1).trans hD53).trans hC2).trans hD64).trans hC3).trans hD68).trans hC4).trans hC6).trans hD113).trans hC7).trans hD118).trans hC8).trans hD126)) hv).mono ?_) rfl
   rintro e w127 ⟨C9, es9, M9, r9, cs9, hC9, rfl, hrp9, hM9, hO9, hrel9, hv⟩
   have hmv9 := cmd_move hS8 (hB8.mono (by omega)) (by decide) (by decide) (by decide) (by omega) hrel9
   rw [hb8, ha8] at hmv9
   rcases hmv9 with ⟨hno9, hme9, rfl⟩ | ⟨hyes9, s9, hj9, hS9, rfl⟩
   ·exact absurd hback hno9
   have e9 := back_from hAs hinA hj9
   have e8 := back_to hQs hnotQ hjm
   rw [e9, e8] at hS9
   obtain ⟨f9, hf9⟩ : ∃ g9, g9 = setF (setF f8 ([97] : List UInt8) (A)) ([98] : List UInt8) (Q) := ⟨_, rfl⟩
   rw [← hf9] at hS9
   have hB9 : BndS f9 100 := by
    rw [hf9]
    refine (BndS.set (hB8.mono (by omega)) ?_ ?_).set ?_ ?_
    ·omega
    ·exact hAx
    ·omega
    exact hQx
   have hb9 : f9 ([98] : List UInt8) = Q := by rw [hf9]; exact setF_eq
   have ha9 : f9 ([97] : List UInt8) = A := by rw [hf9, setF_ne (by decide)]; exact setF_eq
   obtain ⟨v9, rfl⟩ := rp_int hrp9
   refine ⟨_, rfl, dW hv ?_⟩
   refine dG (.int .i64 1) rfl (ex_fieldv rfl rfl (fun w => by kernel_rfl)) (dG (.bool true) rfl (ex_eql rfl rfl rfl (by decide)) ?_)
   simp only [zP, po]
   refine dM (.bool true) rfl (dM (.pointer (some ⟨v, 0, none⟩)) rfl ?_)
   refine dF (.agg #[.int .i64 5, .string ⟨([] : List UInt8).toArray⟩, .int .i64 0, .slice a1 A.length c1]) rfl (fun hv => ex_load rfl rfl (run_load_mid (pre := []) (mid := [.int .i64 5, .string ⟨([] : List UInt8).toArray⟩, .int .i64 0, .slice a1 A.length c1]) (post := []) rswd28 (show Blk _ b55 ([] ++ [.int .i64 5, .string ⟨([] : List UInt8).toArray⟩, .int .i64 0, .slice a1 A.length c1] ++ []) _ from hv.get 3 rfl) rfl)) fun f128 hf128 => ?_
   simp only [zP, po]
   refine dS rfl fun w129 hv => mem_row2 (v1 := .string ⟨([83, 77, 69, 77, 66, 69, 82, 83] : List UInt8).toArray⟩) (v2 := .string ⟨([97] : List UInt8).toArray⟩) (e := 9) rfl rfl rfl rfl hv (fun w => by kernel_rfl) (fun b130 w131 hv => ?_)
   refine dV hv (fC (fun ww hv => hf128 ww ?_) fN) ?_
   ·exact ex_load rfl rfl (run_load_mid (pre := []) (mid := [.int .i64 5, .string ⟨([] : List UInt8).toArray⟩, .int .i64 0, .slice a1 A.length c1]) (post := []) rswd28 (show Blk _ b55 ([] ++ [.int .i64 5, .string ⟨([] : List UInt8).toArray⟩, .int .i64 0, .slice a1 A.length c1] ++ []) _ from hv.get 4 rfl) rfl)
   refine dS rfl fun w132 hv => ?_
   obtain ⟨D133, hD133, hv, hrD133, hoD133, -⟩ := (hv.cellRow (n := 2) (c := 2) (size := 1) rfl (by decide) (by decide)).rowBy
   replace hv := hv.front 1 rfl
   simp only [List.eraseIdx_cons_succ, List.eraseIdx_cons_zero] at hv
   replace hv := hv.front 1 rfl
   simp only [List.eraseIdx_cons_succ, List.eraseIdx_cons_zero] at hv
   refine mC l24bcallable8 rfl ((lawDo24 D133 _ _ v t m s p wb va vc sv 0 es9 M9 (hM9.more hD133) hO9 _ _ nSMEM [([97] : List UInt8)] hrD133 hoD133 (Nat.le_of_ble_eq_true rfl) (by decide) (all1 (by decide) all0) (hN.more ((((((((((((((((hBC'.trans hD49).trans hC1).trans hD53).trans hC2).trans hD64).trans hC3).trans hD68).trans hC4).trans hC6).trans hD113).trans hC7).trans hD118).trans hC8).trans hD126).trans hC9).trans hD133)) hv).mono ?_) rfl
   rintro e w134 ⟨C10, es10, M10, r10, cs10, hC10, rfl, hrp10, hM10, hO10, hrel10, hv⟩
   obtain ⟨hme10, rfl⟩ := cmd_members hS9 hrel10
   rw [hme10] at hM10 hO10
   rw [ha9] at hrp10
   obtain ⟨a10, c10, rfl⟩ := rp_strs hrp10
   refine ⟨_, rfl, dV hv (fC (fun ww hv => hf128 ww ?_) fN) ?_⟩
   ·exact ex_load rfl rfl (run_load_mid (pre := []) (mid := [.int .i64 5, .string ⟨([] : List UInt8).toArray⟩, .int .i64 0, .slice a1 A.length c1]) (post := []) rswd28 (show Blk _ b55 ([] ++ [.int .i64 5, .string ⟨([] : List UInt8).toArray⟩, .int .i64 0, .slice a1 A.length c1] ++ []) _ from hv.get 3 rfl) rfl)
   refine dS rfl fun w135 hv => mC c7callable9 rfl (((sameR_strs (B := C10) (l := A) (by omega)) _ _ (rpCells 5 [] 0 (.slice a10 A.length c10)) (rpCells 5 [] 0 (.slice a1 A.length c1)) (hrp10.more (Base.Le.refl _)) (hrp1.more ((((((((((((((hD53.trans hC2).trans hD64).trans hC3).trans hD68).trans hC4).trans hC6).trans hD113).trans hC7).trans hD118).trans hC8).trans hD126).trans hC9).trans hD133).trans hC10)) hv).mono ?_) rfl
   rintro e w136 ⟨rfl, hv⟩
   refine ⟨_, rfl, dV hv (fK rfl fN) ?_⟩
   simp only [zP, po]
   refine dK true (.bool true) rfl (dM (.bool true) rfl ?_)
   refine dM (.pointer (some ⟨v, 0, none⟩)) rfl ?_
   simp only [zP, po]
   refine dF (.agg #[.int .i64 5, .string ⟨([] : List UInt8).toArray⟩, .int .i64 0, .slice a2 Q.length c2]) rfl (fun hv => ex_load rfl rfl (run_load_mid (pre := []) (mid := [.int .i64 5, .string ⟨([] : List UInt8).toArray⟩, .int .i64 0, .slice a2 Q.length c2]) (post := []) rswd28 (show Blk _ b57 ([] ++ [.int .i64 5, .string ⟨([] : List UInt8).toArray⟩, .int .i64 0, .slice a2 Q.length c2] ++ []) _ from hv.get 2 rfl) rfl)) fun f137 hf137 => dS rfl fun w138 hv => mem_row2 (v1 := .string ⟨([83, 77, 69, 77, 66, 69, 82, 83] : List UInt8).toArray⟩) (v2 := .string ⟨([98] : List UInt8).toArray⟩) (e := 9) rfl rfl rfl rfl hv (fun w => by kernel_rfl) (fun b139 w140 hv => ?_)
   refine dV hv (fC (fun ww hv => hf137 ww ?_) (fK rfl fN)) ?_
   ·exact ex_load rfl rfl (run_load_mid (pre := []) (mid := [.int .i64 5, .string ⟨([] : List UInt8).toArray⟩, .int .i64 0, .slice a2 Q.length c2]) (post := []) rswd28 (show Blk _ b57 ([] ++ [.int .i64 5, .string ⟨([] : List UInt8).toArray⟩, .int .i64 0, .slice a2 Q.length c2] ++ []) _ from hv.get 3 rfl) rfl)
   refine dS rfl fun w141 hv => ?_
   obtain ⟨D142, hD142, hv, hrD142, hoD142, -⟩ := (hv.cellRow (n := 2) (c := 2) (size := 1) rfl (by decide) (by decide)).rowBy
   replace hv := hv.front 1 rfl
   simp only [List.eraseIdx_cons_succ, List.eraseIdx_cons_zero] at hv
   replace hv := hv.front 1 rfl
   simp only [List.eraseIdx_cons_succ, List.eraseIdx_cons_zero] at hv
   refine mC l24bcallable8 rfl ((lawDo24 D142 _ _ v t m s p wb va vc sv 0 es10 M9 (hM10.more hD142) hO10 _ _ nSMEM [([98] : List UInt8)] hrD142 hoD142 (Nat.le_of_ble_eq_true rfl) (by decide) (all1 (by decide) all0) (hN.more ((((((((((((((((((hBC'.trans hD49).trans hC1).trans hD53).trans hC2).trans hD64).trans hC3).trans hD68).trans hC4).trans hC6).trans hD113).trans hC7).trans hD118).trans hC8).trans hD126).trans hC9).trans hD133).trans hC10).trans hD142)) hv).mono ?_) rfl
   rintro e w143 ⟨C11, es11, M11, r11, cs11, hC11, rfl, hrp11, hM11, hO11, hrel11, hv⟩
   obtain ⟨hme11, rfl⟩ := cmd_members hS9 hrel11
   rw [hme11] at hM11 hO11
   rw [hb9] at hrp11
   obtain ⟨a11, c11, rfl⟩ := rp_strs hrp11
   refine ⟨_, rfl, dV hv (fC (fun ww hv => hf137 ww ?_) (fK rfl fN)) ?_⟩
   ·exact ex_load rfl rfl (run_load_mid (pre := []) (mid := [.int .i64 5, .string ⟨([] : List UInt8).toArray⟩, .int .i64 0, .slice a2 Q.length c2]) (post := []) rswd28 (show Blk _ b57 ([] ++ [.int .i64 5, .string ⟨([] : List UInt8).toArray⟩, .int .i64 0, .slice a2 Q.length c2] ++ []) _ from hv.get 2 rfl) rfl)
   simp only [zP, po]
   refine dS rfl fun w144 hv => mC c7callable9 rfl (((sameR_strs (B := C11) (l := Q) (by omega)) _ _ (rpCells 5 [] 0 (.slice a11 Q.length c11)) (rpCells 5 [] 0 (.slice a2 Q.length c2)) (hrp11.more (Base.Le.refl _)) (hrp2.more ((((((((((((((hD64.trans hC3).trans hD68).trans hC4).trans hC6).trans hD113).trans hC7).trans hD118).trans hC8).trans hD126).trans hC9).trans hD133).trans hC10).trans hD142).trans hC11)) hv).mono ?_) rfl
   rintro e w145 ⟨rfl, hv⟩
   refine ⟨_, rfl, dV hv (fK rfl (fK rfl fN)) ?_⟩
   refine dK true (.bool true) rfl (dA (.bool true) rfl ?_)
   refine dE fun w146 hv => ?_
   simp only [zP, po]
   refine tK k121 (rR ?_)
   refine bR rfl rfl (⟨rfl, ((hv.sub (List.Sublist.cons _ (List.Sublist.cons _ (List.Sublist.cons _ (List.Sublist.cons _ (List.Sublist.refl _))))))).weak (((((((((((((((((((hBC'.trans hD49).trans hC1).trans hD53).trans hC2).trans hD64).trans hC3).trans hD68).trans hC4).trans hC6).trans hD113).trans hC7).trans hD118).trans hC8).trans hD126).trans hC9).trans hD133).trans hC10).trans hD142).trans hC11)⟩)
end Go.Proofs.YtoljdfjnannakaaGreatDoor
/- Writes as the law's arguments hold them: how long the rows are is not yet known. -/
namespace Go.Pm
open Go.RowKit
section
variable {P : Program} {a : Act} {w : World} {o : Oper} {t u : TypeId} {x y : Operand}
end
end Go.Pm
/- Arguments of the store's laws: rows of rows of writes. -/
namespace Go.Pm
open Go.RowKit
def All2 {α β : Type} (R : α → β → Prop) : List α → List β → Prop
 | [], [] => True
 | a :: k, b :: l => R a b ∧ All2 R k l
 | _, _ => False
theorem rep_rowAux {W : World} {S : Nat → Prop} {t : Ty} {a : Option Addr} : ∀ (l : List t.den) (k : Nat), (∀ i (h : i < l.length), ∃ b off xs, a = some ⟨b, off, none⟩ ∧ S b ∧ xs.length = t.size ∧ (∀ j (h : j < xs.length), W.cell? ⟨b, off + (k + i) * t.size + j, none⟩ = some xs[j]) ∧ Rep W S t xs l[i]) →
  ∃ xss : List (List Value), All2 (fun xs d => xs.length = t.size ∧ Rep W S t xs d) xss l ∧ ∀ j (h : j < xss.flatten.length), ∃ b off, a = some ⟨b, off, none⟩ ∧ W.cell? ⟨b, off + k * t.size + j, none⟩ = some xss.flatten[j]
 | [], k, _ => ⟨[], trivial, fun j h => by simp at h⟩
 | d :: l, k, h => by
  obtain ⟨xss, h1, h2⟩ := rep_rowAux l (k + 1) (fun i hi => by
   obtain ⟨b, off, xs, e1, e2, e3, e4, e5⟩ := h (i + 1) (by simpa using hi)
   refine ⟨b, off, xs, e1, e2, e3, fun j hj => ?_, e5⟩
   rw [show k + 1 + i = k + (i + 1) by omega]
   exact e4 j hj)
  obtain ⟨b, off, xs, e1, e2, e3, e4, e5⟩ := h 0 (by simp)
  refine ⟨xs :: xss, ⟨⟨e3, e5⟩, h1⟩, fun j hj => ?_⟩
  rcases Nat.lt_or_ge j xs.length with hx | hx
  ·refine ⟨b, off, e1, ?_⟩
   have := e4 j hx
   rw [Nat.add_zero] at this
   rw [this]
   simp only [List.flatten_cons]
   rw [List.getElem_append_left hx]
  have hj' : j - xs.length < xss.flatten.length := by
   simp only [List.flatten_cons, List.length_append] at hj
   omega
  obtain ⟨b', off', f1, f2⟩ := h2 (j - xs.length) hj'
  refine ⟨b', off', f1, ?_⟩
  rw [show off' + k * t.size + j = off' + (k + 1) * t.size + (j - xs.length) by rw [Nat.succ_mul]; omega, f2]
  simp only [List.flatten_cons]
  rw [List.getElem_append_right hx]
theorem rep_row {W : World} {S : Nat → Prop} {t : Ty} {cs : List Value} {l : List t.den} (h : Rep W S (.slice t) cs l) :
  ∃ a cap xss, cs = [.slice a l.length cap] ∧ SliceOk a l.length cap ∧ RdV (Base.of W) [] a xss.flatten ∧ All2 (fun xs d => xs.length = t.size ∧ Rep W S t xs d) xss l := by
 obtain ⟨a, cap, h1, h2, h4⟩ := h
 obtain ⟨xss, h5, h6⟩ := rep_rowAux (t := t) l 0 (fun i hi => by
  obtain ⟨b, off, xs, e1, e2, e3, e4, e5⟩ := h4 i hi
  refine ⟨b, off, xs, e1, e2, e3, fun j hj => ?_, e5⟩
  rw [Nat.zero_add]
  exact e4 j hj)
 refine ⟨a, cap, xss, h1, h2, rdV_of W fun j hj => ?_, h5⟩
 obtain ⟨b, off, f1, f2⟩ := h6 j hj
 exact ⟨b, off, f1, by rw [← f2, Nat.zero_mul, Nat.add_zero]⟩
theorem rep_texts {W : World} {S : Nat → Prop} : ∀ {xss : List (List Value)} {l : List (List UInt8)}, All2 (fun xs (d : Ty.str.den) => xs.length = Ty.str.size ∧ Rep W S .str xs d) xss l → xss.flatten = textCells l
 | [], [], _ => rfl
 | xs :: xss, d :: l, ⟨⟨h1, h2⟩, h⟩ => by
  have := rep_texts h
  match xs, h1 with
  | [x0], _ =>
   obtain ⟨k1, _⟩ := h2
   have k1' : [x0] = _ := k1
   simp only [List.cons.injEq, and_true] at k1'
   subst k1'
   simp only [List.flatten_cons, this, textCells, List.map_cons]
   rfl
end Go.Pm
/- The powers of ten, out of what the row's condition lays. -/
namespace Go.Proofs.YtoljdfjnannakaaGreatDoor
open Go
theorem tabOf {W : World} {l : List (String × DataW Unit)} (hl : l.filter (fun x => x.1 == "internal/strconv.uint64pow10") = [("internal/strconv.uint64pow10", Lib.tabData .u64 Lib.pow10Tab)]) (hL : laidMetH Tryz.prog l W) : Lib.TabIs Tryz.prog W "internal/strconv.uint64pow10" .u64 Lib.pow10Tab := by
 have h := hL.filter (fun x => x.1 == "internal/strconv.uint64pow10")
 rw [hl] at h
 have h2 := (laidMetH_iff.1 h).1
 have e : ([("internal/strconv.uint64pow10", (Lib.tabData .u64 Lib.pow10Tab : DataW Unit))].filter fun x => x.2.handleName?.isNone) = [("internal/strconv.uint64pow10", Lib.tabData .u64 Lib.pow10Tab)] := by kernel_rfl
 rw [e] at h2
 exact Lib.tabIs_of_head (g := 0) (t := 236) (e := 195) (n := 20) (by kernel_rfl) (by kernel_rfl) Tryz.underlying236 Tryz.underlying195 (by kernel_rfl) (by kernel_rfl) h2
end Go.Proofs.YtoljdfjnannakaaGreatDoor
/- strconv.ParseInt of any short text, from the shelf; the errors' variables out of what the row lays. -/
namespace Go.Proofs.YtoljdfjnannakaaGreatDoor
open Go.RowKit Go.Pm
theorem parsesAny (B : Base) (H : List Res) (h1 : HasErr B 1) (h2 : HasErr B 2) : ParsesAny B H := fun w s hs hv => by
 obtain ⟨t1, v1, h1⟩ := h1
 obtain ⟨t2, v2, h2⟩ := h2
 have c1 := h1 B H w (Base.Le.refl _) hv
 have c2 := h2 B H w (Base.Le.refl _) hv
 have hmax : (ByteArray.mk s.toArray).size ≤ 20 := by show s.toArray.size ≤ 20; simpa using hs
 cases hp : Lib.parseIntB 64 s
 case ok n =>
  have hb := Lib.parseIntB_bounds hp
  have h : Calls Tryz.prog 107 #[.string ⟨s.toArray⟩, .int .i64 10, .int .i64 64] w _ := Any.strconv_ParseInt_10_at64_ok Tryz.laysPI ⟨s.toArray⟩ (by omega) n hp w
  refine h.mono ?_
  rintro e w' ⟨rfl, hw⟩
  refine ⟨n, .nilIface, rfl, .inl rfl, by omega, fun m m0 m1 e9 => ⟨rfl, ?_⟩, ?_⟩
  ·rw [e9, parse_itoa m m0 m1] at hp
   cases hp; rfl
  rcases hw with rfl | ⟨t, rfl⟩
  ·exact hv
  exact hv.ext (bytesWorld_ext w _ t)
 ·skip
  have h : Calls Tryz.prog 107 #[.string ⟨s.toArray⟩, .int .i64 10, .int .i64 64] w _ := Any.strconv_ParseInt_10_at64_syntax Tryz.laysPI ⟨s.toArray⟩ (by omega) hp _ w c1 (.inr ⟨_, _, rfl⟩)
  refine h.mono ?_
  rintro e w' ⟨N, rfl, -, -, hx⟩
  refine ⟨0, _, rfl, .inr ⟨_, _, rfl⟩, by omega, fun m m0 m1 e9 => ?_, hv.ext hx⟩
  rw [e9, parse_itoa m m0 m1] at hp
  cases hp
 case range =>
  have h : Calls Tryz.prog 107 #[.string ⟨s.toArray⟩, .int .i64 10, .int .i64 64] w _ := Any.strconv_ParseInt_10_at64_range Tryz.laysPI ⟨s.toArray⟩ (by omega) hp _ w c2 (.inr ⟨_, _, rfl⟩)
  refine h.mono ?_
  rintro e w' ⟨N, rfl, -, -, hx⟩
  refine ⟨_, _, rfl, .inr ⟨_, _, rfl⟩, ?_, fun m m0 m1 e9 => ?_, hv.ext hx⟩
  ·unfold Lib.intSat
   split <;> decide
  rw [e9, parse_itoa m m0 m1] at hp
  cases hp
theorem numB {W : World} {l : List (String × DataW Unit)} (hl0 : l.filter (fun x => x.1 == "internal/strconv.uint64pow10") = [("internal/strconv.uint64pow10", Lib.tabData .u64 Lib.pow10Tab)])
  {n1 n2 : String} {d1 d2 : DataW Unit} (hl1 : l.filter (fun x => x.1 == "strconv.ErrSyntax") = [("strconv.ErrSyntax", .iface n1 d1)]) (he1 : ([("strconv.ErrSyntax", (DataW.iface n1 d1 : DataW Unit))].filter fun x => x.2.handleName?.isNone) = [("strconv.ErrSyntax", .iface n1 d1)])
  (hl2 : l.filter (fun x => x.1 == "strconv.ErrRange") = [("strconv.ErrRange", .iface n2 d2)]) (he2 : ([("strconv.ErrRange", (DataW.iface n2 d2 : DataW Unit))].filter fun x => x.2.handleName?.isNone) = [("strconv.ErrRange", .iface n2 d2)]) (hL : laidMetH Tryz.prog l W) : NumB (Base.of W) := by
 have ht := tabOf hl0 hL
 obtain ⟨u1, v1, h1⟩ := errOf hl1 he1 (g := 1) (t := 190) (by kernel_rfl) (by kernel_rfl) Tryz.underlying190 hL
 obtain ⟨u2, v2, h2⟩ := errOf hl2 he2 (g := 2) (t := 190) (by kernel_rfl) (by kernel_rfl) Tryz.underlying190 hL
 exact fun C H hC => ⟨formatsInt C H W hC ht, parsesAny C H ((hasErr_of h1).more hC) ((hasErr_of h2).more hC)⟩
end Go.Proofs.YtoljdfjnannakaaGreatDoor
/- Arguments of cset's laws: rows of texts; what the row lays. -/
namespace Go.Proofs.YtoljdfjnannakaaGreatDoor
open Go.RowKit Go.Pm
theorem rep_textsV {W : World} {S : Nat → Prop} {cs : List Value} {l : List (List UInt8)} (h : Rep W S (.slice .str) cs l) : ∃ a c, cs = [.slice a l.length c] ∧ SliceOk a l.length c ∧ RdV (Base.of W) [] a (textCells l) := by
 obtain ⟨a, c, xss, h1, h2, h3, h4⟩ := rep_row h
 rw [rep_texts h4] at h3
 exact ⟨a, c, h1, h2, h3⟩
def laidAll : List (String × DataW Unit) := [("math/bits.deBruijn32tab", Rows.laid_math_bits_deBruijn32tab), ("math/bits.deBruijn64tab", Rows.laid_math_bits_deBruijn64tab), ("internal/strconv.uint64pow10", Rows.laid_internal_strconv_uint64pow10), ("strconv.ErrRange", Rows.laid_strconv_ErrRange), ("strconv.ErrSyntax", Rows.laid_strconv_ErrSyntax)]
abbrev dSyn : DataW Unit := .ptr (.agg [.lit (.string [105, 110, 118, 97, 108, 105, 100, 32, 115, 121, 110, 116, 97, 120])])
abbrev dRan : DataW Unit := .ptr (.agg [.lit (.string [118, 97, 108, 117, 101, 32, 111, 117, 116, 32, 111, 102, 32, 114, 97, 110, 103, 101])])
theorem numAll {W : World} (hL : laidMetH Tryz.prog laidAll W) : NumB (Base.of W) :=
 numB (l := laidAll) (n1 := "*errors.errorString") (d1 := dSyn) (n2 := "*errors.errorString") (d2 := dRan) (by kernel_rfl) (by kernel_rfl) (by kernel_rfl) (by kernel_rfl) (by kernel_rfl) hL
end Go.Proofs.YtoljdfjnannakaaGreatDoor
