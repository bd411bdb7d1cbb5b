/- index.insert. -/
import Derived.Test.YtffmbdagjpdieaaGreatStActsB
import Derived.Test.YtffmbdagjpdieaaGreatStActsC
import Derived.Test.YtffmbdagjpdieaaGreatRows
import Derived.Test.YtffmbdagjpdieaaGreatStActsA
set_option maxRecDepth 100000
namespace Go.Proofs.YtffmbdagjpdieaaGreat
open Go.RowKit Go.Pm
theorem s5mk100 : (Tryz.prog.info? 100).map (fun i => (i.zero, i.size, i.bytes)) = some (some (.agg #[.string ⟨([] : List UInt8).toArray⟩, .slice none 0 0]), 2, 40) := by kernel_rfl
theorem s5el101 : Elem Tryz.prog 101 100 (.agg #[.string ⟨([] : List UInt8).toArray⟩, .slice none 0 0]) 2 40 := elem_of Tryz.underlying101 s5mk100 (by rfl) (by decide)
set_option maxHeartbeats 2000000 in
theorem cloneEnt (B : Base) (H : List Res) (w : World) (a : Addr) (n c : Nat) (xs : List Value) (R : List Res) (hRH : ∀ r ∈ R, r ∈ H) (hok : SliceOk (some a) n c) (hl : xs.length = n * 2) (h1 : ∀ u ∈ xs, u.oneCell' = true) (hn1 : 1 ≤ n) (hn : n ≤ 10000000) (hr : RdW B R (some a) xs) (hv : Inv B H w) :
  Calls Tryz.prog 75 #[.slice (some a) n c] w fun e w' => ∃ b' c', e = .returned (.slice (some ⟨b', 0, none⟩) n c') ∧ Inv B (Res.row 100 2 (.slice (some ⟨b', 0, none⟩) n c') n xs :: H) w' := by
 refine cW Tryz.func75 rfl Tryz.ntmps75 ?_
 simp only [al]
 refine sK fun _ k1 => rL (xA (.slice none 0 0) rfl ?_)
 simp only [zP, po]
 refine wK k1 (sK fun _ k2 => ?_)
 refine sK fun _ k3 => rL (xM (.slice (some a) n c) rfl ?_)
 refine xG (.bool false) rfl (ex_slnil Tryz.underlying101 rfl rfl rfl rfl) ?_
 simp only [zP, po]
 refine wK k3 (cF rfl ?_)
 refine kS (tK k2 ?_)
 refine sK fun _ k4 => rL (sl_row0 (size := 2) tV (wn rfl) rfl hv (e := 100) (fun w => by kernel_rfl) (fun b5 w6 hv => ?_))
 refine xM (.slice (some a) n c) rfl (sl_append (news := xs) tV (wn rfl) rfl rfl rfl s5el101 hv hok hl (hr.src (fun r9 hr9 => List.mem_cons_of_mem _ (hRH r9 hr9)) hv) (h1) (by unfold maxLen; omega) (by omega) (fun rv7 w10 hv => ?_))
 obtain ⟨ra8, rc9, rfl⟩ := row_slice hv.head
 simp only [zP, po]
 refine xA (.slice ra8 (0 + n) rc9) rfl ?_
 simp only [zP, po]
 refine wK k4 (rR ?_)
 refine bR rfl rfl ?_
 obtain ⟨b3, hb3⟩ := row_some hv.head (by omega)
 subst hb3
 have h9 := hv
 simp only [Nat.zero_add, List.nil_append] at h9 ⊢
 exact ⟨b3, _, rfl, h9⟩
theorem quo2 (m h : Nat) (e : h = m / 2) (hm : m ≤ 1000000000) : IntKind.i64.wrap ((m : Int).tdiv 2) = (h : Int) := by
 rw [Int.tdiv_eq_ediv_of_nonneg (by omega), i64_in (by omega)]; omega
theorem s5sz3 : (Tryz.prog.info? 3).map (·.size) = some 1 := by kernel_rfl
theorem s5wd100 : Wide Tryz.prog 100 2 := wide_of (fun w => by kernel_rfl) (by kernel_rfl)
theorem s5callable73 : Callable Tryz.prog 73 := ⟨_, Tryz.func73, by kernel_rfl, by kernel_rfl⟩
theorem s5callable75 : Callable Tryz.prog 75 := ⟨_, Tryz.func75, by kernel_rfl, by kernel_rfl⟩
theorem s5mk101 : (Tryz.prog.info? 101).map (fun i => (i.zero, i.size, i.bytes)) = some (some (.slice none 0 0), 1, 24) := by kernel_rfl
theorem s5el87 : Elem Tryz.prog 87 101 (.slice none 0 0) 1 24 := elem_of Tryz.underlying87 s5mk101 (by rfl) (by decide)
theorem s5callable74 : Callable Tryz.prog 74 := ⟨_, Tryz.func74, by kernel_rfl, by kernel_rfl⟩
theorem s5sz87 : (Tryz.prog.info? 87).map (·.size) = some 1 := by kernel_rfl
set_option maxHeartbeats 4000000 in
theorem ixInsert1 (B : Base) (H : List Res) (w : World) (p0 a N ca b m c i j k i0 j0 : Nat) (n : Int) (bvs p d : List Value) (key : List UInt8) (cv : Value) (hN : N ≤ 1000000) (hi : i < N) (hm1 : 1 ≤ m) (hmk : m = j + k) (hm : m ≤ 1000000) (hn : 0 ≤ n ∧ n ≤ 1000000) (hcase : (i0 = i ∧ j0 = j) ∨ (i0 = N ∧ i + 1 = N ∧ k = 0)) (hp : p.length = j * 2) (hd : d.length = k * 2) (h1p : ∀ u ∈ p, u.oneCell' = true) (h1d : ∀ u ∈ d, u.oneCell' = true) (h1b : ∀ u ∈ bvs, u.oneCell' = true) (hbl : bvs.length = N) (hbi : bvs[i]? = some (.slice (some ⟨b, 0, none⟩) m c)) (hc1 : cv.cells = #[cv] ∧ cv.oneCell' = true) (hv : Inv B (Res.row 100 2 (.slice (some ⟨b, 0, none⟩) m c) m (p ++ d) :: Res.cell p0 [.slice (some ⟨a, 0, none⟩) N ca, .int .i64 n] 89 :: Res.row 101 1 (.slice (some ⟨a, 0, none⟩) N ca) N bvs :: H) w) :
  Calls Tryz.prog 53 #[.pointer (some ⟨p0, 0, none⟩), .int .i64 (i0 : Int), .int .i64 (j0 : Int), .agg #[.string ⟨key.toArray⟩, cv]] w fun e w' => e = .returned (.tuple #[]) ∧ ((m + 1 ≤ 128 ∧ ∃ b' c', Inv B (Res.row 100 2 (.slice (some ⟨b', 0, none⟩) (m + 1) c') (m + 1) (p ++ [.string ⟨key.toArray⟩, cv] ++ d) :: Res.cell p0 [.slice (some ⟨a, 0, none⟩) N ca, .int .i64 (n + 1)] 89 :: Res.row 101 1 (.slice (some ⟨a, 0, none⟩) N ca) N (bvs.set i (.slice (some ⟨b', 0, none⟩) (m + 1) c')) :: H) w') ∨ (128 < m + 1 ∧ ∃ b1 c1 b2 c2 a' ca', Inv B (Res.row 100 2 (.slice (some ⟨b1, 0, none⟩) ((m + 1) / 2) c1) ((m + 1) / 2) ((p ++ [.string ⟨key.toArray⟩, cv] ++ d).take (((m + 1) / 2) * 2)) :: Res.row 100 2 (.slice (some ⟨b2, 0, none⟩) (m + 1 - ((m + 1) / 2)) c2) (m + 1 - ((m + 1) / 2)) ((p ++ [.string ⟨key.toArray⟩, cv] ++ d).drop (((m + 1) / 2) * 2)) :: Res.cell p0 [.slice (some ⟨a', 0, none⟩) (N + 1) ca', .int .i64 (n + 1)] 89 :: Res.row 101 1 (.slice (some ⟨a', 0, none⟩) (N + 1) ca') (N + 1) ((bvs.take (i + 1) ++ [Value.slice (some ⟨b2, 0, none⟩) (m + 1 - ((m + 1) / 2)) c2] ++ bvs.drop (i + 1)).set i (.slice (some ⟨b1, 0, none⟩) ((m + 1) / 2) c1)) :: H) w')) := by
 refine cW Tryz.func53 rfl Tryz.ntmps53 ?_
 simp only [al]
 refine sK fun _ k1 => rL (sl_box (L := [.string ⟨key.toArray⟩, cv]) tV (wn rfl) rfl rfl hv (fun w => by kernel_rfl) (fun b2 w3 hv => ?_))
 simp only [zP, po]
 refine wK k1 (sK fun _ k4 => ?_)
 refine rL (xM (.pointer (some ⟨p0, 0, none⟩)) rfl ?_)
 refine xG (.pointer (some ⟨p0, 0, none⟩)) rfl (ex_nil rfl rfl) (xF (.pointer (some ⟨p0, 1, none⟩)) rfl (s3fa89_1 _ _ _) ?_)
 simp only [zP, po]
 refine xL _ rfl (run_load1 s2na3 (hv.load 2 1 rfl rfl)) (xG (.int .i64 (n + 1)) rfl (ex_add rfl rfl rfl (i64_in (by omega))) ?_)
 refine xG (.pointer (some ⟨p0, 0, none⟩)) rfl (ex_nil rfl rfl) ?_
 simp only [zP, po]
 refine xF (.pointer (some ⟨p0, 1, none⟩)) rfl (s3fa89_1 _ _ _) (xV 2 (.int .i64 (n + 1)) rfl hv s5sz3 rfl rfl (fun w5 hv => ?_))
 simp only [zS, zO, sp] at hv
 simp only [zP, po]
 refine wK k4 (sK fun _ k6 => ?_)
 refine sK fun _ k7 => rL (xM (.pointer (some ⟨p0, 0, none⟩)) rfl ?_)
 refine xG (.pointer (some ⟨p0, 0, none⟩)) rfl (ex_nil rfl rfl) (xF (.pointer (some ⟨p0, 0, none⟩)) rfl (s3fa89_0 _ _ _) ?_)
 simp only [zP, po]
 refine xL _ rfl (run_load1 s3na87 (hv.load 2 0 rfl rfl)) (xG (.int .i64 (N : Int)) rfl (ex_len0 Tryz.underlying87 rfl rfl) ?_)
 refine xG (.bool false) rfl (ex_eql rfl rfl rfl (decide_eq_false (by omega))) ?_
 simp only [zP, po]
 refine wK k7 (cF rfl ?_)
 refine kS (tK k6 ?_)
 refine sK fun _ k8 => sK fun _ k9 => rL (xM (.int .i64 (i0 : Int)) rfl ?_)
 refine xM (.pointer (some ⟨p0, 0, none⟩)) rfl (xG (.pointer (some ⟨p0, 0, none⟩)) rfl (ex_nil rfl rfl) ?_)
 simp only [zP, po]
 refine xF (.pointer (some ⟨p0, 0, none⟩)) rfl (s3fa89_0 _ _ _) (xL _ rfl (run_load1 s3na87 (hv.load 2 0 rfl rfl)) ?_)
 refine xG (.int .i64 (N : Int)) rfl (ex_len0 Tryz.underlying87 rfl rfl) ?_
 simp only [zP, po]
 by_cases hb10 : (i0 : Int) = (N : Int)
 ·refine xG (.bool true) rfl (ex_eql rfl rfl rfl (decide_eq_true hb10)) ?_
  simp only [zP, po]
  refine wK k9 (cT rfl ?_)
  refine sK fun _ k11 => rL (xM (.int .i64 (i0 : Int)) rfl ?_)
  refine xG (.int .i64 (i : Int)) rfl (ex_sub rfl rfl rfl (by rw [i64_in (by omega)]; omega)) (xA (.int .i64 (i : Int)) rfl ?_)
  simp only [zP, po]
  refine wK k11 (rL ?_)
  refine xM (.pointer (some ⟨p0, 0, none⟩)) rfl (xG (.pointer (some ⟨p0, 0, none⟩)) rfl (ex_nil rfl rfl) ?_)
  refine xF (.pointer (some ⟨p0, 0, none⟩)) rfl (s3fa89_0 _ _ _) ?_
  simp only [zP, po]
  refine xL _ rfl (run_load1 s3na87 (hv.load 2 0 rfl rfl)) (xM (.int .i64 (i : Int)) rfl ?_)
  refine xG (.pointer (some ⟨a, 0 + i, none⟩)) rfl (ex_index rfl rfl rfl (run_idx1 (k := i) Tryz.underlying87 s3es87 (by omega))) ?_
  simp only [zP, po]
  refine xL _ rfl (run_load1 s3na101 (row_load (hv.get 3 rfl) hbi)) (xG (.int .i64 (m : Int)) rfl (ex_len0 Tryz.underlying101 rfl rfl) ?_)
  refine xA (.int .i64 (m : Int)) rfl ?_
  simp only [zP, po]
  refine wK k8 (sK fun _ k12 => ?_)
  refine rW mixed [9, 10, 11] [0,1,2,3,4,5,6,7,8,9,10,11] 91 rfl (by kernel_rfl) hv ?_
  simp only [qm, opAt]
  refine dM (.pointer (some ⟨p0, 0, none⟩)) rfl (dG (.pointer (some ⟨p0, 0, none⟩)) rfl (ex_nil rfl rfl) ?_)
  refine dG (.pointer (some ⟨p0, 0, none⟩)) rfl (ex_field rfl rfl (s3fa89_0 _ _ _)) ?_
  simp only [zP, po]
  refine dF _ rfl (fun hv => ex_load rfl rfl (run_load1 s3na87 (hv.load 2 0 rfl rfl))) fun f13 hf13 => dM (.int .i64 (i : Int)) rfl (dG (.pointer (some ⟨a, 0 + i, none⟩)) rfl (ex_index rfl rfl rfl (run_idx1 (k := i) Tryz.underlying87 s3es87 (by omega))) ?_)
  simp only [zP, po]
  refine dF _ rfl (fun hv => ex_load rfl rfl (run_load1 s3na101 (row_load (hv.get 3 rfl) hbi))) fun f14 hf14 => dM (.int .i64 (m : Int)) rfl (dL (.agg #[.string ⟨key.toArray⟩, cv]) rfl (fun hv => ex_load rfl rfl (run_load_mid (pre := []) (mid := [.string ⟨key.toArray⟩, cv]) (post := []) s5wd100 (show Blk _ b2 ([] ++ [.string ⟨key.toArray⟩, cv] ++ []) _ from hv.get 0 rfl) rfl)) ?_)
  simp only [zP, po]
  refine dS rfl fun w15 hv => mem_rowAgg (L := [.string ⟨key.toArray⟩, cv]) rfl rfl rfl hv s5el101 rfl (by decide) (fun b16 w17 hv => ?_)
  refine dV hv (fC (fun ww hv => hf14 ww (ex_load rfl rfl (run_load1 s3na101 (row_load (hv.get 4 rfl) hbi)))) (fC (fun ww hv => hf13 ww (ex_load rfl rfl (run_load1 s3na87 (hv.load 3 0 rfl rfl)))) fN)) (dS rfl fun w18 hv => ?_)
  refine mC s5callable73 rfl ((insEnt B _ _ b c m m 0 b16 p d [.string ⟨key.toArray⟩, cv] (by omega) (by omega) hm (by rw [hp]; omega) (by rw [hd]; omega) rfl h1p h1d (one_cons rfl (one_cons hc1.2 one_nil)) (hv.front 2 rfl)).mono ?_) rfl
  rintro e w19 ⟨b3, c3, rfl, hv⟩
  refine ⟨_, rfl, dV hv (fK rfl (fK rfl fN)) ?_⟩
  refine dS rfl fun w20 hv => Ex.mem (ex_assign rfl rfl) rfl (dV hv (fK rfl (fK rfl fN)) ?_)
  refine dE fun w21 hv => ?_
  simp only [zP, po]
  refine tK k12 (sK fun _ k22 => ?_)
  refine sK fun _ k23 => rL (xM (.slice (some ⟨b3, 0, none⟩) (m + 1 : Nat) c3) rfl ?_)
  refine xG (.int .i64 ((m + 1 : Nat) : Int)) rfl (ex_len0 Tryz.underlying101 rfl rfl) ?_
  by_cases hb24 : ((m + 1 : Nat) : Int) > 128
  ·refine xG (.bool true) rfl (ex_gtr rfl rfl rfl (decide_eq_true hb24)) ?_
   simp only [zP, po]
   refine wK k23 (cT rfl ?_)
   refine sK fun _ k25 => ?_
   obtain ⟨hf, hhf⟩ : ∃ hf : Nat, hf = (m + 1) / 2 := ⟨_, rfl⟩
   refine rL (xM (.slice (some ⟨b3, 0, none⟩) (m + 1 : Nat) c3) rfl ?_)
   refine xG (.int .i64 ((m + 1 : Nat) : Int)) rfl (ex_len0 Tryz.underlying101 rfl rfl) (xG (.int .i64 (hf : Int)) rfl (ex_quo (m := ((m + 1 : Nat) : Int)) (n := 2) rfl rfl rfl (by decide) (quo2 (m + 1) hf hhf (by omega))) ?_)
   simp only [zP, po]
   refine xA (.int .i64 (hf : Int)) rfl ?_
   simp only [zP, po]
   refine wK k25 (sK fun _ k26 => ?_)
   have hc3 := (hv.rowOk).1
   have hc3l := hc3.le
   have hc3m := hc3.max
   have hesl : (p ++ [.string ⟨key.toArray⟩, cv] ++ d).length = (m + 1) * 2 := by simp only [List.length_append, hp, hd, List.length_cons, List.length_nil]; omega
   have hes1 : ∀ u ∈ (p ++ [.string ⟨key.toArray⟩, cv] ++ d), u.oneCell' = true := fun u hu => by
    rcases List.mem_append.1 hu with hu | hu
    ·rcases List.mem_append.1 hu with hu | hu
     ·exact h1p u hu
     exact one_cons rfl (one_cons hc1.2 one_nil) u hu
    exact h1d u hu
   rw [← List.take_append_drop (i + 1) bvs] at hv
   refine rW mixed [10, 11, 12, 15] [0,1,2,3,4,5,6,7,8,9,10,11,12,13,14,15] 91 rfl (by kernel_rfl) hv ?_
   simp only [qm, opAt]
   refine dM (.pointer (some ⟨p0, 0, none⟩)) rfl (dM (.pointer (some ⟨p0, 0, none⟩)) rfl ?_)
   refine dG (.pointer (some ⟨p0, 0, none⟩)) rfl (ex_nil rfl rfl) ?_
   simp only [zP, po]
   refine dG (.pointer (some ⟨p0, 0, none⟩)) rfl (ex_field rfl rfl (s3fa89_0 _ _ _)) (dF _ rfl (fun hv => ex_load rfl rfl (run_load1 s3na87 (hv.load 2 0 rfl rfl))) fun f27 hf27 => ?_)
   refine dM (.int .i64 (i : Int)) rfl ?_
   simp only [zP, po]
   refine dG (.int .i64 ((i + 1 : Nat) : Int)) rfl (ex_add rfl rfl rfl (by rw [i64_in (by omega)]; omega)) (dM (.slice (some ⟨b3, 0, none⟩) (m + 1 : Nat) c3) rfl ?_)
   refine dM (.int .i64 (hf : Int)) rfl ?_
   simp only [zP, po]
   refine dG (.slice (some ⟨b3, 0 + hf * 2, none⟩) ((m + 1 : Nat) - hf) (c3 - hf)) rfl (ex_slice (lo' := some (.int .i64 (hf : Int))) rfl rfl (congrArg some rfl) rfl rfl (run_from (size := 2) Tryz.underlying101 s3es101 (by omega) (by omega))) (dS rfl fun w28 hv => ?_)
   refine mC s5callable75 rfl ((cloneEnt B _ _ _ (m + 1 - hf) (c3 - hf) ((p ++ [.string ⟨key.toArray⟩, cv] ++ d).drop (hf * 2)) [_] (fun r hr => by rw [List.mem_singleton.1 hr]; exact List.mem_of_getElem? (i := 0) rfl) ⟨by omega, by unfold maxLen at hc3m ⊢; omega, fun h => by cases h⟩ (by rw [List.length_drop, hesl]; omega) (fun u hu => hes1 u (List.mem_of_mem_drop hu)) (by omega) (by omega) (rdW_row.drop (hf * 2)) hv).mono ?_) rfl
   rintro e w29 ⟨b4, c4, rfl, hv⟩
   refine ⟨_, rfl, dV hv (fC (fun ww hv => hf27 ww (ex_load rfl rfl (run_load1 s3na87 (hv.load 3 0 rfl rfl)))) fN) ?_⟩
   refine dS rfl fun w30 hv => mem_row1 (v := .slice (some ⟨b4, 0, none⟩) (m + 1 - hf) c4) rfl rfl rfl hv s5el87 rfl (fun b31 w32 hv => ?_)
   refine dV hv (fC (fun ww hv => hf27 ww (ex_load rfl rfl (run_load1 s3na87 (hv.load 4 0 rfl rfl)))) fN) ?_
   simp only [zP, po]
   refine dS rfl fun w33 hv => mC s5callable74 rfl ((insBlk B _ _ a ca N (i + 1) (N - (i + 1)) b31 _ _ [Value.slice (some ⟨b4, 0, none⟩) (m + 1 - hf) c4] (by omega) (by omega) hN (by rw [List.length_take, hbl]; omega) (by rw [List.length_drop, hbl]; omega) rfl (fun u hu => h1b u (List.mem_of_mem_take hu)) (fun u hu => h1b u (List.mem_of_mem_drop hu)) (one_cons rfl one_nil) (hv.front 5 rfl)).mono ?_) rfl
   rintro e w34 ⟨a5, ca5, rfl, hv⟩
   refine ⟨_, rfl, dV hv (fK rfl fN) ?_⟩
   refine dG (.pointer (some ⟨p0, 0, none⟩)) rfl (ex_nil rfl rfl) (dG (.pointer (some ⟨p0, 0, none⟩)) rfl (ex_field rfl rfl (s3fa89_0 _ _ _)) ?_)
   simp only [zP, po]
   refine dS rfl fun w35 hv => mV 4 (.slice (some ⟨a5, 0, none⟩) (N + 1) ca5) rfl hv s5sz87 rfl rfl (fun w36 hv => ?_)
   simp only [zS, sp] at hv
   refine dV hv (fK rfl fN) (dE fun w37 hv => ?_)
   simp only [zP, po]
   refine tK k26 (sK fun _ k38 => ?_)
   replace hv := hv.front 2 rfl
   simp only [List.eraseIdx_cons_succ, List.eraseIdx_cons_zero] at hv
   obtain ⟨L, hL1, hL2, hL3, hL4, hv⟩ := hv.rowCell
   obtain ⟨tl, hLe⟩ : ∃ tl, L = (p ++ [.string ⟨key.toArray⟩, cv] ++ d).take (hf * 2) ++ (p ++ [.string ⟨key.toArray⟩, cv] ++ d).drop (hf * 2) ++ tl := ⟨L.drop ((m + 1) * 2), by rw [List.take_append_drop, ← hL2, List.take_append_drop]⟩
   subst hLe
   refine rL (xM (.slice (some ⟨b3, 0, none⟩) (m + 1 : Nat) c3) rfl ?_)
   refine xM (.int .i64 (hf : Int)) rfl (xG (.slice (some ⟨b3, 0 + hf * 2, none⟩) ((m + 1 : Nat) - hf) (c3 - hf)) rfl (ex_slice (lo' := some (.int .i64 (hf : Int))) rfl rfl (congrArg some rfl) rfl rfl (run_from (size := 2) Tryz.underlying101 s3es101 (by omega) (by omega))) ?_)
   simp only [zP, po]
   refine sl_clearAt 0 (pre := (p ++ [.string ⟨key.toArray⟩, cv] ++ d).take (hf * 2)) (mid := (p ++ [.string ⟨key.toArray⟩, cv] ++ d).drop (hf * 2)) (post := tl) (m := m + 1 - hf) tV (wn rfl) rfl rfl s5el101 (one_cons rfl (one_cons rfl one_nil)) hv rfl rfl (by rw [List.length_take, hesl]; omega) (by rw [List.length_drop, hesl]; omega) (fun zs w39 hzs hv => ?_)
   simp only [zS, zO] at hv
   simp only [zP, po]
   refine wK k38 (rL ?_)
   refine xM (.slice (some ⟨b3, 0, none⟩) (m + 1 : Nat) c3) rfl (xM (.int .i64 (hf : Int)) rfl ?_)
   refine xG (.slice (some ⟨b3, 0, none⟩) hf c3) rfl (ex_slice (hi' := some (.int .i64 (hf : Int))) rfl rfl rfl (congrArg some rfl) rfl (run_hi Tryz.underlying101 s3es101 (by omega))) ?_
   simp only [zP, po]
   refine xA (.slice (some ⟨b3, 0, none⟩) hf c3) rfl ?_
   simp only [zP, po]
   refine wK k22 ?_
   have h9 := hv.cellRow (n := hf) (c := c3) (size := 2) (by simp only [List.length_append, hzs] at hL1 ⊢; exact hL1) (by omega) hL4
   rw [List.append_assoc, List.take_left' (by rw [List.length_take, hesl]; omega)] at h9
   replace hv := h9
   clear h9
   refine rL (xM (.pointer (some ⟨p0, 0, none⟩)) rfl ?_)
   refine xG (.pointer (some ⟨p0, 0, none⟩)) rfl (ex_nil rfl rfl) (xF (.pointer (some ⟨p0, 0, none⟩)) rfl (s3fa89_0 _ _ _) ?_)
   simp only [zP, po]
   refine xL _ rfl (run_load1 s3na87 (hv.load 4 0 rfl rfl)) (xM (.int .i64 (i : Int)) rfl ?_)
   refine xM (.slice (some ⟨b3, 0, none⟩) hf c3) rfl ?_
   simp only [zP, po]
   refine xG (.pointer (some ⟨a5, 0 + i, none⟩)) rfl (ex_index rfl rfl rfl (run_idx1 (k := i) Tryz.underlying87 s3es87 (by omega))) ?_
   replace hv := hv.front 1 rfl
   simp only [List.eraseIdx_cons_succ, List.eraseIdx_cons_zero] at hv
   refine sl_storeRow (v := .slice (some ⟨b3, 0, none⟩) hf c3) tV (wn rfl) rfl rfl rfl hv s3sz101 (by first | (rw [hbl]; omega) | (simp only [List.length_append, List.length_take, List.length_drop, List.length_cons, List.length_nil, hbl]; omega)) rfl rfl (fun w40 hv => ?_)
   rw [Nat.zero_add] at hv
   refine wL ?_
   simp only [zP, po]
   go_end0
   subst hhf
   exact ⟨rfl, .inr ⟨by omega, b3, c3, b4, c4, a5, ca5, ((((hv.front 4 rfl).front 3 rfl).front 3 rfl).sub (List.Sublist.cons_cons _ (List.Sublist.cons_cons _ (List.Sublist.cons_cons _ (List.Sublist.cons_cons _ (List.Sublist.cons _ (List.Sublist.refl _)))))))⟩⟩
  refine xG (.bool false) rfl (ex_gtr rfl rfl rfl (decide_eq_false hb24)) ?_
  simp only [zP, po]
  refine wK k23 (cF rfl ?_)
  refine kS (tK k22 ?_)
  refine rL (xM (.pointer (some ⟨p0, 0, none⟩)) rfl ?_)
  refine xG (.pointer (some ⟨p0, 0, none⟩)) rfl (ex_nil rfl rfl) (xF (.pointer (some ⟨p0, 0, none⟩)) rfl (s3fa89_0 _ _ _) ?_)
  simp only [zP, po]
  refine xL _ rfl (run_load1 s3na87 (hv.load 2 0 rfl rfl)) (xM (.int .i64 (i : Int)) rfl ?_)
  refine xM (.slice (some ⟨b3, 0, none⟩) (m + 1 : Nat) c3) rfl ?_
  simp only [zP, po]
  refine xG (.pointer (some ⟨a, 0 + i, none⟩)) rfl (ex_index rfl rfl rfl (run_idx1 (k := i) Tryz.underlying87 s3es87 (by omega))) ?_
  replace hv := hv.front 3 rfl
  simp only [List.eraseIdx_cons_succ, List.eraseIdx_cons_zero] at hv
  refine sl_storeRow (v := .slice (some ⟨b3, 0, none⟩) (m + 1 : Nat) c3) tV (wn rfl) rfl rfl rfl hv s3sz101 (by first | (rw [hbl]; omega) | (simp only [List.length_append, List.length_take, List.length_drop, List.length_cons, List.length_nil, hbl]; omega)) rfl rfl (fun w41 hv => ?_)
  rw [Nat.zero_add] at hv
  refine wL ?_
  simp only [zP, po]
  go_end0
  exact ⟨rfl, .inl ⟨by omega, b3, c3, (((hv.front 3 rfl).front 2 rfl).sub (List.Sublist.cons_cons _ (List.Sublist.cons_cons _ (List.Sublist.cons_cons _ (List.Sublist.cons _ (List.Sublist.refl _))))))⟩⟩
 refine xG (.bool false) rfl (ex_eql rfl rfl rfl (decide_eq_false hb10)) ?_
 have h1 : i = i0 := by omega
 subst h1
 have h2 : j = j0 := by omega
 subst h2
 simp only [zP, po]
 refine wK k9 (cF rfl ?_)
 refine kS (tK k8 ?_)
 refine sK fun _ k42 => rW mixed [9, 10, 11] [0,1,2,3,4,5,6,7,8,9,10,11] 91 rfl (by kernel_rfl) hv ?_
 simp only [qm, opAt]
 refine dM (.pointer (some ⟨p0, 0, none⟩)) rfl (dG (.pointer (some ⟨p0, 0, none⟩)) rfl (ex_nil rfl rfl) ?_)
 refine dG (.pointer (some ⟨p0, 0, none⟩)) rfl (ex_field rfl rfl (s3fa89_0 _ _ _)) ?_
 simp only [zP, po]
 refine dF _ rfl (fun hv => ex_load rfl rfl (run_load1 s3na87 (hv.load 2 0 rfl rfl))) fun f43 hf43 => dM (.int .i64 (i : Int)) rfl (dG (.pointer (some ⟨a, 0 + i, none⟩)) rfl (ex_index rfl rfl rfl (run_idx1 (k := i) Tryz.underlying87 s3es87 (by omega))) ?_)
 simp only [zP, po]
 refine dF _ rfl (fun hv => ex_load rfl rfl (run_load1 s3na101 (row_load (hv.get 3 rfl) hbi))) fun f44 hf44 => dM (.int .i64 (j : Int)) rfl (dL (.agg #[.string ⟨key.toArray⟩, cv]) rfl (fun hv => ex_load rfl rfl (run_load_mid (pre := []) (mid := [.string ⟨key.toArray⟩, cv]) (post := []) s5wd100 (show Blk _ b2 ([] ++ [.string ⟨key.toArray⟩, cv] ++ []) _ from hv.get 0 rfl) rfl)) ?_)
 simp only [zP, po]
 refine dS rfl fun w45 hv => mem_rowAgg (L := [.string ⟨key.toArray⟩, cv]) rfl rfl rfl hv s5el101 rfl (by decide) (fun b46 w47 hv => ?_)
 refine dV hv (fC (fun ww hv => hf44 ww (ex_load rfl rfl (run_load1 s3na101 (row_load (hv.get 4 rfl) hbi)))) (fC (fun ww hv => hf43 ww (ex_load rfl rfl (run_load1 s3na87 (hv.load 3 0 rfl rfl)))) fN)) (dS rfl fun w48 hv => ?_)
 refine mC s5callable73 rfl ((insEnt B _ _ b c m j k b46 p d [.string ⟨key.toArray⟩, cv] (by omega) (by omega) hm hp hd rfl h1p h1d (one_cons rfl (one_cons hc1.2 one_nil)) (hv.front 2 rfl)).mono ?_) rfl
 rintro e w49 ⟨b3, c3, rfl, hv⟩
 refine ⟨_, rfl, dV hv (fK rfl (fK rfl fN)) ?_⟩
 refine dS rfl fun w50 hv => Ex.mem (ex_assign rfl rfl) rfl (dV hv (fK rfl (fK rfl fN)) ?_)
 refine dE fun w51 hv => ?_
 simp only [zP, po]
 refine tK k42 (sK fun _ k52 => ?_)
 refine sK fun _ k53 => rL (xM (.slice (some ⟨b3, 0, none⟩) (m + 1 : Nat) c3) rfl ?_)
 refine xG (.int .i64 ((m + 1 : Nat) : Int)) rfl (ex_len0 Tryz.underlying101 rfl rfl) ?_
 by_cases hb54 : ((m + 1 : Nat) : Int) > 128
 ·refine xG (.bool true) rfl (ex_gtr rfl rfl rfl (decide_eq_true hb54)) ?_
  simp only [zP, po]
  refine wK k53 (cT rfl ?_)
  refine sK fun _ k55 => ?_
  obtain ⟨hf, hhf⟩ : ∃ hf : Nat, hf = (m + 1) / 2 := ⟨_, rfl⟩
  refine rL (xM (.slice (some ⟨b3, 0, none⟩) (m + 1 : Nat) c3) rfl ?_)
  refine xG (.int .i64 ((m + 1 : Nat) : Int)) rfl (ex_len0 Tryz.underlying101 rfl rfl) (xG (.int .i64 (hf : Int)) rfl (ex_quo (m := ((m + 1 : Nat) : Int)) (n := 2) rfl rfl rfl (by decide) (quo2 (m + 1) hf hhf (by omega))) ?_)
  simp only [zP, po]
  refine xA (.int .i64 (hf : Int)) rfl ?_
  simp only [zP, po]
  refine wK k55 (sK fun _ k56 => ?_)
  have hc3 := (hv.rowOk).1
  have hc3l := hc3.le
  have hc3m := hc3.max
  have hesl : (p ++ [.string ⟨key.toArray⟩, cv] ++ d).length = (m + 1) * 2 := by simp only [List.length_append, hp, hd, List.length_cons, List.length_nil]; omega
  have hes1 : ∀ u ∈ (p ++ [.string ⟨key.toArray⟩, cv] ++ d), u.oneCell' = true := fun u hu => by
   rcases List.mem_append.1 hu with hu | hu
   ·rcases List.mem_append.1 hu with hu | hu
    ·exact h1p u hu
    exact one_cons rfl (one_cons hc1.2 one_nil) u hu
   exact h1d u hu
  rw [← List.take_append_drop (i + 1) bvs] at hv
  refine rW mixed [10, 11, 12, 15] [0,1,2,3,4,5,6,7,8,9,10,11,12,13,14,15] 91 rfl (by kernel_rfl) hv ?_
  simp only [qm, opAt]
  refine dM (.pointer (some ⟨p0, 0, none⟩)) rfl (dM (.pointer (some ⟨p0, 0, none⟩)) rfl ?_)
  refine dG (.pointer (some ⟨p0, 0, none⟩)) rfl (ex_nil rfl rfl) ?_
  simp only [zP, po]
  refine dG (.pointer (some ⟨p0, 0, none⟩)) rfl (ex_field rfl rfl (s3fa89_0 _ _ _)) (dF _ rfl (fun hv => ex_load rfl rfl (run_load1 s3na87 (hv.load 2 0 rfl rfl))) fun f57 hf57 => ?_)
  refine dM (.int .i64 (i : Int)) rfl ?_
  simp only [zP, po]
  refine dG (.int .i64 ((i + 1 : Nat) : Int)) rfl (ex_add rfl rfl rfl (by rw [i64_in (by omega)]; omega)) (dM (.slice (some ⟨b3, 0, none⟩) (m + 1 : Nat) c3) rfl ?_)
  refine dM (.int .i64 (hf : Int)) rfl ?_
  simp only [zP, po]
  refine dG (.slice (some ⟨b3, 0 + hf * 2, none⟩) ((m + 1 : Nat) - hf) (c3 - hf)) rfl (ex_slice (lo' := some (.int .i64 (hf : Int))) rfl rfl (congrArg some rfl) rfl rfl (run_from (size := 2) Tryz.underlying101 s3es101 (by omega) (by omega))) (dS rfl fun w58 hv => ?_)
  refine mC s5callable75 rfl ((cloneEnt B _ _ _ (m + 1 - hf) (c3 - hf) ((p ++ [.string ⟨key.toArray⟩, cv] ++ d).drop (hf * 2)) [_] (fun r hr => by rw [List.mem_singleton.1 hr]; exact List.mem_of_getElem? (i := 0) rfl) ⟨by omega, by unfold maxLen at hc3m ⊢; omega, fun h => by cases h⟩ (by rw [List.length_drop, hesl]; omega) (fun u hu => hes1 u (List.mem_of_mem_drop hu)) (by omega) (by omega) (rdW_row.drop (hf * 2)) hv).mono ?_) rfl
  rintro e w59 ⟨b4, c4, rfl, hv⟩
  refine ⟨_, rfl, dV hv (fC (fun ww hv => hf57 ww (ex_load rfl rfl (run_load1 s3na87 (hv.load 3 0 rfl rfl)))) fN) ?_⟩
  refine dS rfl fun w60 hv => mem_row1 (v := .slice (some ⟨b4, 0, none⟩) (m + 1 - hf) c4) rfl rfl rfl hv s5el87 rfl (fun b61 w62 hv => ?_)
  refine dV hv (fC (fun ww hv => hf57 ww (ex_load rfl rfl (run_load1 s3na87 (hv.load 4 0 rfl rfl)))) fN) ?_
  simp only [zP, po]
  refine dS rfl fun w63 hv => mC s5callable74 rfl ((insBlk B _ _ a ca N (i + 1) (N - (i + 1)) b61 _ _ [Value.slice (some ⟨b4, 0, none⟩) (m + 1 - hf) c4] (by omega) (by omega) hN (by rw [List.length_take, hbl]; omega) (by rw [List.length_drop, hbl]; omega) rfl (fun u hu => h1b u (List.mem_of_mem_take hu)) (fun u hu => h1b u (List.mem_of_mem_drop hu)) (one_cons rfl one_nil) (hv.front 5 rfl)).mono ?_) rfl
  rintro e w64 ⟨a5, ca5, rfl, hv⟩
  refine ⟨_, rfl, dV hv (fK rfl fN) ?_⟩
  refine dG (.pointer (some ⟨p0, 0, none⟩)) rfl (ex_nil rfl rfl) (dG (.pointer (some ⟨p0, 0, none⟩)) rfl (ex_field rfl rfl (s3fa89_0 _ _ _)) ?_)
  simp only [zP, po]
  refine dS rfl fun w65 hv => mV 4 (.slice (some ⟨a5, 0, none⟩) (N + 1) ca5) rfl hv s5sz87 rfl rfl (fun w66 hv => ?_)
  simp only [zS, sp] at hv
  refine dV hv (fK rfl fN) (dE fun w67 hv => ?_)
  simp only [zP, po]
  refine tK k56 (sK fun _ k68 => ?_)
  replace hv := hv.front 2 rfl
  simp only [List.eraseIdx_cons_succ, List.eraseIdx_cons_zero] at hv
  obtain ⟨L, hL1, hL2, hL3, hL4, hv⟩ := hv.rowCell
  obtain ⟨tl, hLe⟩ : ∃ tl, L = (p ++ [.string ⟨key.toArray⟩, cv] ++ d).take (hf * 2) ++ (p ++ [.string ⟨key.toArray⟩, cv] ++ d).drop (hf * 2) ++ tl := ⟨L.drop ((m + 1) * 2), by rw [List.take_append_drop, ← hL2, List.take_append_drop]⟩
  subst hLe
  refine rL (xM (.slice (some ⟨b3, 0, none⟩) (m + 1 : Nat) c3) rfl ?_)
  refine xM (.int .i64 (hf : Int)) rfl (xG (.slice (some ⟨b3, 0 + hf * 2, none⟩) ((m + 1 : Nat) - hf) (c3 - hf)) rfl (ex_slice (lo' := some (.int .i64 (hf : Int))) rfl rfl (congrArg some rfl) rfl rfl (run_from (size := 2) Tryz.underlying101 s3es101 (by omega) (by omega))) ?_)
  simp only [zP, po]
  refine sl_clearAt 0 (pre := (p ++ [.string ⟨key.toArray⟩, cv] ++ d).take (hf * 2)) (mid := (p ++ [.string ⟨key.toArray⟩, cv] ++ d).drop (hf * 2)) (post := tl) (m := m + 1 - hf) tV (wn rfl) rfl rfl s5el101 (one_cons rfl (one_cons rfl one_nil)) hv rfl rfl (by rw [List.length_take, hesl]; omega) (by rw [List.length_drop, hesl]; omega) (fun zs w69 hzs hv => ?_)
  simp only [zS, zO] at hv
  simp only [zP, po]
  refine wK k68 (rL ?_)
  refine xM (.slice (some ⟨b3, 0, none⟩) (m + 1 : Nat) c3) rfl (xM (.int .i64 (hf : Int)) rfl ?_)
  refine xG (.slice (some ⟨b3, 0, none⟩) hf c3) rfl (ex_slice (hi' := some (.int .i64 (hf : Int))) rfl rfl rfl (congrArg some rfl) rfl (run_hi Tryz.underlying101 s3es101 (by omega))) ?_
  simp only [zP, po]
  refine xA (.slice (some ⟨b3, 0, none⟩) hf c3) rfl ?_
  simp only [zP, po]
  refine wK k52 ?_
  have h9 := hv.cellRow (n := hf) (c := c3) (size := 2) (by simp only [List.length_append, hzs] at hL1 ⊢; exact hL1) (by omega) hL4
  rw [List.append_assoc, List.take_left' (by rw [List.length_take, hesl]; omega)] at h9
  replace hv := h9
  clear h9
  refine rL (xM (.pointer (some ⟨p0, 0, none⟩)) rfl ?_)
  refine xG (.pointer (some ⟨p0, 0, none⟩)) rfl (ex_nil rfl rfl) (xF (.pointer (some ⟨p0, 0, none⟩)) rfl (s3fa89_0 _ _ _) ?_)
  simp only [zP, po]
  refine xL _ rfl (run_load1 s3na87 (hv.load 4 0 rfl rfl)) (xM (.int .i64 (i : Int)) rfl ?_)
  refine xM (.slice (some ⟨b3, 0, none⟩) hf c3) rfl ?_
  simp only [zP, po]
  refine xG (.pointer (some ⟨a5, 0 + i, none⟩)) rfl (ex_index rfl rfl rfl (run_idx1 (k := i) Tryz.underlying87 s3es87 (by omega))) ?_
  replace hv := hv.front 1 rfl
  simp only [List.eraseIdx_cons_succ, List.eraseIdx_cons_zero] at hv
  refine sl_storeRow (v := .slice (some ⟨b3, 0, none⟩) hf c3) tV (wn rfl) rfl rfl rfl hv s3sz101 (by first | (rw [hbl]; omega) | (simp only [List.length_append, List.length_take, List.length_drop, List.length_cons, List.length_nil, hbl]; omega)) rfl rfl (fun w70 hv => ?_)
  rw [Nat.zero_add] at hv
  refine wL ?_
  simp only [zP, po]
  go_end0
  subst hhf
  exact ⟨rfl, .inr ⟨by omega, b3, c3, b4, c4, a5, ca5, ((((hv.front 4 rfl).front 3 rfl).front 3 rfl).sub (List.Sublist.cons_cons _ (List.Sublist.cons_cons _ (List.Sublist.cons_cons _ (List.Sublist.cons_cons _ (List.Sublist.cons _ (List.Sublist.refl _)))))))⟩⟩
 refine xG (.bool false) rfl (ex_gtr rfl rfl rfl (decide_eq_false hb54)) ?_
 simp only [zP, po]
 refine wK k53 (cF rfl ?_)
 refine kS (tK k52 ?_)
 refine rL (xM (.pointer (some ⟨p0, 0, none⟩)) rfl ?_)
 refine xG (.pointer (some ⟨p0, 0, none⟩)) rfl (ex_nil rfl rfl) (xF (.pointer (some ⟨p0, 0, none⟩)) rfl (s3fa89_0 _ _ _) ?_)
 simp only [zP, po]
 refine xL _ rfl (run_load1 s3na87 (hv.load 2 0 rfl rfl)) (xM (.int .i64 (i : Int)) rfl ?_)
 refine xM (.slice (some ⟨b3, 0, none⟩) (m + 1 : Nat) c3) rfl ?_
 simp only [zP, po]
 refine xG (.pointer (some ⟨a, 0 + i, none⟩)) rfl (ex_index rfl rfl rfl (run_idx1 (k := i) Tryz.underlying87 s3es87 (by omega))) ?_
 replace hv := hv.front 3 rfl
 simp only [List.eraseIdx_cons_succ, List.eraseIdx_cons_zero] at hv
 refine sl_storeRow (v := .slice (some ⟨b3, 0, none⟩) (m + 1 : Nat) c3) tV (wn rfl) rfl rfl rfl hv s3sz101 (by first | (rw [hbl]; omega) | (simp only [List.length_append, List.length_take, List.length_drop, List.length_cons, List.length_nil, hbl]; omega)) rfl rfl (fun w71 hv => ?_)
 rw [Nat.zero_add] at hv
 refine wL ?_
 simp only [zP, po]
 go_end0
 exact ⟨rfl, .inl ⟨by omega, b3, c3, (((hv.front 3 rfl).front 2 rfl).sub (List.Sublist.cons_cons _ (List.Sublist.cons_cons _ (List.Sublist.cons_cons _ (List.Sublist.cons _ (List.Sublist.refl _))))))⟩⟩
end Go.Proofs.YtffmbdagjpdieaaGreat
/- The index as a resource: its own block, the row of its blocks, and the blocks. -/
namespace Go.Pm
open Go.RowKit
def Res.star (K : List Res) : Res where
 fp := K.flatMap Res.fp
 holds w := (∀ r ∈ K, r.holds w) ∧ (K.flatMap Res.fp).Nodup
 stab w w' h hw := ⟨fun r hr => r.stab w w' (fun b hb => h b (List.mem_flatMap.2 ⟨r, hr, hb⟩)) (hw.1 r hr), hw.2⟩
theorem Inv.star {B : Base} {K H : List Res} {w : World} (hv : Inv B (K ++ H) w) : Inv B (Res.star K :: H) w := by
 have hd := hv.dis
 rw [List.flatMap_append, List.nodup_append] at hd
 refine ⟨hv.base, fun r hr => ?_, fun r hr b hb => ?_, ?_, fun r hr b hb => ?_⟩
 ·rcases List.mem_cons.1 hr with rfl | hr
  ·exact ⟨fun r hr => hv.own r (List.mem_append_left _ hr), hd.1⟩
  exact hv.own r (List.mem_append_right _ hr)
 ·rcases List.mem_cons.1 hr with rfl | hr
  ·obtain ⟨q, h1, h2⟩ := List.mem_flatMap.1 hb
   exact hv.lt q (List.mem_append_left _ h1) b h2
  exact hv.lt r (List.mem_append_right _ hr) b hb
 ·rw [List.flatMap_cons]
  exact List.nodup_append.2 hd
 rcases List.mem_cons.1 hr with rfl | hr
 ·obtain ⟨q, h1, h2⟩ := List.mem_flatMap.1 hb
  exact hv.out q (List.mem_append_left _ h1) b h2
 exact hv.out r (List.mem_append_right _ hr) b hb
theorem Inv.unstar {B : Base} {K H : List Res} {w : World} (hv : Inv B (Res.star K :: H) w) : Inv B (K ++ H) w := by
 have hd := hv.dis
 rw [List.flatMap_cons] at hd
 have hh := hv.head
 refine ⟨hv.base, fun r hr => ?_, fun r hr b hb => ?_, ?_, fun r hr b hb => ?_⟩
 ·rcases List.mem_append.1 hr with hr | hr
  ·exact hh.1 r hr
  exact hv.own r (List.mem_cons_of_mem _ hr)
 ·rcases List.mem_append.1 hr with hr | hr
  ·exact hv.lt _ List.mem_cons_self b (List.mem_flatMap.2 ⟨r, hr, hb⟩)
  exact hv.lt r (List.mem_cons_of_mem _ hr) b hb
 ·rw [List.flatMap_append]
  exact hd
 rcases List.mem_append.1 hr with hr | hr
 ·exact hv.out _ List.mem_cons_self b (List.mem_flatMap.2 ⟨r, hr, hb⟩)
 exact hv.out r (List.mem_cons_of_mem _ hr) b hb
def blkRes (te : TypeId) : List Value → List (List Ent) → List Res
 | v :: bvs, es :: X => Res.row te 2 v es.length (entCells es) :: blkRes te bvs X
 | _, _ => []
theorem blkRes_append (te : TypeId) : ∀ (b1 : List Value) (X1 : List (List Ent)) (b2 : List Value) (X2 : List (List Ent)), b1.length = X1.length → blkRes te (b1 ++ b2) (X1 ++ X2) = blkRes te b1 X1 ++ blkRes te b2 X2
 | [], [], _, _, _ => rfl
 | v :: b1, es :: X1, b2, X2, h => by
  show _ :: blkRes te (b1 ++ b2) (X1 ++ X2) = _ :: (blkRes te b1 X1 ++ blkRes te b2 X2)
  rw [blkRes_append te b1 X1 b2 X2 (by simpa using h)]
 | [], _ :: _, _, _, h => by cases h
 | _ :: _, [], _, _, h => by cases h
theorem split_at {α : Type} {l : List α} {i : Nat} {x : α} (h : l[i]? = some x) : l = l.take i ++ x :: l.drop (i + 1) := by
 obtain ⟨hi, rfl⟩ := List.getElem?_eq_some_iff.1 h
 have := (List.take_append_drop i l).symm
 rw [List.drop_eq_getElem_cons hi] at this
 exact this
theorem blkRes_split (te : TypeId) {bvs : List Value} {X : List (List Ent)} {i : Nat} {bv : Value} {es : List Ent} (hl : bvs.length = X.length) (hb : bvs[i]? = some bv) (hx : X[i]? = some es) :
  blkRes te bvs X = blkRes te (bvs.take i) (X.take i) ++ Res.row te 2 bv es.length (entCells es) :: blkRes te (bvs.drop (i + 1)) (X.drop (i + 1)) := by
 have h1 := split_at hb
 have h2 := split_at hx
 have h3 : (bvs.take i).length = (X.take i).length := by rw [List.length_take, List.length_take, hl]
 have h4 := blkRes_append te (bvs.take i) (X.take i) (bv :: bvs.drop (i + 1)) (es :: X.drop (i + 1)) h3
 rw [← h1, ← h2] at h4
 exact h4
def ixS (ti tb te : TypeId) (p : Nat) (v : Value) (n : Int) (X : List (List Ent)) (bvs : List Value) : Res := Res.star (Res.cell p [v, .int .i64 n] ti :: Res.row tb 1 v X.length bvs :: blkRes te bvs X)
section
variable {ti tb te : TypeId} {p : Nat} {v : Value} {n : Int} {X : List (List Ent)} {bvs : List Value} {B : Base} {H : List Res} {w : World}
theorem ixS_cell (h : (ixS ti tb te p v n X bvs).holds w) : Blk w p [v, .int .i64 n] ti := h.1 (Res.cell p [v, .int .i64 n] ti) List.mem_cons_self
theorem ixS_row (h : (ixS ti tb te p v n X bvs).holds w) : w.ownsRow 0 tb 1 v X.length bvs := h.1 (Res.row tb 1 v X.length bvs) (List.mem_cons_of_mem _ List.mem_cons_self)
theorem ixS_len (h : (ixS ti tb te p v n X bvs).holds w) : bvs.length = X.length := by have := (ixS_row h).1; omega
theorem ixS_blk (h : (ixS ti tb te p v n X bvs).holds w) {i : Nat} {es : List Ent} {bv : Value} (hx : X[i]? = some es) (hb : bvs[i]? = some bv) : w.ownsRow 0 te 2 bv es.length (entCells es) := by
 refine h.1 (Res.row te 2 bv es.length (entCells es)) (List.mem_cons_of_mem _ (List.mem_cons_of_mem _ ?_))
 rw [blkRes_split te (ixS_len h) hb hx]
 simp
theorem owns_ok {w : World} {e : TypeId} {size n c : Nat} {ad : Option Addr} {xs : List Value} (h : w.ownsRow 0 e size (.slice ad n c) n xs) : SliceOk ad n c := by
 rcases h.2 with ⟨h1, h2⟩ | ⟨g, cap, cur, h1, -, hg, h3, h4, -, -⟩
 ·simp only [Value.slice.injEq] at h1
  obtain ⟨rfl, -, rfl⟩ := h1
  exact ⟨by omega, by simp, fun _ => rfl⟩
 simp only [Value.slice.injEq] at h1
 obtain ⟨rfl, -, rfl⟩ := h1
 exact ⟨h3, h4, fun h => by cases h⟩
theorem ixS_facts (hv : Inv B H w) (hm : ixS ti tb te p v n X bvs ∈ H) : ∃ ad c, v = .slice ad X.length c ∧ SliceOk ad X.length c ∧ Reads B [ixS ti tb te p v n X bvs] p 0 [v, .int .i64 n] ∧ RdW B [ixS ti tb te p v n X bvs] ad bvs ∧ BlksAt B [ixS ti tb te p v n X bvs] X bvs := by
 have hh := hv.own _ hm
 have hlen := ixS_len hh
 have hone : ∀ {K : List Res}, (∀ r ∈ [ixS ti tb te p v n X bvs], r ∈ K) → ixS ti tb te p v n X bvs ∈ K := fun h => h _ (List.mem_singleton.2 rfl)
 obtain ⟨ad, c, rfl⟩ := row_slice (ixS_row hh)
 refine ⟨ad, c, rfl, owns_ok (ixS_row hh), fun C K w' _ hR hv' j x hj => ?_, fun i hi => ?_, hlen, fun i es hes => ?_⟩
 ·rw [Blk.cell (ixS_cell (hv'.own _ (hone hR))), Nat.zero_add]; exact hj
 ·obtain ⟨b, rfl⟩ := row_some (ixS_row hh) (by omega)
  exact ⟨b, 0, rfl, fun C K w' _ hR hv' => row_load (ixS_row (hv'.own _ (hone hR))) (List.getElem?_eq_getElem hi)⟩
 have hi := (List.getElem?_eq_some_iff.1 hes).1
 obtain ⟨bv, hbv⟩ : ∃ bv, bvs[i]? = some bv := ⟨_, List.getElem?_eq_getElem (by omega)⟩
 obtain ⟨ad', c', rfl⟩ := row_slice (ixS_blk hh hes hbv)
 refine ⟨ad', c', hbv, owns_ok (ixS_blk hh hes hbv), fun k hk => ?_⟩
 have hk2 := hk
 rw [entCells_len] at hk2
 obtain ⟨b, rfl⟩ := row_some (ixS_blk hh hes hbv) (by omega)
 exact ⟨b, 0, rfl, fun C K w' _ hR hv' => row_load (ixS_blk (hv'.own _ (hone hR)) hes hbv) (List.getElem?_eq_getElem hk)⟩
theorem Inv.ixOpen (hv : Inv B (ixS ti tb te p v n X bvs :: H) w) {i : Nat} {es : List Ent} (hes : X[i]? = some es) (hne : es ≠ []) : ∃ a ca b c, v = .slice (some ⟨a, 0, none⟩) X.length ca ∧ bvs.length = X.length ∧ bvs[i]? = some (.slice (some ⟨b, 0, none⟩) es.length c) ∧
  Inv B (Res.row te 2 (.slice (some ⟨b, 0, none⟩) es.length c) es.length (entCells es) :: Res.cell p [v, .int .i64 n] ti :: Res.row tb 1 v X.length bvs :: (blkRes te (bvs.take i) (X.take i) ++ (blkRes te (bvs.drop (i + 1)) (X.drop (i + 1)) ++ H))) w := by
 have hh := hv.head
 have hlen := ixS_len hh
 have hi := (List.getElem?_eq_some_iff.1 hes).1
 obtain ⟨ad, ca, rfl⟩ := row_slice (ixS_row hh)
 obtain ⟨a, rfl⟩ := row_some (ixS_row hh) (by omega)
 obtain ⟨bv, hbv⟩ : ∃ bv, bvs[i]? = some bv := ⟨_, List.getElem?_eq_getElem (by omega)⟩
 obtain ⟨ad', c, rfl⟩ := row_slice (ixS_blk hh hes hbv)
 obtain ⟨b, rfl⟩ := row_some (ixS_blk hh hes hbv) (List.length_pos_iff.2 hne)
 refine ⟨a, ca, b, c, rfl, hlen, hbv, ?_⟩
 have h1 := hv.unstar
 rw [blkRes_split te hlen hbv hes] at h1
 refine h1.perm ?_
 have := (List.perm_append_comm (l₁ := [Res.row te 2 (.slice (some ⟨b, 0, none⟩) es.length c) es.length (entCells es)]) (l₂ := Res.cell p [.slice (some ⟨a, 0, none⟩) X.length ca, .int .i64 n] ti :: Res.row tb 1 (.slice (some ⟨a, 0, none⟩) X.length ca) X.length bvs :: blkRes te (bvs.take i) (X.take i))).append_right (blkRes te (bvs.drop (i + 1)) (X.drop (i + 1)) ++ H)
 simpa only [List.append_assoc, List.cons_append, List.nil_append] using this.symm
theorem Inv.ixClose1 {i : Nat} {es' : List Ent} {bv' v' : Value} {n' : Int} (hlen : bvs.length = X.length) (hi : i < X.length)
  (hv : Inv B (Res.row te 2 bv' es'.length (entCells es') :: Res.cell p [v', .int .i64 n'] ti :: Res.row tb 1 v' X.length (bvs.set i bv') :: (blkRes te (bvs.take i) (X.take i) ++ (blkRes te (bvs.drop (i + 1)) (X.drop (i + 1)) ++ H))) w) : Inv B (ixS ti tb te p v' n' (X.set i es') (bvs.set i bv') :: H) w := by
 refine Inv.star (hv.perm ?_)
 have := (List.perm_append_comm (l₁ := [Res.row te 2 bv' es'.length (entCells es')]) (l₂ := Res.cell p [v', .int .i64 n'] ti :: Res.row tb 1 v' X.length (bvs.set i bv') :: blkRes te (bvs.take i) (X.take i))).append_right (blkRes te (bvs.drop (i + 1)) (X.drop (i + 1)) ++ H)
 have hsp := blkRes_split te (bvs := bvs.set i bv') (X := X.set i es') (i := i) (bv := bv') (es := es') (by rw [List.length_set, List.length_set, hlen]) (by rw [List.getElem?_set_self (by omega)]) (by rw [List.getElem?_set_self hi])
 rw [List.take_set_of_le (Nat.le_refl _), List.take_set_of_le (Nat.le_refl _), List.drop_set_of_lt (by omega), List.drop_set_of_lt (by omega)] at hsp
 rw [hsp, List.length_set]
 simpa only [List.append_assoc, List.cons_append, List.nil_append] using this
theorem set_mid {α : Type} {l : List α} {i : Nat} (hi : i < l.length) (x y : α) : (l.take (i + 1) ++ [x] ++ l.drop (i + 1)).set i y = l.take i ++ y :: x :: l.drop (i + 1) := by
 have h1 : l.take (i + 1) = l.take i ++ [l[i]] := take_next (List.getElem?_eq_getElem hi)
 have h2 : (l.take i).length = i := by rw [List.length_take]; omega
 rw [h1, List.append_assoc, List.append_assoc, List.set_append_right _ _ (by omega), h2, Nat.sub_self]
 rfl
theorem Inv.ixClose2 {i : Nat} {e1 e2 : List Ent} {b1 b2 v' : Value} {n' : Int} (hlen : bvs.length = X.length) (hi : i < X.length)
  (hv : Inv B (Res.row te 2 b1 e1.length (entCells e1) :: Res.row te 2 b2 e2.length (entCells e2) :: Res.cell p [v', .int .i64 n'] ti :: Res.row tb 1 v' (X.length + 1) ((bvs.take (i + 1) ++ [b2] ++ bvs.drop (i + 1)).set i b1) :: (blkRes te (bvs.take i) (X.take i) ++ (blkRes te (bvs.drop (i + 1)) (X.drop (i + 1)) ++ H))) w) : Inv B (ixS ti tb te p v' n' (X.take i ++ e1 :: e2 :: X.drop (i + 1)) (bvs.take i ++ b1 :: b2 :: bvs.drop (i + 1)) :: H) w := by
 rw [set_mid (by omega)] at hv
 refine Inv.star (hv.perm ?_)
 have := (List.perm_append_comm (l₁ := [Res.row te 2 b1 e1.length (entCells e1), Res.row te 2 b2 e2.length (entCells e2)]) (l₂ := Res.cell p [v', .int .i64 n'] ti :: Res.row tb 1 v' (X.length + 1) (bvs.take i ++ b1 :: b2 :: bvs.drop (i + 1)) :: blkRes te (bvs.take i) (X.take i))).append_right (blkRes te (bvs.drop (i + 1)) (X.drop (i + 1)) ++ H)
 rw [blkRes_append te (bvs.take i) (X.take i) _ _ (by rw [List.length_take, List.length_take, hlen])]
 have hl : (X.take i ++ e1 :: e2 :: X.drop (i + 1)).length = X.length + 1 := by simp only [List.length_append, List.length_take, List.length_cons, List.length_drop]; omega
 rw [hl]
 simpa only [List.append_assoc, List.cons_append, List.nil_append, blkRes] using this
end
end Go.Pm
/- index.insert on the whole index; index.Set. -/
namespace Go.Proofs.YtffmbdagjpdieaaGreat
open Go.RowKit Go.Pm
theorem s6mk100 : (Tryz.prog.info? 100).map (fun i => (i.zero, i.size, i.bytes)) = some (some (.agg #[.string ⟨([] : List UInt8).toArray⟩, .slice none 0 0]), 2, 40) := by kernel_rfl
theorem s6el101 : Elem Tryz.prog 101 100 (.agg #[.string ⟨([] : List UInt8).toArray⟩, .slice none 0 0]) 2 40 := elem_of Tryz.underlying101 s6mk100 (by rfl) (by decide)
theorem s6mk101 : (Tryz.prog.info? 101).map (fun i => (i.zero, i.size, i.bytes)) = some (some (.slice none 0 0), 1, 24) := by kernel_rfl
theorem s6el87 : Elem Tryz.prog 87 101 (.slice none 0 0) 1 24 := elem_of Tryz.underlying87 s6mk101 (by rfl) (by decide)
set_option maxHeartbeats 2000000 in
theorem ixInsert0 (B : Base) (H : List Res) (w : World) (p0 c i0 j0 : Nat) (n : Int) (ad : Option Addr) (key : List UInt8) (cv : Value) (hn : 0 ≤ n ∧ n ≤ 1000000) (hv : Inv B (Res.cell p0 [.slice ad 0 c, .int .i64 n] 89 :: H) w) :
  Calls Tryz.prog 53 #[.pointer (some ⟨p0, 0, none⟩), .int .i64 (i0 : Int), .int .i64 (j0 : Int), .agg #[.string ⟨key.toArray⟩, cv]] w fun e w' => e = .returned (.tuple #[]) ∧ ∃ b1 b2, Inv B (Res.cell p0 [.slice (some ⟨b2, 0, none⟩) 1 1, .int .i64 (n + 1)] 89 :: Res.row 100 2 (.slice (some ⟨b1, 0, none⟩) 1 1) 1 [.string ⟨key.toArray⟩, cv] :: Res.row 101 1 (.slice (some ⟨b2, 0, none⟩) 1 1) 1 [.slice (some ⟨b1, 0, none⟩) 1 1] :: H) w' := by
 refine cW Tryz.func53 rfl Tryz.ntmps53 ?_
 simp only [al]
 refine sK fun _ k1 => rL (sl_box (L := [.string ⟨key.toArray⟩, cv]) tV (wn rfl) rfl rfl hv (fun w => by kernel_rfl) (fun b2 w3 hv => ?_))
 simp only [zP, po]
 refine wK k1 (sK fun _ k4 => ?_)
 refine rL (xM (.pointer (some ⟨p0, 0, none⟩)) rfl ?_)
 refine xG (.pointer (some ⟨p0, 0, none⟩)) rfl (ex_nil rfl rfl) (xF (.pointer (some ⟨p0, 1, none⟩)) rfl (s3fa89_1 _ _ _) ?_)
 simp only [zP, po]
 refine xL _ rfl (run_load1 s2na3 (hv.load 1 1 rfl rfl)) (xG (.int .i64 (n + 1)) rfl (ex_add rfl rfl rfl (i64_in (by omega))) ?_)
 refine xG (.pointer (some ⟨p0, 0, none⟩)) rfl (ex_nil rfl rfl) ?_
 simp only [zP, po]
 refine xF (.pointer (some ⟨p0, 1, none⟩)) rfl (s3fa89_1 _ _ _) (xV 1 (.int .i64 (n + 1)) rfl hv s5sz3 rfl rfl (fun w5 hv => ?_))
 simp only [zS, zO, sp] at hv
 simp only [zP, po]
 refine wK k4 (sK fun _ k6 => ?_)
 refine sK fun _ k7 => rL (xM (.pointer (some ⟨p0, 0, none⟩)) rfl ?_)
 refine xG (.pointer (some ⟨p0, 0, none⟩)) rfl (ex_nil rfl rfl) (xF (.pointer (some ⟨p0, 0, none⟩)) rfl (s3fa89_0 _ _ _) ?_)
 simp only [zP, po]
 refine xL _ rfl (run_load1 s3na87 (hv.load 1 0 rfl rfl)) (xG (.int .i64 0) rfl (ex_len0 Tryz.underlying87 rfl rfl) ?_)
 refine xG (.bool true) rfl (ex_eql rfl rfl rfl (by decide)) ?_
 simp only [zP, po]
 refine wK k7 (cT rfl ?_)
 refine sK fun _ k8 => rL (xM (.pointer (some ⟨p0, 0, none⟩)) rfl ?_)
 refine xL (.agg #[.string ⟨key.toArray⟩, cv]) rfl (run_load_mid (pre := []) (mid := [.string ⟨key.toArray⟩, cv]) (post := []) s5wd100 (show Blk _ b2 ([] ++ [.string ⟨key.toArray⟩, cv] ++ []) _ from hv.get 0 rfl) rfl) (sl_rowAgg (L := [.string ⟨key.toArray⟩, cv]) tV (wn rfl) rfl rfl hv s6el101 rfl (by decide) (fun b9 w10 hv => ?_))
 simp only [zP, po]
 refine sl_rowOne (v := .slice (some ⟨b9, 0, none⟩) 1 1) tV (wn rfl) rfl rfl hv s6el87 rfl (fun b11 w12 hv => ?_)
 refine xG (.pointer (some ⟨p0, 0, none⟩)) rfl (ex_nil rfl rfl) (xF (.pointer (some ⟨p0, 0, none⟩)) rfl (s3fa89_0 _ _ _) ?_)
 simp only [zP, po]
 refine xV 3 (.slice (some ⟨b11, 0, none⟩) 1 1) rfl hv s5sz87 rfl rfl (fun w13 hv => ?_)
 simp only [zS, zO, sp] at hv
 simp only [zP, po]
 refine wK k8 (rR ?_)
 refine tR (bodyPost_ret (results_none rfl _ _ _) rfl ?_)
 have h9 := ((((hv.front 3 rfl).front 1 rfl).front 2 rfl).sub (List.Sublist.cons_cons _ (List.Sublist.cons_cons _ (List.Sublist.cons_cons _ (List.Sublist.cons _ (List.Sublist.refl _))))))
 have h8 := h9.cellRow (n := 1) (c := 1) (size := 2) rfl (by decide) (by decide)
 have h7 := (h8.front 1 rfl).cellRow (n := 1) (c := 1) (size := 1) rfl (by decide) (by decide)
 exact ⟨rfl, b9, b11, (h7.front 1 rfl).front 2 rfl⟩
theorem ixInsert (B : Base) (H : List Res) (w : World) (p : Nat) (v : Value) (n : Int) (X : List (List Ent)) (bvs : List Value) (key : List UInt8) (cv : Value) (i j : Nat) (hfi : FindI X key i j false) (hne : ∀ es ∈ X, es ≠ []) (hX : X.length ≤ 1000000) (hE : ∀ es ∈ X, es.length ≤ 1000000) (h1 : ∀ es ∈ X, ∀ e ∈ es, e.2.oneCell' = true) (hn : 0 ≤ n ∧ n ≤ 1000000) (hc1 : cv.cells = #[cv] ∧ cv.oneCell' = true) (hv : Inv B (ixS 89 101 100 p v n X bvs :: H) w) :
  Calls Tryz.prog 53 #[.pointer (some ⟨p, 0, none⟩), .int .i64 (i : Int), .int .i64 (j : Int), .agg #[.string ⟨key.toArray⟩, cv]] w fun e w' => e = .returned (.tuple #[]) ∧ ∃ v' X' bvs', Inv B (ixS 89 101 100 p v' (n + 1) X' bvs' :: H) w' ∧ X'.flatten = X.flatten.take (posOf X i j) ++ (key, cv) :: X.flatten.drop (posOf X i j) ∧ ∀ es ∈ X', es ≠ [] := by
 have one_ent : ∀ l : List Ent, (∀ e ∈ l, e.2.oneCell' = true) → ∀ u ∈ entCells l, u.oneCell' = true := by
  intro l hl u hu
  obtain ⟨e, he, h⟩ := List.mem_flatMap.1 hu
  simp only [List.mem_cons, List.not_mem_nil, or_false] at h
  rcases h with h | h
  ·rw [h]; rfl
  rw [h]; exact hl e he
 by_cases hX0 : X = []
 ·subst hX0
  have hh := hv.head
  obtain ⟨ad, c, rfl⟩ := row_slice (ixS_row hh)
  have hb0 : bvs = [] := List.eq_nil_of_length_eq_zero (ixS_len hh)
  subst hb0
  have h2 : Inv B (Res.cell p [.slice ad 0 c, .int .i64 n] 89 :: H) w := hv.unstar.sub (List.Sublist.cons_cons _ (List.Sublist.cons _ (List.Sublist.refl _)))
  refine (ixInsert0 B H w p c i j n ad key cv hn h2).mono ?_
  rintro e w' ⟨he, b1, b2, h3⟩
  refine ⟨he, .slice (some ⟨b2, 0, none⟩) 1 1, [[(key, cv)]], [.slice (some ⟨b1, 0, none⟩) 1 1], Inv.star ?_, ?_, ?_⟩
  ·exact (h3.front 2 rfl).front 1 rfl
  ·simp [posOf]
  intro es hes; simp at hes; subst hes; simp
 have hXl : 0 < X.length := List.length_pos_iff.2 hX0
 -- the block, and the place in it
 obtain ⟨i', j', es, hes, hj', hcase, hpos⟩ : ∃ i' j' es, X[i']? = some es ∧ j' ≤ es.length ∧ ((i = i' ∧ j = j') ∨ (i = X.length ∧ i' + 1 = X.length ∧ es.length - j' = 0)) ∧ posOf X i j = (X.take i').flatten.length + j' := by
  rcases Nat.lt_or_ge i X.length with hi | hi
  ·obtain ⟨es, hes⟩ : ∃ es, X[i]? = some es := ⟨_, List.getElem?_eq_getElem hi⟩
   obtain ⟨e, he, -⟩ := hfi.at_ es hes
   exact ⟨i, j, es, hes, Nat.le_of_lt (List.getElem?_eq_some_iff.1 he).1, .inl ⟨rfl, rfl⟩, rfl⟩
  have hiX : i = X.length := by have := hfi.le; omega
  obtain ⟨es, hes⟩ : ∃ es, X[X.length - 1]? = some es := ⟨_, List.getElem?_eq_getElem (by omega)⟩
  refine ⟨X.length - 1, es.length, es, hes, Nat.le_refl _, .inr ⟨hiX, by omega, by omega⟩, ?_⟩
  rw [posOf, (hfi.out hiX).1, hiX, List.take_length, Nat.add_zero, flatten_at hes, List.length_append, List.length_append, show X.length - 1 + 1 = X.length by omega, List.drop_length]
  simp
 have hi' := (List.getElem?_eq_some_iff.1 hes).1
 have hesm := List.mem_of_getElem? hes
 have hel : 0 < es.length := List.length_pos_iff.2 (hne es hesm)
 obtain ⟨a, ca, b, c, rfl, hlen, hbi, hv1⟩ := hv.ixOpen hes (hne es hesm)
 have hsplit : entCells es = entCells (es.take j') ++ entCells (es.drop j') := by rw [← entCells_append, List.take_append_drop]
 rw [hsplit] at hv1
 have h1b : ∀ u ∈ bvs, u.oneCell' = true := by
  intro u hu
  obtain ⟨k, hk⟩ := List.mem_iff_getElem?.1 hu
  obtain ⟨es2, hes2⟩ : ∃ es2, X[k]? = some es2 := ⟨_, List.getElem?_eq_getElem (by have := (List.getElem?_eq_some_iff.1 hk).1; omega)⟩
  obtain ⟨ad2, c2, rfl⟩ := row_slice (ixS_blk hv.head hes2 hk)
  rfl
 have hcell : ∀ k : Nat, entCells ((es.take j' ++ [(key, cv)] ++ es.drop j').take k) = ((entCells (es.take j') ++ [.string ⟨key.toArray⟩, cv] ++ entCells (es.drop j')).take (k * 2)) := fun k => by
  rw [← entCells_take, entCells_append, entCells_append]; rfl
 have hcelld : ∀ k : Nat, entCells ((es.take j' ++ [(key, cv)] ++ es.drop j').drop k) = ((entCells (es.take j') ++ [.string ⟨key.toArray⟩, cv] ++ entCells (es.drop j')).drop (k * 2)) := fun k => by
  rw [← entCells_drop, entCells_append, entCells_append]; rfl
 have hcell0 : entCells (es.take j' ++ [(key, cv)] ++ es.drop j') = entCells (es.take j') ++ [.string ⟨key.toArray⟩, cv] ++ entCells (es.drop j') := by
  rw [entCells_append, entCells_append]; rfl
 have hl' : (es.take j' ++ [(key, cv)] ++ es.drop j').length = es.length + 1 := by
  simp only [List.length_append, List.length_take, List.length_drop, List.length_cons, List.length_nil]; omega
 have hflat : ∀ Y : List Ent, Y = es.take j' ++ [(key, cv)] ++ es.drop j' → (X.take i').flatten ++ (Y ++ (X.drop (i' + 1)).flatten) = X.flatten.take (posOf X i j) ++ (key, cv) :: X.flatten.drop (posOf X i j) := fun Y hY => by
  have ht : X.flatten.take (posOf X i j) = (X.take i').flatten ++ es.take j' := by
   rw [hpos, flatten_at hes, List.take_append, List.take_of_length_le (by omega), Nat.add_sub_cancel_left, List.take_append_of_le_length hj']
  have hd : X.flatten.drop (posOf X i j) = es.drop j' ++ (X.drop (i' + 1)).flatten := by
   rw [hpos, flatten_at hes, List.drop_append, List.drop_of_length_le (by omega), Nat.add_sub_cancel_left, List.nil_append, List.drop_append_of_le_length hj']
  rw [ht, hd, hY]
  simp only [List.append_assoc, List.cons_append, List.nil_append]
 refine (ixInsert1 B _ w p a X.length ca b es.length c i' j' (es.length - j') i j n bvs (entCells (es.take j')) (entCells (es.drop j')) key cv hX hi' hel (by omega) (hE es hesm) hn hcase (by rw [entCells_len, List.length_take]; omega) (by rw [entCells_len, List.length_drop]) (one_ent _ (fun e he => h1 es hesm e (List.mem_of_mem_take he))) (one_ent _ (fun e he => h1 es hesm e (List.mem_of_mem_drop he))) h1b hlen hbi hc1 hv1).mono ?_
 rintro e w' ⟨he, ⟨-, b', c', h3⟩ | ⟨hbig, b1, c1, b2, c2, a', ca', h3⟩⟩
 ·refine ⟨he, _, X.set i' (es.take j' ++ [(key, cv)] ++ es.drop j'), _, Inv.ixClose1 (es' := es.take j' ++ [(key, cv)] ++ es.drop j') hlen hi' (by rw [hl', hcell0]; exact h3), ?_, ?_⟩
  ·rw [flatten_set hes]; exact hflat _ rfl
  intro es2 h2
  rcases List.mem_or_eq_of_mem_set h2 with h2 | h2
  ·exact hne es2 h2
  rw [h2]; simp
 have e1l : ((es.take j' ++ [(key, cv)] ++ es.drop j').take ((es.length + 1) / 2)).length = (es.length + 1) / 2 := by rw [List.length_take, hl']; omega
 have e2l : ((es.take j' ++ [(key, cv)] ++ es.drop j').drop ((es.length + 1) / 2)).length = es.length + 1 - (es.length + 1) / 2 := by rw [List.length_drop, hl']
 refine ⟨he, _, _, _, Inv.ixClose2 (e1 := (es.take j' ++ [(key, cv)] ++ es.drop j').take ((es.length + 1) / 2)) (e2 := (es.take j' ++ [(key, cv)] ++ es.drop j').drop ((es.length + 1) / 2)) hlen hi' (by rw [e1l, e2l, hcell, hcelld]; exact h3), ?_, ?_⟩
 ·rw [List.flatten_append, List.flatten_cons, List.flatten_cons, ← List.append_assoc (List.take _ (es.take j' ++ [(key, cv)] ++ es.drop j')), List.take_append_drop]
  exact hflat _ rfl
 intro es2 h2
 rcases List.mem_append.1 h2 with h2 | h2
 ·exact hne es2 (List.mem_of_mem_take h2)
 rcases List.mem_cons.1 h2 with h2 | h2
 ·intro h0; rw [h2] at h0; rw [h0] at e1l; simp at e1l; omega
 rcases List.mem_cons.1 h2 with h2 | h2
 ·intro h0; rw [h2] at h0; rw [h0] at e2l; simp at e2l; omega
 exact hne es2 (List.mem_of_mem_drop h2)
end Go.Proofs.YtffmbdagjpdieaaGreat
/- The index's model, a key's chain set. -/
namespace Go.Pm
open Go.RowKit
theorem entCells_set {l : List Ent} {j : Nat} {f : Ent} (h : l[j]? = some f) (q : Value) : entCells (l.set j (f.1, q)) = (entCells l).set (j * 2 + 1) q := by
 induction l generalizing j with
 | nil => simp at h
 | cons a l ih =>
  cases j with
  | zero =>
   simp only [List.getElem?_cons_zero, Option.some.injEq] at h
   subst h
   rfl
  | succ j =>
   show strV a.1 :: a.2 :: entCells (l.set j (f.1, q)) = (strV a.1 :: a.2 :: entCells l).set ((j + 1) * 2 + 1) q
   rw [ih (by simpa using h), show (j + 1) * 2 + 1 = (j * 2 + 1) + 1 + 1 by omega]
   rfl
theorem set_same {α : Type} {l : List α} {i : Nat} {x : α} (h : l[i]? = some x) : l.set i x = l := by
 obtain ⟨hi, rfl⟩ := List.getElem?_eq_some_iff.1 h
 exact List.set_getElem_self hi
section
variable {B : Base} {X X' : List (List Ent)} {M : Model} {key : List UInt8} {i j : Nat} {l : List Ver} {q : Value}
theorem setM_len_false {k : Nat} (h : k ≤ M.length) : (setM M key l k false).length = M.length + 1 := by
 unfold setM
 simp only [List.length_append, List.length_take, List.length_cons, Bool.false_eq_true, if_false, List.length_drop]
 omega
theorem setM_len_true {k : Nat} (h : k < M.length) : (setM M key l k true).length = M.length := by
 unfold setM
 simp only [List.length_append, List.length_take, List.length_cons, if_true, List.length_drop]
 omega
theorem setM_ch {k : Nat} {ok : Bool} (h : ∀ m ∈ M, m.2 ≠ [] ∧ m.2.length ≤ 1000) (hl : l ≠ [] ∧ l.length ≤ 1000) : ∀ m ∈ setM M key l k ok, m.2 ≠ [] ∧ m.2.length ≤ 1000 := by
 intro m hm
 unfold setM at hm
 rcases List.mem_append.1 hm with h1 | h1
 ·exact h m (List.mem_of_mem_take h1)
 rcases List.mem_cons.1 h1 with h1 | h1
 ·rw [h1]; exact hl
 exact h m (List.mem_of_mem_drop h1)
theorem ixm_insert (h : IxM B X M) (hfi : FindI X key i j false) (hfl : X'.flatten = X.flatten.take (posOf X i j) ++ (key, q) :: X.flatten.drop (posOf X i j)) (hne : ∀ es ∈ X', es ≠ []) (hq : ChainB B q l) (hl : l ≠ [] ∧ l.length ≤ 1000) (hM : M.length < 100000) :
  IxM B X' (setM M key l (posOf X i j) false) ∧ (∀ k, getM (setM M key l (posOf X i j) false) k = if k = key then l else getM M k) ∧ (setM M key l (posOf X i j) false).length = M.length + 1 := by
 have hp := hfi.pos h.so
 have hk : posOf X i j ≤ M.length := by rw [← h.mo.len]; exact hp.le
 have hlen := setM_len_false (key := key) (l := l) hk
 refine ⟨⟨hne, ?_, ?_, setM_ch h.ch hl, by omega⟩, getM_setM hp h.mo l, hlen⟩
 ·unfold IxSorted
  have hs := h.so
  unfold IxSorted at hs
  have hg := pw_of hs hp
  rw [hfl, List.pairwise_append]
  rw [← List.take_append_drop (posOf X i j) X.flatten, List.pairwise_append] at hs
  refine ⟨hs.1, List.pairwise_cons.2 ⟨fun e he => (hg e he).2, hs.2.1⟩, fun a ha b hb => ?_⟩
  rcases List.mem_cons.1 hb with hb | hb
  ·rw [hb]; exact hp.lo a ha
  exact hs.2.2 a ha b hb
 rw [hfl]
 unfold setM
 have hm : Mods B ((key, q) :: X.flatten.drop (posOf X i j)) ((key, l) :: M.drop (if false = true then posOf X i j + 1 else posOf X i j)) := ⟨⟨rfl, hq⟩, by simpa using h.mo.drop (posOf X i j)⟩
 exact Mods.append hm (h.mo.take (posOf X i j))
theorem flat_set {es : List Ent} {f : Ent} (hes : X[i]? = some es) (hf : es[j]? = some f) (x : Ent) : (X.set i (es.set j x)).flatten = X.flatten.take (posOf X i j) ++ x :: X.flatten.drop (posOf X i j + 1) := by
 have hj := (List.getElem?_eq_some_iff.1 hf).1
 rw [flatten_set hes, List.set_eq_take_append_cons_drop, if_pos hj]
 have ht : X.flatten.take (posOf X i j) = (X.take i).flatten ++ es.take j := by
  rw [posOf, flatten_at hes, List.take_append, List.take_of_length_le (by omega), Nat.add_sub_cancel_left, List.take_append_of_le_length (by omega)]
 have hd : X.flatten.drop (posOf X i j + 1) = es.drop (j + 1) ++ (X.drop (i + 1)).flatten := by
  rw [posOf, flatten_at hes, Nat.add_assoc, List.drop_append, List.drop_of_length_le (by omega), Nat.add_sub_cancel_left, List.nil_append, List.drop_append_of_le_length (by omega)]
 rw [ht, hd]
 simp only [List.append_assoc, List.cons_append]
theorem ixm_update (h : IxM B X M) (hfi : FindI X key i j true) {es : List Ent} {f : Ent} (hes : X[i]? = some es) (hf : es[j]? = some f) (hq : ChainB B q l) (hl : l ≠ [] ∧ l.length ≤ 1000) :
  f.1 = key ∧ IxM B (X.set i (es.set j (f.1, q))) (setM M key l (posOf X i j) true) ∧ (∀ k, getM (setM M key l (posOf X i j) true) k = if k = key then l else getM M k) ∧ (setM M key l (posOf X i j) true).length = M.length := by
 have hp := hfi.pos h.so
 obtain ⟨e, m, h1, h2, h3, h4, h5, h6⟩ := hp.some h.mo
 rw [flat_get hes hf] at h1
 cases h1
 have hk : posOf X i j < M.length := (List.getElem?_eq_some_iff.1 h2).1
 have hlen := setM_len_true (key := key) (l := l) hk
 have hfl := flat_set hes hf (f.1, q)
 have hs := h.so
 unfold IxSorted at hs
 have hX := flat_get hes hf
 have hlt := pw_take_lt hs hX
 refine ⟨h3, ⟨?_, ?_, ?_, setM_ch h.ch hl, by rw [hlen]; exact h.sm⟩, getM_setM hp h.mo l, hlen⟩
 ·intro es2 h7
  rcases List.mem_or_eq_of_mem_set h7 with h7 | h7
  ·exact h.ne es2 h7
  intro h0
  rw [h7] at h0
  have := congrArg List.length h0
  rw [List.length_set] at this
  exact h.ne es (List.mem_of_getElem? hes) (List.eq_nil_of_length_eq_zero this)
 ·unfold IxSorted
  rw [hfl, List.pairwise_append]
  have hs2 := hs
  rw [split_at hX, List.pairwise_append] at hs2
  refine ⟨hs2.1, List.pairwise_cons.2 ⟨fun e he => hlt.2 e he, (List.pairwise_cons.1 hs2.2.1).2⟩, fun a ha b hb => ?_⟩
  rcases List.mem_cons.1 hb with hb | hb
  ·rw [hb]; exact hlt.1 a ha
  exact hs2.2.2 a ha b (List.mem_cons_of_mem _ hb)
 rw [hfl]
 unfold setM
 have hm : Mods B ((f.1, q) :: X.flatten.drop (posOf X i j + 1)) ((key, l) :: M.drop (if true = true then posOf X i j + 1 else posOf X i j)) := ⟨⟨h3, hq⟩, by simpa using h.mo.drop (posOf X i j + 1)⟩
 exact Mods.append hm (h.mo.take (posOf X i j))
end
end Go.Pm
/- index.Set, and Get, of an index of one's own. -/
namespace Go.Proofs.YtffmbdagjpdieaaGreat
open Go.RowKit Go.Pm
theorem mods_mem {B : Base} {l : List Ent} {M : Model} (h : Mods B l M) {e : Ent} (he : e ∈ l) : ∃ m, m ∈ M ∧ e.1 = m.1 ∧ ChainB B e.2 m.2 := by
 obtain ⟨k, hk⟩ := List.mem_iff_getElem?.1 he
 obtain ⟨m, h1, h2, h3⟩ := h.get hk
 exact ⟨m, List.mem_of_getElem? h1, h2, h3⟩
theorem s7sz70 : (Tryz.prog.info? 70).map (·.size) = some 1 := by kernel_rfl
theorem s7callable53 : Callable Tryz.prog 53 := ⟨_, Tryz.func53, by kernel_rfl, by kernel_rfl⟩
set_option maxHeartbeats 4000000 in
theorem ixSet0 (B : Base) (H : List Res) (w : World) (p : Nat) (v : Value) (X : List (List Ent)) (bvs : List Value) (M : Model) (key : List UInt8) (cad : Option Addr) (cc : Nat) (cxs : List Value) (l : List Ver) (hx : IxM B X M) (hM : M.length < 100000) (hcok : SliceOk cad l.length cc) (hcr : RdV B [] cad cxs) (hcx : VersAt B l cxs) (hl0 : l ≠ []) (hl : l.length ≤ 1000) (hv : Inv B (ixS 89 101 100 p v (M.length : Int) X bvs :: H) w) :
  Calls Tryz.prog 23 #[.pointer (some ⟨p, 0, none⟩), .string ⟨key.toArray⟩, .slice cad l.length cc] w fun e w' => e = .returned (.tuple #[]) ∧ ∃ C v' X' bvs' M', B.Le C ∧ IxM C X' M' ∧ (∀ k, getM M' k = if k = key then l else getM M k) ∧ (M.length ≤ M'.length ∧ M'.length ≤ M.length + 1) ∧ Inv C (ixS 89 101 100 p v' (M'.length : Int) X' bvs' :: H) w' := by
 obtain ⟨ad, c, hva0, hok0, hp, hr, hbv⟩ := ixS_facts hv List.mem_cons_self
 subst hva0
 have hl1 : 0 < l.length := List.length_pos_iff.2 hl0
 refine cW Tryz.func23 rfl Tryz.ntmps23 ?_
 simp only [al]
 refine sK fun _ k1 => rL (xM (.pointer (some ⟨p, 0, none⟩)) rfl ?_)
 refine xM (.string ⟨key.toArray⟩) rfl (xC s3callable51 rfl ((ixFind B _ _ p _ X ad c bvs key _ (fun r hr => by rw [List.mem_singleton.1 hr]; exact List.mem_cons_self) hp hr hbv hx.ok hv).mono ?_) rfl)
 rintro e w2 ⟨i, j, ok, hfi, rfl, hv⟩
 refine ⟨_, rfl, ?_⟩
 simp only [zP, po]
 refine xM (.tuple #[.int .i64 (i : Int), .int .i64 (j : Int), .bool ok]) rfl (xG (.int .i64 (i : Int)) rfl (ex_extract rfl rfl rfl) ?_)
 refine xG (.int .i64 (j : Int)) rfl (ex_extract rfl rfl rfl) ?_
 simp only [zP, po]
 refine xG (.bool ok) rfl (ex_extract rfl rfl rfl) (xA (.int .i64 (i : Int)) rfl ?_)
 refine xA (.int .i64 (j : Int)) rfl ?_
 simp only [zP, po]
 refine xA (.bool ok) rfl ?_
 simp only [zP, po]
 refine wK k1 (bB ?_)
 refine sK fun _ k3 => rL (xM (.slice cad l.length cc) rfl ?_)
 refine xG (.int .i64 (l.length : Int)) rfl (ex_len0 Tryz.underlying70 rfl rfl) (xG (.bool true) rfl (ex_gtr rfl rfl rfl (decide_eq_true (by omega))) ?_)
 simp only [zP, po]
 refine xM (.bool true) rfl (xM (.bool ok) rfl ?_)
 refine xK true (.bool ok) rfl ?_
 simp only [zP, po]
 refine xA (.bool ok) rfl ?_
 simp only [zP, po]
 refine wK k3 (wpIn_cond_split (t := ok) rfl (fun hc4 => ?_) (fun hc4 => ?_))
 ·subst hc4
  have hilt := hfi.lt
  obtain ⟨es, hes⟩ : ∃ es, X[i]? = some es := ⟨_, List.getElem?_eq_getElem hilt⟩
  obtain ⟨f, hf, -, -, -⟩ := hfi.at_ es hes
  have hjl : j < es.length := (List.getElem?_eq_some_iff.1 hf).1
  obtain ⟨a, ca, b, c2, hva, hlen, hbi, hv⟩ := hv.ixOpen hes (hx.ne es (List.mem_of_getElem? hes))
  simp only [Value.slice.injEq] at hva
  obtain ⟨hva, -, hvc⟩ := hva
  subst hva hvc
  obtain ⟨T, hT⟩ : ∃ T, T = blkRes 100 (bvs.take i) (X.take i) ++ (blkRes 100 (bvs.drop (i + 1)) (X.drop (i + 1)) ++ H) := ⟨_, rfl⟩
  rw [← hT] at hv
  refine rW mixed [9, 12] [0,1,2,3,4,5,6,7,8,9,10,11,12] 53 rfl (by kernel_rfl) hv ?_
  simp only [qm, opAt]
  refine dM (.pointer (some ⟨p, 0, none⟩)) rfl (dG (.pointer (some ⟨p, 0, none⟩)) rfl (ex_nil rfl rfl) ?_)
  refine dG (.pointer (some ⟨p, 0, none⟩)) rfl (ex_field rfl rfl (s3fa89_0 _ _ _)) ?_
  simp only [zP, po]
  refine dF _ rfl (fun hv => ex_load rfl rfl (run_load1 s3na87 (hv.load 1 0 rfl rfl))) fun f5 hf5 => dM (.int .i64 (i : Int)) rfl (dG (.pointer (some ⟨a, 0 + i, none⟩)) rfl (ex_index rfl rfl rfl (run_idx1 (k := i) Tryz.underlying87 s3es87 (by omega))) ?_)
  simp only [zP, po]
  refine dF _ rfl (fun hv => ex_load rfl rfl (run_load1 s3na101 (row_load (hv.get 2 rfl) hbi))) fun f6 hf6 => dM (.int .i64 (j : Int)) rfl (dM (.slice cad l.length cc) rfl ?_)
  simp only [zP, po]
  refine dS rfl fun w7 hv => mC s3callable52 rfl ((indexClone0 B _ _ cad cc cxs l hcok hcr hcx (by omega) hv).mono ?_) rfl
  rintro e w8 ⟨C, q, hBC, rfl, hQ, hv⟩
  refine ⟨_, rfl, dV hv (fC (fun ww hv => hf6 ww (ex_load rfl rfl (run_load1 s3na101 (row_load (hv.get 2 rfl) hbi)))) (fC (fun ww hv => hf5 ww (ex_load rfl rfl (run_load1 s3na87 (hv.load 1 0 rfl rfl)))) fN)) ?_⟩
  refine dG (.pointer (some ⟨b, 0 + j * 2, none⟩)) rfl (ex_index rfl rfl rfl (run_idx (k := j) Tryz.underlying101 s3es101 (by omega))) (dG (.pointer (some ⟨b, 0 + j * 2 + 1, none⟩)) rfl (ex_field rfl rfl (s3fa100_1 _ _ _)) ?_)
  simp only [zP, po]
  refine dS rfl fun w9 hv => mem_storeRow (v := q) rfl rfl rfl rfl hv s7sz70 (by rw [entCells_len]; omega) hQ.cells hQ.one (fun w10 hv => ?_)
  refine dV hv (fK rfl (fK rfl fN)) (dE fun w11 hv => ?_)
  simp only [zP, po]
  refine bN ?_
  go_end0
  obtain ⟨hk, hm1, hm2, hm3⟩ := ixm_update (hx.more hBC) hfi hes hf hQ ⟨hl0, hl⟩
  rw [Nat.zero_add, ← entCells_set hf q] at hv
  have hbs : bvs.set i (.slice (some ⟨b, 0, none⟩) es.length c2) = bvs := set_same hbi
  have h8 := Inv.ixClose1 (bv' := .slice (some ⟨b, 0, none⟩) es.length c2) (es' := es.set j (f.1, q)) hlen hilt (H := H) (by rw [List.length_set, hbs, ← hT]; exact hv)
  rw [← hm3] at h8
  exact ⟨rfl, C, _, _, _, _, hBC, hm1, hm2, by omega, h8⟩
 refine sK fun _ k12 => rL (xM (.slice cad l.length cc) rfl ?_)
 refine xG (.int .i64 (l.length : Int)) rfl (ex_len0 Tryz.underlying70 rfl rfl) (xG (.bool true) rfl (ex_gtr rfl rfl rfl (decide_eq_true (by omega))) ?_)
 simp only [zP, po]
 refine xA (.bool true) rfl ?_
 simp only [zP, po]
 refine wK k12 (cT rfl ?_)
 refine rL (xM (.pointer (some ⟨p, 0, none⟩)) rfl ?_)
 refine xM (.int .i64 (i : Int)) rfl (xM (.int .i64 (j : Int)) rfl ?_)
 simp only [zP, po]
 refine xM (.string ⟨key.toArray⟩) rfl (xM (.slice cad l.length cc) rfl ?_)
 refine xC s3callable52 rfl ((indexClone0 B _ _ cad cc cxs l hcok hcr hcx (by omega) hv).mono ?_) rfl
 rintro e w13 ⟨C, q, hBC, rfl, hQ, hv⟩
 refine ⟨_, rfl, ?_⟩
 obtain ⟨qa, qc, hqe⟩ := hQ.shape
 subst hqe
 simp only [zP, po]
 refine xG (.agg #[.string ⟨key.toArray⟩, .slice qa l.length qc]) rfl (ex_buildN (vs := #[(0, .string ⟨key.toArray⟩), (1, .slice qa l.length qc)]) rfl (by simp only [List.map_toArray, List.map_cons, List.map_nil]; rfl) (by kernel_rfl)) ?_
 have hokf : ok = false := by simpa using hc4
 subst hokf
 have hx2 := hx.more hBC
 refine xC s7callable53 rfl ((ixInsert C H _ p _ _ X bvs key (.slice qa l.length qc) i j hfi hx.ne hx.ok.lenX hx.ok.lenE (fun es hes e he => by obtain ⟨m, -, -, h9⟩ := (mods_mem hx.mo (List.mem_flatten.2 ⟨es, hes, he⟩)); exact h9.one) (by omega) ⟨hQ.cells, hQ.one⟩ hv).mono ?_) rfl
 rintro e w14 ⟨rfl, v2, X2, bvs2, hv, hfl, hne2⟩
 refine ⟨_, rfl, ?_⟩
 refine wL ?_
 simp only [zP, po]
 refine bN ?_
 go_end0
 obtain ⟨hm1, hm2, hm3⟩ := ixm_insert hx2 hfi hfl hne2 hQ ⟨hl0, hl⟩ hM
 have h8 := hv
 rw [show (M.length : Int) + 1 = ((setM M key l (posOf X i j) false).length : Int) by rw [hm3]; rfl] at h8
 exact ⟨rfl, C, _, _, _, _, hBC, hm1, hm2, by omega, h8⟩
theorem ixSet (B : Base) (H : List Res) (w : World) (p : Nat) (v : Value) (X : List (List Ent)) (bvs : List Value) (M : Model) (key : List UInt8) (cv : Value) (l : List Ver) (hx : IxM B X M) (hM : M.length < 100000) (hc : ChainB B cv l) (hl0 : l ≠ []) (hl : l.length ≤ 1000) (hv : Inv B (ixS 89 101 100 p v (M.length : Int) X bvs :: H) w) :
  Calls Tryz.prog 23 #[.pointer (some ⟨p, 0, none⟩), .string ⟨key.toArray⟩, cv] w fun e w' => e = .returned (.tuple #[]) ∧ ∃ C v' X' bvs' M', B.Le C ∧ IxM C X' M' ∧ (∀ k, getM M' k = if k = key then l else getM M k) ∧ (M.length ≤ M'.length ∧ M'.length ≤ M.length + 1) ∧ Inv C (ixS 89 101 100 p v' (M'.length : Int) X' bvs' :: H) w' := by
 obtain ⟨cad, cc, cxs, rfl, hcok, hcr, hcx⟩ := hc
 exact ixSet0 B H w p v X bvs M key cad cc cxs l hx hM hcok hcr hcx hl0 hl hv
theorem ixGetS (B : Base) (H : List Res) (w : World) (p : Nat) (v : Value) (X : List (List Ent)) (bvs : List Value) (M : Model) (key : List UInt8) (hx : IxM B X M) (hv : Inv B (ixS 89 101 100 p v (M.length : Int) X bvs :: H) w) :
  Calls Tryz.prog 28 #[.pointer (some ⟨p, 0, none⟩), .string ⟨key.toArray⟩] w fun e w' => ∃ C v', B.Le C ∧ e = .returned v' ∧ ChainB C v' (getM M key) ∧ Inv C (ixS 89 101 100 p v (M.length : Int) X bvs :: H) w' := by
 obtain ⟨ad, c, rfl, hok0, hp, hr, hbv⟩ := ixS_facts hv List.mem_cons_self
 exact ixGet B _ w p _ X ad c bvs key _ (fun r hr => by rw [List.mem_singleton.1 hr]; exact List.mem_cons_self) hp hr hbv M hx hv
theorem ixLenS (B : Base) (H : List Res) (w : World) (p : Nat) (v : Value) (n : Int) (X : List (List Ent)) (bvs : List Value) (hv : Inv B (ixS 89 101 100 p v n X bvs :: H) w) :
  Calls Tryz.prog 49 #[.pointer (some ⟨p, 0, none⟩)] w fun e w' => e = .returned (.int .i64 n) ∧ Inv B (ixS 89 101 100 p v n X bvs :: H) w' := by
 obtain ⟨ad, c, rfl, hok0, hp, hr, hbv⟩ := ixS_facts hv List.mem_cons_self
 exact ixLen B _ w p n _ _ (fun r hr => by rw [List.mem_singleton.1 hr]; exact List.mem_cons_self) hp hv
end Go.Proofs.YtffmbdagjpdieaaGreat
/- A range over a function that keeps a state of its own, over resources. -/
namespace Go.Pm
open Go.RowKit
theorem Only.putObjL (w : World) (l : Nat) (o : Obj) : Only [l] w (w.putObj l o) :=
 ⟨rfl, rfl, rfl, by simp [World.putObj], fun k _ hk => World.putObj_heap_other (fun e => hk (by simp [e]))⟩
end Go.Pm
/- A map of one's own whose keys are texts and whose elements are numbers: which keys it has. -/
namespace Go.Pm
open Go.RowKit
def Res.keys (b : Nat) (ks : List (List UInt8)) (m : Int) : Res where
 fp := [b]
 holds w := ∃ (es : Array MapEntry) (clock : Nat), w.heap[b]? = some (.map es clock) ∧ es.toList.map (·.key) = ks.map strV ∧ ∀ e ∈ es.toList, ∃ c : Int, e.val = .int .i64 c ∧ 0 ≤ c ∧ c ≤ m
 stab w w' h := by
  rintro ⟨es, clock, h1, h2, h3⟩
  exact ⟨es, clock, (h b (by simp)).trans h1, h2, h3⟩
theorem strV_beq (a b : List UInt8) : ((⟨a.toArray⟩ : ByteArray) == ⟨b.toArray⟩) = decide (a = b) := by
 show (a.toArray == b.toArray) = _
 by_cases h : a = b
 ·subst h; simp
 rw [decide_eq_false h]
 exact beq_eq_false_iff_ne.2 fun e => h (by simpa using e)
theorem findNow_str (k : List UInt8) : ∀ (es : List MapEntry) (ks : List (List UInt8)) (n : Nat), es.map (·.key) = ks.map strV →
  (k ∉ ks ∧ Instr.findNow .string (strV k) es n = some none) ∨ (k ∈ ks ∧ ∃ i e, es[i]? = some e ∧ e.key = strV k ∧ Instr.findNow .string (strV k) es n = some (some (n + i, e.val)))
 | [], [], n, _ => .inl ⟨by simp, rfl⟩
 | e :: es, k' :: ks, n, h => by
  simp only [List.map_cons, List.cons.injEq] at h
  obtain ⟨h1, h2⟩ := h
  have hs : Instr.sameNow .string (strV k) e.key = some (decide (k = k')) := by
   rw [h1]
   show some ((⟨k.toArray⟩ : ByteArray) == ⟨k'.toArray⟩) = _
   rw [strV_beq]
  by_cases hk : k = k'
  ·subst hk
   refine .inr ⟨List.mem_cons_self, 0, e, rfl, h1, ?_⟩
   simp [Instr.findNow, hs]
  rcases findNow_str k es ks (n + 1) h2 with ⟨h3, h4⟩ | ⟨h3, i, e', h4, h5, h6⟩
  ·exact .inl ⟨by simp [hk, h3], by simp [Instr.findNow, hs, hk, h4]⟩
  exact .inr ⟨List.mem_cons_of_mem _ h3, i + 1, e', by simpa using h4, h5, by
   simp only [Instr.findNow, hs, hk, decide_false, h6]
   rw [show n + 1 + i = n + (i + 1) by omega]⟩
 | [], _ :: _, _, h => by simp at h
 | _ :: _, [], _, h => by simp at h
def addKey (ks : List (List UInt8)) (k : List UInt8) : List (List UInt8) := if k ∈ ks then ks else ks ++ [k]
section
variable {P : Program} {t kt et : TypeId} {w : World} {b : Nat} {ks : List (List UInt8)} {m : Int} {k : List UInt8}
theorem check_succ (hk : P.underlying kt = some .string) (n : Nat) (e : Bool) (s : ByteArray) (w : World) : (Instr.checkKey e (n + 1) kt (.string s)).run P w = .ok () w := by
 simp [Instr.checkKey, run_underlying hk]
theorem run_checkStr (hk : P.underlying kt = some .string) (e : Bool) (s : ByteArray) (w : World) : (Instr.checkKey e 10000 kt (.string s)).run P w = .ok () w := by
 exact check_succ hk 9999 e s w
theorem run_findStr (hk : P.underlying kt = some .string) (es : List MapEntry) (r : Option (Nat × Value)) (h : Instr.findNow .string (strV k) es 0 = some r) (w : World) : (Instr.findKey kt (strV k) es).run P w = .ok r w := by
 simp [Instr.findKey, run_underlying hk, h]
theorem run_lookStr (ht : P.underlying t = some (.map kt et)) (hk : P.underlying kt = some .string) (hz : ∀ w, (zeroValue et).run P w = .ok (.int .i64 0) w) (h : (Res.keys b ks m).holds w) (hm : 0 ≤ m) : ∃ c : Int, (Instr.lookup t (.map (some b)) (strV k) false).run P w = .ok (.int .i64 c) w ∧ 0 ≤ c ∧ c ≤ m := by
 obtain ⟨es, clock, h1, h2, h3⟩ := h
 rcases findNow_str k es.toList ks 0 h2 with ⟨-, h5⟩ | ⟨-, i, e, h4, -, h5⟩
 ·refine ⟨0, ?_, Int.le_refl _, hm⟩
  simp [Instr.lookup, run_underlying ht, getObj, Sem.run, h1, run_checkStr hk, run_findStr hk _ _ h5, hz]
 obtain ⟨c, h6, h7, h8⟩ := h3 e (List.mem_of_getElem? h4)
 refine ⟨c, ?_, h7, h8⟩
 rw [h6] at h5
 simp [Instr.lookup, run_underlying ht, getObj, Sem.run, h1, run_checkStr hk, run_findStr hk _ _ h5]
theorem run_updStr (ht : P.underlying t = some (.map kt et)) (hk : P.underlying kt = some .string) (h : (Res.keys b ks m).holds w) {c m' : Int} (hc : 0 ≤ c ∧ c ≤ m') (hm : m ≤ m') : ∃ w', (Instr.mapUpdate t (.map (some b)) (strV k) (.int .i64 c)).run P w = .ok () w' ∧ Only [b] w w' ∧ (Res.keys b (addKey ks k) m').holds w' := by
 obtain ⟨es, clock, h1, h2, h3⟩ := h
 have hset : ∀ o : Obj, (setObj b o).run P w = .ok () (w.putObj b o) := fun o => by
  simp [setObj, Sem.run, h1, World.putObj]
 have hnew : ∀ o : Obj, (w.putObj b o).heap[b]? = some o := fun o => by
  have hb := (Array.getElem?_eq_some_iff.1 h1).1
  simp [World.putObj, hb]
 rcases findNow_str k es.toList ks 0 h2 with ⟨h4, h5⟩ | ⟨h4, i, e, h6, h7, h5⟩
 ·refine ⟨_, ?_, Only.putObjL w b (.map (es.push { key := strV k, val := .int .i64 c, born := clock }) (clock + 1)), es.push { key := strV k, val := .int .i64 c, born := clock }, clock + 1, hnew _, ?_, ?_⟩
  ·simp [Instr.mapUpdate, run_underlying ht, getObj, Sem.run, h1, run_checkStr hk, run_findStr hk _ _ h5, hset]
  ·simp [addKey, h4, h2]
  intro e he
  simp only [Array.toList_push, List.mem_append, List.mem_singleton] at he
  rcases he with he | he
  ·obtain ⟨c', q1, q2, q3⟩ := h3 e he
   exact ⟨c', q1, q2, Int.le_trans q3 hm⟩
  exact ⟨c, by rw [he], hc.1, hc.2⟩
 have hi := (List.getElem?_eq_some_iff.1 h6).1
 have hsame : (Instr.keyThatStays e.key (strV k)).run P w = .ok (strV k) w := by
  have hb : Instr.sameBits 10000 (strV k) (strV k) = true := by
   show ((⟨k.toArray⟩ : ByteArray) == ⟨k.toArray⟩) = true
   rw [strV_beq]; simp
  rw [h7]
  simp only [Instr.keyThatStays, hb, if_true]
  rfl
 have hget : ((es[i]?).map (·.key)).getD (strV k) = e.key := by
  rw [← Array.getElem?_toList, h6]; rfl
 refine ⟨_, ?_, Only.putObjL w b (.map (es.modify i fun e => { e with key := strV k, val := .int .i64 c }) clock), es.modify i fun e => { e with key := strV k, val := .int .i64 c }, clock, hnew _, ?_, ?_⟩
 ·rw [Nat.zero_add] at h5
  simp only [Instr.mapUpdate, Sem.run_bind, run_underlying ht, Result.andThen_ok]
  simp [getObj, Sem.run, h1, run_checkStr hk, run_findStr hk _ _ h5, hget, hsame, hset]
 ·rw [addKey, if_pos h4, ← h2]
  apply List.ext_getElem?
  intro j
  simp only [Array.toList_modify, List.getElem?_map, List.getElem?_modify]
  by_cases hj : i = j
  ·subst hj
   rw [h6]; simp [h7]
  simp [hj]
 intro e' he'
 obtain ⟨j, hj⟩ := List.mem_iff_getElem?.1 he'
 simp only [Array.toList_modify, List.getElem?_modify] at hj
 by_cases hij : i = j
 ·subst hij
  rw [h6] at hj
  simp at hj
  exact ⟨c, by rw [← hj], hc.1, hc.2⟩
 simp [hij] at hj
 obtain ⟨c', q1, q2, q3⟩ := h3 e' (List.mem_of_getElem? (by rw [← Array.getElem?_toList] at hj; exact hj))
 exact ⟨c', q1, q2, Int.le_trans q3 hm⟩
end
section
variable {F : Fence} {n : Nat} {P : Program} {ops : Array Oper} {Q : Exit → Act → World → Prop} {a : Act} {w : World} {rest : List Oper} {o : Oper} {B : Base} {H : List Res} {t kt et : TypeId} {x y z : Operand} {b : Nat} {ks : List (List UInt8)} {m : Int} {k : List UInt8}
theorem sl_makeMap (hF : ∀ f, F.fn f) (hg : Region.wanted o (yielded ops a.tmps) = true) (ho : o.op = .makeMap t (some x)) (hx : a.eval x = .int .i64 m) (ht : P.underlying t = some (.map kt et)) (hv : Inv B H w)
  (h : ∀ b w', Inv B (Res.keys b [] 0 :: H) w' → wpListIn F n P ops Q rest (a.put o.dst (.map (some b))) w') : wpListIn F n P ops Q (o :: rest) a w := by
 have hr : (Instr.makeMap t (some (.int .i64 m))).run P w = .ok (.map (some w.heap.size)) (w.alloc (.map #[] 0)) := by
  simp [Instr.makeMap, run_underlying ht, asInt, asIntOf, newObj, Sem.run]
 have hex : Ex P a o w (.map (some w.heap.size)) (w.alloc (.map #[] 0)) := by
  unfold Ex; simp [execOp, ho, hx, hr]
 have hnew : (w.alloc (.map #[] 0)).heap[w.heap.size]? = some (.map #[] 0) := heap_alloc_new w _
 refine wpi_exG hF hg (by unfold isDefer; rw [ho]) hex (h _ _ (hv.new ((Below.refl _ _).alloc (Nat.le_refl _) _) (Res.keys w.heap.size [] 0) ⟨#[], 0, hnew, rfl, fun e he => by simp at he⟩ (fun b hb => ?_) (by simp [Res.keys])))
 have : b = w.heap.size := by simpa [Res.keys] using hb
 subst this
 exact ⟨Nat.le_refl _, (Array.getElem?_eq_some_iff.1 hnew).1⟩
theorem sl_lookStr (i : Nat) (hF : ∀ f, F.fn f) (hg : Region.wanted o (yielded ops a.tmps) = true) (ho : o.op = .lookup t x y false) (hx : a.eval x = .map (some b)) (hy : a.eval y = strV k) (ht : P.underlying t = some (.map kt et)) (hk : P.underlying kt = some .string) (hz : ∀ w, (zeroValue et).run P w = .ok (.int .i64 0) w) (hv : Inv B H w) (hi : H[i]? = some (Res.keys b ks m)) (hm : 0 ≤ m)
  (h : ∀ c : Int, 0 ≤ c → c ≤ m → wpListIn F n P ops Q rest (a.put o.dst (.int .i64 c)) w) : wpListIn F n P ops Q (o :: rest) a w := by
 obtain ⟨c, h1, h2, h3⟩ := run_lookStr (k := k) ht hk hz (hv.get i hi) hm
 exact wpi_exG hF hg (by unfold isDefer; rw [ho]) (by unfold Ex; simp [execOp, ho, hx, hy, h1]) (h c h2 h3)
theorem sl_updStr {c m' : Int} (hF : ∀ f, F.fn f) (hg : Region.wanted o (yielded ops a.tmps) = true) (ho : o.op = .mapUpdate t x y z) (hx : a.eval x = .map (some b)) (hy : a.eval y = strV k) (hz : a.eval z = .int .i64 c) (ht : P.underlying t = some (.map kt et)) (hk : P.underlying kt = some .string) (hv : Inv B (Res.keys b ks m :: H) w) (hc : 0 ≤ c ∧ c ≤ m') (hm : m ≤ m')
  (h : ∀ w', Inv B (Res.keys b (addKey ks k) m' :: H) w' → wpListIn F n P ops Q rest (a.put o.dst undef) w') : wpListIn F n P ops Q (o :: rest) a w := by
 obtain ⟨w', h1, h2, h3⟩ := run_updStr (k := k) ht hk hv.head hc hm
 refine wpi_exUG hF hg (by unfold isDefer; rw [ho]) (by unfold ExU; simp [execOp, ho, hx, hy, hz, h1]) (h w' (hv.upd (Res.keys b (addKey ks k) m') h2 h3 (fun b' hb => .inl hb) (fun b' hb => ?_) (by simp [Res.keys])))
 exact Nat.lt_of_lt_of_le (hv.headLt b' hb) h2.size
theorem ex_lenMap (i : Nat) (ht : P.underlying t = some (.map kt et)) (ho : o.op = .call { callee := .builtin .len, args := #[x], argTypes := #[t] }) (hx : a.eval x = .map (some b)) (hv : Inv B H w) (hi : H[i]? = some (Res.keys b ks m)) : Ex P a o w (.int .i64 (ks.length : Int)) w := by
 obtain ⟨es, clock, h1, h2, -⟩ := (hv.get i hi : (Res.keys b ks m).holds w)
 have hl : es.size = ks.length := by have := congrArg List.length h2; simpa using this
 unfold Ex
 simp [execOp, ho, hx, resolve, invoke, builtin, Builtin.len_, run_underlying ht, getObj, Sem.run, h1, goInt, hl]
end
def keysOf (l : List (List UInt8)) : List (List UInt8) := l.foldl addKey []
theorem keysOf_snoc (l : List (List UInt8)) (k : List UInt8) : keysOf (l ++ [k]) = addKey (keysOf l) k := by simp [keysOf]
theorem keysOf_mem (l : List (List UInt8)) : ∀ k, k ∈ keysOf l ↔ k ∈ l := by
 refine snocInd (p := fun l => ∀ k, k ∈ keysOf l ↔ k ∈ l) (fun k => Iff.rfl) (fun l c ih k => ?_) l
 rw [keysOf_snoc, addKey]
 split
 ·rename_i h
  rw [ih] at h
  rw [ih, List.mem_append, List.mem_singleton]
  constructor
  ·exact .inl
  rintro (h2 | rfl)
  ·exact h2
  exact h
 rw [List.mem_append, List.mem_append, ih]
theorem keysOf_len (l : List (List UInt8)) : (keysOf l).length ≤ l.length ∧ ((keysOf l).length = l.length ↔ l.Nodup) := by
 refine snocInd (p := fun l => (keysOf l).length ≤ l.length ∧ ((keysOf l).length = l.length ↔ l.Nodup)) ⟨Nat.le_refl _, by simp [keysOf]⟩ (fun l c ih => ?_) l
 have hn : (l ++ [c]).Nodup ↔ l.Nodup ∧ c ∉ l := by
  rw [List.nodup_append]
  constructor
  ·rintro ⟨h1, -, h2⟩; exact ⟨h1, fun h => h2 c h c (by simp) rfl⟩
  rintro ⟨h1, h2⟩; exact ⟨h1, by simp, fun a ha b hb => by simp at hb; subst hb; intro e; subst e; exact h2 ha⟩
 rw [keysOf_snoc, addKey, List.length_append, hn]
 split
 ·rename_i h
  rw [keysOf_mem] at h
  refine ⟨by simp; omega, ?_⟩
  constructor
  ·intro h2; simp at h2; have := ih.1; omega
  rintro ⟨-, h2⟩; exact absurd h h2
 rename_i h
 rw [keysOf_mem] at h
 rw [List.length_append]
 refine ⟨by simp; exact ih.1, ?_⟩
 simp only [List.length_cons, List.length_nil, Nat.zero_add, Nat.add_right_cancel_iff, ih.2, h, not_false_iff, and_true]
end Go.Pm
/- Writes: a key and a version; rows of them in memory that stays. -/
namespace Go.Pm
open Go.RowKit
structure Wr where
 key : List UInt8
 ver : Ver
abbrev wrCells (v : Wr) (p t z : Value) : List Value := strV v.key :: verCells v.ver p t z
theorem wrCells_one {B : Base} {v : Wr} {p t z : Value} (h : ValAt B v.ver.val p t z) : ∀ u ∈ wrCells v p t z, u.oneCell' = true := by
 intro u hu
 rcases List.mem_cons.1 hu with hu | hu
 ·rw [hu]; rfl
 exact verCells_one h u hu
def WrsAt (B : Base) : List Wr → List Value → Prop
 | [], xs => xs = []
 | v :: l, xs => ∃ p t z r, xs = wrCells v p t z ++ r ∧ ValAt B v.ver.val p t z ∧ WrsAt B l r
theorem WrsAt.more {B C : Base} (hB : B.Le C) : ∀ {l : List Wr} {xs : List Value}, WrsAt B l xs → WrsAt C l xs
 | [], _, h => h
 | _ :: _, _, ⟨p, t, z, r, h1, h2, h3⟩ => ⟨p, t, z, r, h1, h2.more hB, WrsAt.more hB h3⟩
theorem WrsAt.append {B : Base} {k : List Wr} {ys : List Value} (hk : WrsAt B k ys) : ∀ {l : List Wr} {xs : List Value}, WrsAt B l xs → WrsAt B (l ++ k) (xs ++ ys)
 | [], xs, h => by
  cases (show xs = [] from h)
  exact hk
 | v :: l, xs, ⟨p, t, z, r, h1, h2, h3⟩ => by
  subst h1
  exact ⟨p, t, z, r ++ ys, by rw [List.append_assoc], h2, WrsAt.append hk h3⟩
theorem WrsAt.single {B : Base} {v : Wr} {p t z : Value} (h : ValAt B v.ver.val p t z) : WrsAt B [v] (wrCells v p t z) := ⟨p, t, z, [], by simp, h, rfl⟩
theorem WrsAt.len {B : Base} : ∀ {l : List Wr} {xs : List Value}, WrsAt B l xs → xs.length = l.length * 9
 | [], xs, h => by cases (show xs = [] from h); rfl
 | v :: l, xs, ⟨p, t, z, r, h1, h2, h3⟩ => by
  subst h1
  rw [List.length_append, WrsAt.len h3]
  show 9 + l.length * 9 = (l.length + 1) * 9
  omega
theorem WrsAt.get {B : Base} : ∀ {l : List Wr} {xs : List Value}, WrsAt B l xs → ∀ i (hi : i < l.length), ∃ p t z, ValAt B l[i].ver.val p t z ∧ ∀ j, j < 9 → (wrCells l[i] p t z)[j]? = (xs.drop (i * 9))[j]?
 | [], xs, h, i, hi => by simp at hi
 | v :: l, xs, ⟨p, t, z, r, h1, h2, h3⟩, i, hi => by
  subst h1
  cases i with
  | zero => exact ⟨p, t, z, h2, fun j hj => by rw [Nat.zero_mul, List.drop_zero, List.getElem?_append_left hj]; rfl⟩
  | succ i =>
   obtain ⟨p', t', z', e1, e2⟩ := WrsAt.get h3 i (by simpa using hi)
   refine ⟨p', t', z', e1, fun j hj => (e2 j hj).trans ?_⟩
   rw [show (i + 1) * 9 = i * 9 + 9 by rw [Nat.succ_mul], Nat.add_comm, ← List.drop_drop]
   rfl
theorem WrsAt.reads {B : Base} {l : List Wr} {xs : List Value} {ad : Option Addr} {i : Nat} {x : Wr} (h : WrsAt B l xs) (hr : RdV B [] ad xs) (hx : l[i]? = some x) : ∃ b off p t z, ad = some ⟨b, off, none⟩ ∧ ValAt B x.ver.val p t z ∧ Reads B [] b (off + i * 9) (wrCells x p t z) := by
 obtain ⟨hi, rfl⟩ := List.getElem?_eq_some_iff.1 hx
 obtain ⟨p, t, z, h1, h2⟩ := h.get i hi
 have hl := h.len
 have hle : i * 9 + 9 ≤ xs.length := by rw [hl]; have := Nat.mul_le_mul_right 9 (show i + 1 ≤ l.length by omega); rw [Nat.succ_mul] at this; exact this
 obtain ⟨b, off, h3, h4⟩ := rdW_reads (cs := wrCells l[i] p t z) (k := i * 9) (m := 9) (hr.rdW []) hle (by decide) rfl (fun j hj => by
  rw [h2 j hj, List.getElem?_drop])
 exact ⟨b, off, p, t, z, h3, h1, h4⟩
theorem text_reads {B : Base} {l : List (List UInt8)} {ad : Option Addr} {i : Nat} {x : List UInt8} (hr : RdV B [] ad (textCells l)) (hx : l[i]? = some x) : ∃ b off, ad = some ⟨b, off, none⟩ ∧ Reads B [] b (off + i) [strV x] := by
 have hi := (List.getElem?_eq_some_iff.1 hx).1
 refine rdW_reads (k := i) (m := 1) (hr.rdW []) (by rw [textCells_len]; omega) (by decide) rfl (fun j hj => ?_)
 match j, hj with
 | 0, _ => rw [Nat.add_zero, textCells, List.getElem?_map, hx]; rfl
theorem two_get {α : Type} (f : α → List Value) (h2 : ∀ a, (f a).length = 2) {l : List α} {i : Nat} {x : α} (h : l[i]? = some x) : ∀ j, j < 2 → (l.flatMap f)[i * 2 + j]? = (f x)[j]? := by
 induction l generalizing i with
 | nil => simp at h
 | cons a l ih =>
  intro j hj
  cases i with
  | zero =>
   simp only [List.getElem?_cons_zero, Option.some.injEq] at h
   subst h
   rw [List.flatMap_cons, Nat.zero_mul, Nat.zero_add, List.getElem?_append_left (by rw [h2]; exact hj)]
  | succ i =>
   rw [List.flatMap_cons, List.getElem?_append_right (by rw [h2]; omega), h2, show (i + 1) * 2 + j - 2 = i * 2 + j by rw [Nat.succ_mul]; omega]
   exact ih (by simpa using h) j hj
theorem mem_reads {B : Base} {l : List (Int × List UInt8)} {ad : Option Addr} {i : Nat} {x : Int × List UInt8} (hr : RdV B [] ad (memCells l)) (hx : l[i]? = some x) : ∃ b off, ad = some ⟨b, off, none⟩ ∧ Reads B [] b (off + i * 2) [.int .i64 x.1, strV x.2] := by
 have hi := (List.getElem?_eq_some_iff.1 hx).1
 refine rdW_reads (k := i * 2) (m := 2) (hr.rdW []) (by rw [memCells_len]; omega) (by decide) rfl (fun j hj => ?_)
 exact (two_get (fun m : Int × List UInt8 => [.int .i64 m.1, strV m.2]) (fun _ => rfl) hx j hj).symm
theorem pair_reads {B : Base} {l : List (List UInt8 × List UInt8)} {ad : Option Addr} {i : Nat} {x : List UInt8 × List UInt8} (hr : RdV B [] ad (pairCells l)) (hx : l[i]? = some x) : ∃ b off, ad = some ⟨b, off, none⟩ ∧ Reads B [] b (off + i * 2) [strV x.1, strV x.2] := by
 have hi := (List.getElem?_eq_some_iff.1 hx).1
 refine rdW_reads (k := i * 2) (m := 2) (hr.rdW []) (by rw [pairCells_len]; omega) (by decide) rfl (fun j hj => ?_)
 exact (two_get (fun m : List UInt8 × List UInt8 => [strV m.1, strV m.2]) (fun _ => rfl) hx j hj).symm
theorem any_of {α : Type} {l : List α} {p : α → Bool} {i : Nat} {x : α} (h : l[i]? = some x) (hp : p x = true) : l.any p = true := List.any_eq_true.2 ⟨x, List.mem_of_getElem? h, hp⟩
theorem any_none {α : Type} {l : List α} {p : α → Bool} (h : ∀ (i : Nat) x, l[i]? = some x → p x = false) : l.any p = false := by
 rw [List.any_eq_false]
 intro x hx
 obtain ⟨i, hi⟩ := List.mem_iff_getElem?.1 hx
 rw [h i x hi]; simp
end Go.Pm
/- store.twice. -/
namespace Go.Proofs.YtffmbdagjpdieaaGreat
open Go.RowKit Go.Pm
theorem s8es33 (w : World) : (sizeOf (Tryz.prog.elem 33)).run Tryz.prog w = .ok 9 w := by kernel_rfl
theorem s8wd57 : Wide Tryz.prog 57 9 := wide_of (fun w => by kernel_rfl) (by kernel_rfl)
theorem s8al57 (w : World) : (Instr.alloc 57 true (.tuple #[])).run Tryz.prog w = .ok (.pointer (some ⟨w.heap.size, 0, none⟩)) (w.alloc (.cells ([.string ⟨([] : List UInt8).toArray⟩, .int .i64 0, .bool false, .int .i64 0, .int .i64 0, .string ⟨([] : List UInt8).toArray⟩, .slice none 0 0, .slice none 0 0, .slice none 0 0] : List Value).toArray 57)) := by kernel_rfl
theorem s8sz57 : (Tryz.prog.info? 57).map (·.size) = some 9 := by kernel_rfl
theorem s8fa57_0 (w : World) (b o : Nat) : (Instr.fieldAt 57 (.pointer (some ⟨b, o, none⟩)) 0).run Tryz.prog w = .ok (.pointer (some ⟨b, o + 0, none⟩)) w := by kernel_rfl
set_option maxHeartbeats 2000000 in
theorem storeTwice0 (B : Base) (H : List Res) (w : World) (ad : Option Addr) (c : Nat) (xs : List Value) (l : List Wr) (hr : RdV B [] ad xs) (hxs : WrsAt B l xs) (hm : l.length ≤ 1000000) (hv : Inv B H w) :
  Calls Tryz.prog 33 #[.slice ad l.length c] w fun e w' => ∃ b, e = .returned (.bool b) ∧ (b = true ↔ ¬ (l.map (·.key)).Nodup) ∧ Inv B H w' := by
 refine cW Tryz.func33 rfl Tryz.ntmps33 ?_
 simp only [al]
 refine sK fun _ k1 => rL (xA (.bool false) rfl ?_)
 simp only [zP, po]
 refine wK k1 (sK fun _ k2 => ?_)
 refine rL (xM (.slice ad l.length c) rfl ?_)
 refine xG (.int .i64 (l.length : Int)) rfl (ex_len0 Tryz.underlying33 rfl rfl) (sl_makeMap (m := (l.length : Int)) tV (wn rfl) rfl rfl Tryz.underlying111 hv (fun mp3 w4 hv => ?_))
 simp only [zP, po]
 refine xA (.map (some mp3)) rfl ?_
 simp only [zP, po]
 refine wK k2 (sK fun _ k5 => ?_)
 refine sK fun _ k6 => rL (xM (.slice ad l.length c) rfl ?_)
 refine xG (.int .i64 (l.length : Int)) rfl (ex_len0 Tryz.underlying33 rfl rfl) (xM (.int .i64 0) rfl ?_)
 simp only [zP, po]
 refine wK k6 (bB ?_)
 gi_loopw [11] (fun x11 wr => ∃ (i : Nat), x11 = .int .i64 (i : Int) ∧ i ≤ l.length ∧ Inv B (Res.keys mp3 (keysOf ((l.take i).map (·.key))) (i : Int) :: H) wr) (fun x11 _ => l.length - (intOf x11).toNat)
 case atStart => exact ⟨0, rfl, Nat.zero_le _, hv⟩
 case round =>
  obtain ⟨i, rfl, hi, hv⟩ := hrel
  refine sK fun _ k8 => rL ?_
  by_cases hb9 : (i : Int) < (l.length : Int)
  ·refine xG (.bool true) rfl (ex_lss rfl rfl rfl (decide_eq_true hb9)) ?_
   simp only [zP, po]
   refine wK k8 (sK fun _ k10 => ?_)
   refine cT rfl (kS ?_)
   refine tK k10 (sK fun _ k11 => ?_)
   refine bB (sK fun _ k12 => ?_)
   obtain ⟨x, hx⟩ : ∃ x, l[i]? = some x := ⟨_, List.getElem?_eq_getElem (show i < l.length by omega)⟩
   obtain ⟨bb, bo, xp, xt, xz, had, hvalx, hrdx⟩ := WrsAt.reads hxs hr hx
   subst had
   refine rL (xG (.pointer (some ⟨bb, bo + i * 9, none⟩)) rfl (ex_index rfl rfl rfl (run_idx (k := i) Tryz.underlying33 s8es33 (by omega))) ?_)
   refine xL (.agg #[.string ⟨x.key.toArray⟩, .int .i64 x.ver.stamp, .bool x.ver.gone, .int .i64 x.ver.expire, .int .i64 x.ver.val.kind, .string ⟨x.ver.val.text.toArray⟩, xp, xt, xz]) rfl (run_loadR (cs := [.string ⟨x.key.toArray⟩, .int .i64 x.ver.stamp, .bool x.ver.gone, .int .i64 x.ver.expire, .int .i64 x.ver.val.kind, .string ⟨x.ver.val.text.toArray⟩, xp, xt, xz]) s8wd57 (Reads.mid (pre := []) (mid := [.string ⟨x.key.toArray⟩, .int .i64 x.ver.stamp, .bool x.ver.gone, .int .i64 x.ver.expire, .int .i64 x.ver.val.kind, .string ⟨x.ver.val.text.toArray⟩, xp, xt, xz]) (post := []) hrdx _ _ _ (Base.Le.refl _) no_res hv)) (sl_alloc tV (wn rfl) rfl hv s8al57 (fun b13 w14 hv => ?_))
   simp only [zP, po]
   refine xS 0 rfl hv s8sz57 rfl (by exact ⟨rfl, rfl, rfl, rfl, rfl, rfl, hvalx.p.one, hvalx.t.one, hvalx.z.one, trivial⟩) (fun w15 hv => ?_)
   simp only [zO, sp] at hv
   simp only [zP, po]
   refine wK k12 (rL ?_)
   refine xM (.map (some mp3)) rfl (xF (.pointer (some ⟨b13, 0, none⟩)) rfl (s8fa57_0 _ _ _) ?_)
   refine xL _ rfl (run_load1 s3na9 (hv.load 0 0 rfl rfl)) ?_
   simp only [zP, po]
   refine sl_lookStr 1 (k := x.key) tV (wn rfl) rfl rfl rfl Tryz.underlying111 Tryz.underlying9 (fun w => by kernel_rfl) hv rfl (by omega) (fun c16 hc16a hc16b => ?_)
   refine xG (.int .i64 (c16 + 1)) rfl (ex_add rfl rfl rfl (i64_in (by omega))) ?_
   replace hv := hv.front 1 rfl
   simp only [List.eraseIdx_cons_succ, List.eraseIdx_cons_zero] at hv
   refine sl_updStr (k := x.key) (m' := ((i + 1 : Nat) : Int)) tV (wn rfl) rfl rfl rfl rfl Tryz.underlying111 Tryz.underlying9 hv (by omega) (by omega) (fun w17 hv => ?_)
   refine wL ?_
   simp only [zP, po]
   refine bN (tK k11 ?_)
   refine rL (xG (.int .i64 ((i + 1 : Nat) : Int)) rfl (ex_add rfl rfl rfl (by rw [i64_in (by omega)]; omega)) ?_)
   refine xM (.int .i64 ((i + 1 : Nat) : Int)) rfl (wL ?_)
   simp only [zP, po]
   refine then_normal ?_
   go_roundw
   case rel => exact ⟨i + 1, rfl, by omega, by rw [take_next hx, List.map_append, List.map_cons, List.map_nil, keysOf_snoc]; exact (hv.sub (List.Sublist.cons_cons _ (List.Sublist.cons _ (List.Sublist.refl _))))⟩
   case measure => show l.length - (((i + 1 : Nat) : Int)).toNat < l.length - ((i : Int)).toNat; omega
  refine xG (.bool false) rfl (ex_lss rfl rfl rfl (decide_eq_false hb9)) ?_
  simp only [zP, po]
  refine wK k8 (sK fun _ k18 => ?_)
  refine cF rfl (xE ?_)
  refine tX (tX ?_)
  refine bH (tK k5 ?_)
  refine sK fun _ k19 => rL (xM (.map (some mp3)) rfl ?_)
  refine xG (.int .i64 ((keysOf ((l.take i).map (·.key))).length : Int)) rfl (ex_lenMap 0 Tryz.underlying111 rfl rfl hv rfl) (xM (.slice ad l.length c) rfl ?_)
  simp only [zP, po]
  refine xG (.int .i64 (l.length : Int)) rfl (ex_len0 Tryz.underlying33 rfl rfl) (xG (.bool (decide (((keysOf ((l.take i).map (·.key))).length : Int) < (l.length : Int)))) rfl (ex_lss rfl rfl rfl rfl) ?_)
  refine xA (.bool (decide (((keysOf ((l.take i).map (·.key))).length : Int) < (l.length : Int)))) rfl ?_
  simp only [zP, po]
  refine wK k19 (rR ?_)
  refine bR rfl rfl ?_
  obtain rfl : i = l.length := by omega
  have h9 := keysOf_len (l.map (·.key))
  rw [List.length_map] at h9
  refine ⟨_, rfl, ?_, (hv.sub (List.Sublist.cons _ (List.Sublist.refl _)))⟩
  rw [List.take_length, decide_eq_true_iff, ← h9.2]
  have h8 := h9.1
  omega
end Go.Proofs.YtffmbdagjpdieaaGreat
