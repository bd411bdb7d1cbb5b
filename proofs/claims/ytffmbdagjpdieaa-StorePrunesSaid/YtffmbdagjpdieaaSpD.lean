/- index.insert. -/
import Derived.Test.YtffmbdagjpdieaaSpB
import Derived.Test.YtffmbdagjpdieaaSpC
import Derived.Test.YtffmbdagjpdieaaRows
import Derived.Test.YtffmbdagjpdieaaSpA
set_option maxRecDepth 100000
namespace Go.Proofs.Ytffmbdagjpdieaa
open Go.RowKit Go.Pm
theorem s5mk92 : (Try.prog.info? 92).map (fun i => (i.zero, i.size, i.bytes)) = some (some (.agg #[.string ⟨([] : List UInt8).toArray⟩, .slice none 0 0]), 2, 40) := by kernel_rfl
theorem s5el93 : Elem Try.prog 93 92 (.agg #[.string ⟨([] : List UInt8).toArray⟩, .slice none 0 0]) 2 40 := elem_of Try.underlying93 s5mk92 (by rfl) (by decide)
set_option maxHeartbeats 2000000 in
theorem cloneEnt (B : Base) (H : List Res) (w : World) (a : Addr) (n c : Nat) (xs : List Value) (R : List Res) (hRH : ∀ r ∈ R, r ∈ H) (hok : SliceOk (some a) n c) (hl : xs.length = n * 2) (h1 : ∀ u ∈ xs, u.oneCell' = true) (hn1 : 1 ≤ n) (hn : n ≤ 10000000) (hr : RdW B R (some a) xs) (hv : Inv B H w) :
  Calls Try.prog 59 #[.slice (some a) n c] w fun e w' => ∃ b' c', e = .returned (.slice (some ⟨b', 0, none⟩) n c') ∧ Inv B (Res.row 92 2 (.slice (some ⟨b', 0, none⟩) n c') n xs :: H) w' := by
 refine (callsIn_wide (n := 5)).1 ?_
 refine callsIn_of_wp Try.func59 rfl trivial ?_
 simp only [Try.ntmps59, List.size_toArray, List.length_cons, List.length_nil, Nat.reduceAdd, Nat.reduceSub, Array.replicate_succ, Array.replicate_zero, List.push_toArray, List.append_toArray, List.nil_append, List.cons_append]
 refine sK fun K1 hK1 => rL ?_
 refine xA (.slice none 0 0) rfl rfl rfl ?_
 refine wL ?_
 simp only [zP, zI, zS, zO]
 refine tN (hK1 _ _ ?_)
 clear hK1 K1
 refine sK fun K2 hK2 => ?_
 refine sK fun K3 hK3 => rL ?_
 refine xM (.slice (some a) n c) rfl rfl rfl ?_
 refine xG (.bool false) rfl rfl (ex_slnil Try.underlying93 rfl rfl rfl rfl) ?_
 refine wL ?_
 simp only [zP, zI, zS, zO]
 refine tN (hK3 _ _ ?_)
 clear hK3 K3
 refine wpIn_cond_false rfl ?_
 refine wpIn_skip ?_
 refine tN (hK2 _ _ ?_)
 clear hK2 K2
 refine sK fun K4 hK4 => rL ?_
 refine sl_row0 (size := 2) tV (wn rfl) rfl hv (e := 92) (fun w => by kernel_rfl) (fun b5 w6 hv => ?_)
 refine xM (.slice (some a) n c) rfl rfl rfl ?_
 refine sl_append (news := xs) tV (wn rfl) rfl rfl rfl s5el93 hv hok hl (hr.src (fun r9 hr9 => List.mem_cons_of_mem _ (hRH r9 hr9)) hv) (h1) (by unfold maxLen; omega) (by omega) (fun rv7 w10 hv => ?_)
 obtain ⟨ra8, rc9, rfl⟩ := row_slice hv.head
 simp only [zP, zI, zS, zO]
 refine xA (.slice ra8 (0 + n) rc9) rfl rfl rfl ?_
 refine wL ?_
 simp only [zP, zI, zS, zO]
 refine tN (hK4 _ _ ?_)
 clear hK4 K4
 refine wpIn_ret ?_
 refine bR rfl rfl ?_
 obtain ⟨b3, hb3⟩ := row_some hv.head (by omega)
 subst hb3
 have h9 := hv
 simp only [Nat.zero_add, List.nil_append] at h9 ⊢
 exact ⟨b3, _, rfl, h9⟩
theorem quo2 (m h : Nat) (e : h = m / 2) (hm : m ≤ 1000000000) : IntKind.i64.wrap ((m : Int).tdiv 2) = (h : Int) := by
 rw [Int.tdiv_eq_ediv_of_nonneg (by omega), i64_in (by omega)]; omega
theorem s5sz3 : (Try.prog.info? 3).map (·.size) = some 1 := by kernel_rfl
theorem s5wd92 : Wide Try.prog 92 2 := wide_of (fun w => by kernel_rfl) (by kernel_rfl)
theorem s5callable57 : Callable Try.prog 57 := ⟨_, Try.func57, by kernel_rfl, by kernel_rfl⟩
theorem s5callable59 : Callable Try.prog 59 := ⟨_, Try.func59, by kernel_rfl, by kernel_rfl⟩
theorem s5mk93 : (Try.prog.info? 93).map (fun i => (i.zero, i.size, i.bytes)) = some (some (.slice none 0 0), 1, 24) := by kernel_rfl
theorem s5el79 : Elem Try.prog 79 93 (.slice none 0 0) 1 24 := elem_of Try.underlying79 s5mk93 (by rfl) (by decide)
theorem s5callable58 : Callable Try.prog 58 := ⟨_, Try.func58, by kernel_rfl, by kernel_rfl⟩
theorem s5sz79 : (Try.prog.info? 79).map (·.size) = some 1 := by kernel_rfl
set_option maxHeartbeats 4000000 in
theorem ixInsert1 (B : Base) (H : List Res) (w : World) (p0 a N ca b m c i j k i0 j0 : Nat) (n : Int) (bvs p d : List Value) (key : List UInt8) (cv : Value) (hN : N ≤ 1000000) (hi : i < N) (hm1 : 1 ≤ m) (hmk : m = j + k) (hm : m ≤ 1000000) (hn : 0 ≤ n ∧ n ≤ 1000000) (hcase : (i0 = i ∧ j0 = j) ∨ (i0 = N ∧ i + 1 = N ∧ k = 0)) (hp : p.length = j * 2) (hd : d.length = k * 2) (h1p : ∀ u ∈ p, u.oneCell' = true) (h1d : ∀ u ∈ d, u.oneCell' = true) (h1b : ∀ u ∈ bvs, u.oneCell' = true) (hbl : bvs.length = N) (hbi : bvs[i]? = some (.slice (some ⟨b, 0, none⟩) m c)) (hc1 : cv.cells = #[cv] ∧ cv.oneCell' = true) (hv : Inv B (Res.row 92 2 (.slice (some ⟨b, 0, none⟩) m c) m (p ++ d) :: Res.cell p0 [.slice (some ⟨a, 0, none⟩) N ca, .int .i64 n] 81 :: Res.row 93 1 (.slice (some ⟨a, 0, none⟩) N ca) N bvs :: H) w) :
  Calls Try.prog 44 #[.pointer (some ⟨p0, 0, none⟩), .int .i64 (i0 : Int), .int .i64 (j0 : Int), .agg #[.string ⟨key.toArray⟩, cv]] w fun e w' => e = .returned (.tuple #[]) ∧ ((m + 1 ≤ 128 ∧ ∃ b' c', Inv B (Res.row 92 2 (.slice (some ⟨b', 0, none⟩) (m + 1) c') (m + 1) (p ++ [.string ⟨key.toArray⟩, cv] ++ d) :: Res.cell p0 [.slice (some ⟨a, 0, none⟩) N ca, .int .i64 (n + 1)] 81 :: Res.row 93 1 (.slice (some ⟨a, 0, none⟩) N ca) N (bvs.set i (.slice (some ⟨b', 0, none⟩) (m + 1) c')) :: H) w') ∨ (128 < m + 1 ∧ ∃ b1 c1 b2 c2 a' ca', Inv B (Res.row 92 2 (.slice (some ⟨b1, 0, none⟩) ((m + 1) / 2) c1) ((m + 1) / 2) ((p ++ [.string ⟨key.toArray⟩, cv] ++ d).take (((m + 1) / 2) * 2)) :: Res.row 92 2 (.slice (some ⟨b2, 0, none⟩) (m + 1 - ((m + 1) / 2)) c2) (m + 1 - ((m + 1) / 2)) ((p ++ [.string ⟨key.toArray⟩, cv] ++ d).drop (((m + 1) / 2) * 2)) :: Res.cell p0 [.slice (some ⟨a', 0, none⟩) (N + 1) ca', .int .i64 (n + 1)] 81 :: Res.row 93 1 (.slice (some ⟨a', 0, none⟩) (N + 1) ca') (N + 1) ((bvs.take (i + 1) ++ [Value.slice (some ⟨b2, 0, none⟩) (m + 1 - ((m + 1) / 2)) c2] ++ bvs.drop (i + 1)).set i (.slice (some ⟨b1, 0, none⟩) ((m + 1) / 2) c1)) :: H) w')) := by
 refine (callsIn_wide (n := 5)).1 ?_
 refine callsIn_of_wp Try.func44 rfl trivial ?_
 simp only [Try.ntmps44, List.size_toArray, List.length_cons, List.length_nil, Nat.reduceAdd, Nat.reduceSub, Array.replicate_succ, Array.replicate_zero, List.push_toArray, List.append_toArray, List.nil_append, List.cons_append]
 refine sK fun K1 hK1 => rL ?_
 refine sl_box (L := [.string ⟨key.toArray⟩, cv]) tV (wn rfl) rfl (p := .agg #[.string ⟨key.toArray⟩, cv]) rfl hv (fun w => by kernel_rfl) (fun b2 w3 hv => ?_)
 refine wL ?_
 simp only [zP, zI, zS, zO]
 refine tN (hK1 _ _ ?_)
 clear hK1 K1
 refine sK fun K4 hK4 => rL ?_
 refine xM (.pointer (some ⟨p0, 0, none⟩)) rfl rfl rfl ?_
 refine xG (.pointer (some ⟨p0, 0, none⟩)) rfl rfl (ex_nil rfl rfl) ?_
 refine xF (.pointer (some ⟨p0, 1, none⟩)) rfl rfl rfl (s3fa81_1 _ _ _) ?_
 simp only [zP, zI, zS, zO]
 refine xL (.int .i64 n) rfl rfl rfl (run_load1 s2na3 (hv.load 2 1 rfl rfl)) ?_
 refine xG (.int .i64 (n + 1)) rfl rfl (ex_add (m := n) (n := 1) rfl rfl rfl (i64_in (by omega))) ?_
 refine xG (.pointer (some ⟨p0, 0, none⟩)) rfl rfl (ex_nil rfl rfl) ?_
 simp only [zP, zI, zS, zO]
 refine xF (.pointer (some ⟨p0, 1, none⟩)) rfl rfl rfl (s3fa81_1 _ _ _) ?_
 refine sl_storeAt 2 (v := .int .i64 (n + 1)) (L' := [.slice (some ⟨a, 0, none⟩) N ca, .int .i64 (n + 1)]) tV (wn rfl) rfl rfl rfl hv rfl s5sz3 (by simp) rfl rfl rfl (fun w5 hv => ?_)
 simp only [List.set_cons_succ, List.set_cons_zero] at hv
 refine wL ?_
 simp only [zP, zN, zI, zS, zO]
 refine tN (hK4 _ _ ?_)
 clear hK4 K4
 refine sK fun K6 hK6 => ?_
 refine sK fun K7 hK7 => rL ?_
 refine xM (.pointer (some ⟨p0, 0, none⟩)) rfl rfl rfl ?_
 refine xG (.pointer (some ⟨p0, 0, none⟩)) rfl rfl (ex_nil rfl rfl) ?_
 refine xF (.pointer (some ⟨p0, 0, none⟩)) rfl rfl rfl (s3fa81_0 _ _ _) ?_
 simp only [zP, zI, zS, zO]
 refine xL (.slice (some ⟨a, 0, none⟩) N ca) rfl rfl rfl (run_load1 s3na79 (hv.load 2 0 rfl rfl)) ?_
 refine xG (.int .i64 (N : Int)) rfl rfl (ex_len0 Try.underlying79 rfl rfl) ?_
 refine xG (.bool false) rfl rfl (ex_eql (k := .i64) (m := (N : Int)) (n := 0) rfl rfl rfl (decide_eq_false (by omega))) ?_
 refine wL ?_
 simp only [zP, zI, zS, zO]
 refine tN (hK7 _ _ ?_)
 clear hK7 K7
 refine wpIn_cond_false rfl ?_
 refine wpIn_skip ?_
 refine tN (hK6 _ _ ?_)
 clear hK6 K6
 refine sK fun K8 hK8 => ?_
 refine sK fun K9 hK9 => rL ?_
 refine xM (.int .i64 (i0 : Int)) rfl rfl rfl ?_
 refine xM (.pointer (some ⟨p0, 0, none⟩)) rfl rfl rfl ?_
 refine xG (.pointer (some ⟨p0, 0, none⟩)) rfl rfl (ex_nil rfl rfl) ?_
 simp only [zP, zI, zS, zO]
 refine xF (.pointer (some ⟨p0, 0, none⟩)) rfl rfl rfl (s3fa81_0 _ _ _) ?_
 refine xL (.slice (some ⟨a, 0, none⟩) N ca) rfl rfl rfl (run_load1 s3na79 (hv.load 2 0 rfl rfl)) ?_
 refine xG (.int .i64 (N : Int)) rfl rfl (ex_len0 Try.underlying79 rfl rfl) ?_
 simp only [zP, zI, zS, zO]
 by_cases hb10 : (i0 : Int) = (N : Int)
 ·refine xG (.bool true) rfl rfl (ex_eql (k := .i64) (m := (i0 : Int)) (n := (N : Int)) rfl rfl rfl (decide_eq_true hb10)) ?_
  refine wL ?_
  simp only [zP, zI, zS, zO]
  refine tN (hK9 _ _ ?_)
  clear hK9 K9
  refine wpIn_cond_true rfl ?_
  refine sK fun K11 hK11 => rL ?_
  refine xM (.int .i64 (i0 : Int)) rfl rfl rfl ?_
  refine xG (.int .i64 (i : Int)) rfl rfl (ex_sub (m := (i0 : Int)) (n := 1) rfl rfl rfl (by rw [i64_in (by omega)]; omega)) ?_
  refine xA (.int .i64 (i : Int)) rfl rfl rfl ?_
  refine wL ?_
  simp only [zP, zI, zS, zO]
  refine tN (hK11 _ _ ?_)
  clear hK11 K11
  refine rL ?_
  refine xM (.pointer (some ⟨p0, 0, none⟩)) rfl rfl rfl ?_
  refine xG (.pointer (some ⟨p0, 0, none⟩)) rfl rfl (ex_nil rfl rfl) ?_
  refine xF (.pointer (some ⟨p0, 0, none⟩)) rfl rfl rfl (s3fa81_0 _ _ _) ?_
  simp only [zP, zI, zS, zO]
  refine xL (.slice (some ⟨a, 0, none⟩) N ca) rfl rfl rfl (run_load1 s3na79 (hv.load 2 0 rfl rfl)) ?_
  refine xM (.int .i64 (i : Int)) rfl rfl rfl ?_
  refine xG (.pointer (some ⟨a, 0 + i, none⟩)) rfl rfl (ex_index rfl rfl rfl (run_idx1 (k := i) Try.underlying79 s3es79 (by omega))) ?_
  simp only [zP, zI, zS, zO]
  refine xL (.slice (some ⟨b, 0, none⟩) m c) rfl rfl rfl (run_load1 s3na93 (row_load (hv.get 3 rfl) hbi)) ?_
  refine xG (.int .i64 (m : Int)) rfl rfl (ex_len0 Try.underlying93 rfl rfl) ?_
  refine xA (.int .i64 (m : Int)) rfl rfl rfl ?_
  refine wL ?_
  simp only [zP, zI, zS, zO]
  refine tN (hK8 _ _ ?_)
  clear hK8 K8
  refine sK fun K12 hK12 => ?_
  refine region_st mixed [.pointer (some ⟨p0, 0, none⟩), .pointer (some ⟨p0, 0, none⟩), .pointer (some ⟨p0, 0, none⟩), .slice (some ⟨a, 0, none⟩) N ca, .int .i64 (i : Int), .pointer (some ⟨a, 0 + i, none⟩), .slice (some ⟨b, 0, none⟩) m c, .int .i64 (m : Int), .agg #[.string ⟨key.toArray⟩, cv], undef, undef, undef] [9, 10, 11] [⟨fun vals w => vals = [] ∧ Inv B (Res.cell b2 [.string ⟨key.toArray⟩, cv] 92 :: Res.row 92 2 (.slice (some ⟨b, 0, none⟩) m c) m (p ++ d) :: Res.cell p0 [.slice (some ⟨a, 0, none⟩) N ca, .int .i64 (n + 1)] 81 :: Res.row 93 1 (.slice (some ⟨a, 0, none⟩) N ca) N bvs :: H) w, fun _ _ _ ⟨h, hi⟩ he => ⟨h, hi.ext he⟩⟩, ⟨fun vals w => ∃ b13, vals = [.slice (some ⟨b13, 0, none⟩) 1 1] ∧ Inv B (Res.cell b13 [.string ⟨key.toArray⟩, cv] 92 :: Res.cell b2 [.string ⟨key.toArray⟩, cv] 92 :: Res.row 92 2 (.slice (some ⟨b, 0, none⟩) m c) m (p ++ d) :: Res.cell p0 [.slice (some ⟨a, 0, none⟩) N ca, .int .i64 (n + 1)] 81 :: Res.row 93 1 (.slice (some ⟨a, 0, none⟩) N ca) N bvs :: H) w, fun _ _ _ ⟨b13, h, hi⟩ he => ⟨b13, h, hi.ext he⟩⟩, ⟨fun vals w => ∃ b13 b3 c3, vals = [.slice (some ⟨b13, 0, none⟩) 1 1, .slice (some ⟨b3, 0, none⟩) (m + 1 : Nat) c3] ∧ Inv B (Res.row 92 2 (.slice (some ⟨b3, 0, none⟩) (m + 1) c3) (m + 1) (p ++ [.string ⟨key.toArray⟩, cv] ++ d) :: Res.cell b2 [.string ⟨key.toArray⟩, cv] 92 :: Res.cell p0 [.slice (some ⟨a, 0, none⟩) N ca, .int .i64 (n + 1)] 81 :: Res.row 93 1 (.slice (some ⟨a, 0, none⟩) N ca) N bvs :: H) w, fun _ _ _ ⟨b13, b3, c3, h, hi⟩ he => ⟨b13, b3, c3, h, hi.ext he⟩⟩, ⟨fun vals w => ∃ b13 b3 c3, vals = [.slice (some ⟨b13, 0, none⟩) 1 1, .slice (some ⟨b3, 0, none⟩) (m + 1 : Nat) c3, .slice (some ⟨b3, 0, none⟩) (m + 1 : Nat) c3] ∧ Inv B (Res.row 92 2 (.slice (some ⟨b3, 0, none⟩) (m + 1) c3) (m + 1) (p ++ [.string ⟨key.toArray⟩, cv] ++ d) :: Res.cell b2 [.string ⟨key.toArray⟩, cv] 92 :: Res.cell p0 [.slice (some ⟨a, 0, none⟩) N ca, .int .i64 (n + 1)] 81 :: Res.row 93 1 (.slice (some ⟨a, 0, none⟩) N ca) N bvs :: H) w, fun _ _ _ ⟨b13, b3, c3, h, hi⟩ he => ⟨b13, b3, c3, h, hi.ext he⟩⟩] 91 rfl (by kernel_rfl) ⟨rfl, hv⟩ ⟨?_, ?_, ?_, ?_, ?_, ?_, ?_, ?_, ?_, ?_, ?_, ?_, trivial⟩ ?_
  ·intro aa ww vals hJ hR
   exact xD rfl (ex_move rfl (show aa.eval (.tmp 0) = _ from hR.keep 0 rfl)) rfl rfl
  ·intro aa ww vals hJ hR
   exact xD rfl (ex_nil rfl (hR.w 0 46 rfl rfl rfl rfl)) rfl rfl
  ·intro aa ww vals hJ hR
   exact xD rfl (ex_field rfl (hR.w 1 47 rfl rfl rfl rfl) (s3fa81_0 _ _ _)) rfl rfl
  ·intro aa ww vals hJ hR
   have h2 : vals.length ≤ 1 := hR.hi 10 (by simp) rfl
   rcases (show vals.length = 0 ∨ vals.length = 1 by omega) with hl | hl
   ·obtain ⟨hvals, hv⟩ := hJ.at0 hl
    exact xD rfl (ex_load rfl (hR.w 2 48 rfl rfl rfl rfl) (run_load1 s3na79 (hv.load 2 0 rfl rfl))) rfl rfl
   obtain ⟨b13, hvals, hv⟩ := hJ.at0 hl
   exact xD rfl (ex_load rfl (hR.w 2 48 rfl rfl rfl rfl) (run_load1 s3na79 (hv.load 3 0 rfl rfl))) rfl rfl
  ·intro aa ww vals hJ hR
   exact xD rfl (ex_move rfl (show aa.eval (.tmp 1) = _ from hR.keep 1 rfl)) rfl rfl
  ·intro aa ww vals hJ hR
   exact xD rfl (ex_index rfl (hR.w 3 49 rfl rfl rfl rfl) (hR.w 4 50 rfl rfl rfl rfl) (run_idx1 (k := i) Try.underlying79 s3es79 (by omega))) rfl rfl
  ·intro aa ww vals hJ hR
   have h2 : vals.length ≤ 1 := hR.hi 10 (by simp) rfl
   rcases (show vals.length = 0 ∨ vals.length = 1 by omega) with hl | hl
   ·obtain ⟨hvals, hv⟩ := hJ.at0 hl
    exact xD rfl (ex_load rfl (hR.w 5 51 rfl rfl rfl rfl) (run_load1 s3na93 (row_load (hv.get 3 rfl) hbi))) rfl rfl
   obtain ⟨b13, hvals, hv⟩ := hJ.at0 hl
   exact xD rfl (ex_load rfl (hR.w 5 51 rfl rfl rfl rfl) (run_load1 s3na93 (row_load (hv.get 4 rfl) hbi))) rfl rfl
  ·intro aa ww vals hJ hR
   exact xD rfl (ex_move rfl (show aa.eval (.tmp 2) = _ from hR.keep 2 rfl)) rfl rfl
  ·intro aa ww vals hJ hR
   have h2 : vals.length ≤ 0 := hR.hi 9 (by simp) rfl
   have hl : vals.length = 0 := by omega
   obtain ⟨hvals, hv⟩ := hJ.at0 hl
   exact xD rfl (ex_load rfl (show aa.eval (.tmp 7) = _ from hR.keep 7 rfl) (run_load_mid (pre := []) (mid := [.string ⟨key.toArray⟩, cv]) (post := []) s5wd92 (show Blk _ b2 ([] ++ [.string ⟨key.toArray⟩, cv] ++ []) _ from hv.get 0 rfl) rfl)) rfl rfl
  ·intro aa ww vals hJ hR
   refine mem_step' rfl fun hvl => ?_
   have hl : vals.length = 0 := hvl
   obtain ⟨hvals, hv⟩ := hJ.at0 hl
   refine mem_rowAgg (L := [.string ⟨key.toArray⟩, cv]) (wn rfl) rfl (hR.w 8 54 rfl rfl rfl rfl) hv s5el93 rfl (by decide) (fun b13 w14 hv => ?_)
   exact JS.next hl ⟨b13, by rw [hvals]; rfl, hv⟩
  ·intro aa ww vals hJ hR
   refine mem_step' rfl fun hvl => ?_
   have hl : vals.length = 1 := hvl
   obtain ⟨b13, hvals, hv⟩ := hJ.at0 hl
   refine stepMem_calls s5callable57 (wn rfl) rfl (args := #[.slice (some ⟨b, 0, none⟩) m c, .int .i64 (m : Int), .slice (some ⟨b13, 0, none⟩) 1 1]) (by simp only [yA, yB, yC]; rw [show aa.eval (.tmp 52) = .slice (some ⟨b, 0, none⟩) m c from hR.v 6 52 rfl rfl rfl rfl, show aa.eval (.tmp 53) = .int .i64 (m : Int) from hR.v 7 53 rfl rfl rfl rfl, show aa.eval (.tmp 55) = .slice (some ⟨b13, 0, none⟩) 1 1 from (hR.val 9 55 rfl rfl rfl).trans (by rw [hvals] <;> rfl)] <;> rfl) ((insEnt B _ _ b c m m 0 b13 p d [.string ⟨key.toArray⟩, cv] (by omega) (by omega) hm (by rw [hp]; omega) (by rw [hd]; omega) rfl h1p h1d (one_cons rfl (one_cons hc1.2 one_nil)) (hv.front 2 rfl)).mono ?_)
   rintro e w15 ⟨b3, c3, rfl, hv⟩
   refine ⟨_, rfl, JS.next hl ⟨b13, b3, c3, by rw [hvals]; rfl, hv⟩⟩
  ·intro aa ww vals hJ hR
   refine mem_step' rfl fun hvl => ?_
   have hl : vals.length = 2 := hvl
   obtain ⟨b13, b3, c3, hvals, hv⟩ := hJ.at0 hl
   refine Ex.mem (ex_assign rfl (show aa.eval (.tmp 56) = _ from (hR.val 10 56 rfl rfl rfl).trans (by rw [hvals] <;> rfl))) (wn rfl) ?_
   exact JS.next hl ⟨b13, b3, c3, by rw [hvals]; rfl, hv⟩
  rintro w16 vals ⟨b13, b3, c3, rfl, hv⟩
  rw [show mixV [9, 10, 11] [.slice (some ⟨b13, 0, none⟩) 1 1, .slice (some ⟨b3, 0, none⟩) (m + 1 : Nat) c3, .slice (some ⟨b3, 0, none⟩) (m + 1 : Nat) c3] 0 [.pointer (some ⟨p0, 0, none⟩), .pointer (some ⟨p0, 0, none⟩), .pointer (some ⟨p0, 0, none⟩), .slice (some ⟨a, 0, none⟩) N ca, .int .i64 (i : Int), .pointer (some ⟨a, 0 + i, none⟩), .slice (some ⟨b, 0, none⟩) m c, .int .i64 (m : Int), .agg #[.string ⟨key.toArray⟩, cv], undef, undef, undef] = [.pointer (some ⟨p0, 0, none⟩), .pointer (some ⟨p0, 0, none⟩), .pointer (some ⟨p0, 0, none⟩), .slice (some ⟨a, 0, none⟩) N ca, .int .i64 (i : Int), .pointer (some ⟨a, 0 + i, none⟩), .slice (some ⟨b, 0, none⟩) m c, .int .i64 (m : Int), .agg #[.string ⟨key.toArray⟩, cv], .slice (some ⟨b13, 0, none⟩) 1 1, .slice (some ⟨b3, 0, none⟩) (m + 1 : Nat) c3, .slice (some ⟨b3, 0, none⟩) (m + 1 : Nat) c3] from rfl]
  simp only [putAll, zP, zI, zS, zO]
  refine tN (hK12 _ _ ?_)
  clear hK12 K12
  refine sK fun K17 hK17 => ?_
  refine sK fun K18 hK18 => rL ?_
  refine xM (.slice (some ⟨b3, 0, none⟩) (m + 1 : Nat) c3) rfl rfl rfl ?_
  refine xG (.int .i64 ((m + 1 : Nat) : Int)) rfl rfl (ex_len0 Try.underlying93 rfl rfl) ?_
  by_cases hb19 : ((m + 1 : Nat) : Int) > 128
  ·refine xG (.bool true) rfl rfl (ex_gtr (k := .i64) (m := ((m + 1 : Nat) : Int)) (n := 128) rfl rfl rfl (decide_eq_true hb19)) ?_
   refine wL ?_
   simp only [zP, zI, zS, zO]
   refine tN (hK18 _ _ ?_)
   clear hK18 K18
   refine wpIn_cond_true rfl ?_
   refine sK fun K20 hK20 => ?_
   obtain ⟨hf, hhf⟩ : ∃ hf : Nat, hf = (m + 1) / 2 := ⟨_, rfl⟩
   refine rL ?_
   refine xM (.slice (some ⟨b3, 0, none⟩) (m + 1 : Nat) c3) rfl rfl rfl ?_
   refine xG (.int .i64 ((m + 1 : Nat) : Int)) rfl rfl (ex_len0 Try.underlying93 rfl rfl) ?_
   refine xG (.int .i64 (hf : Int)) rfl rfl (ex_quo (m := ((m + 1 : Nat) : Int)) (n := 2) rfl rfl rfl (by decide) (quo2 (m + 1) hf hhf (by omega))) ?_
   simp only [zP, zI, zS, zO]
   refine xA (.int .i64 (hf : Int)) rfl rfl rfl ?_
   refine wL ?_
   simp only [zP, zI, zS, zO]
   refine tN (hK20 _ _ ?_)
   clear hK20 K20
   refine sK fun K21 hK21 => ?_
   have hc3 := (hv.rowOk).1
   have hc3l := hc3.le
   have hc3m := hc3.max
   have hesl : (p ++ [.string ⟨key.toArray⟩, cv] ++ d).length = (m + 1) * 2 := by simp only [List.length_append, hp, hd, List.length_cons, List.length_nil]; omega
   have hes1 : ∀ u ∈ (p ++ [.string ⟨key.toArray⟩, cv] ++ d), u.oneCell' = true := fun u hu => by
    rcases List.mem_append.1 hu with hu | hu
    ·rcases List.mem_append.1 hu with hu | hu
     ·exact h1p u hu
     exact one_cons rfl (one_cons hc1.2 one_nil) u hu
    exact h1d u hu
   rw [← List.take_append_drop (i + 1) bvs] at hv
   refine region_st mixed [.pointer (some ⟨p0, 0, none⟩), .pointer (some ⟨p0, 0, none⟩), .pointer (some ⟨p0, 0, none⟩), .pointer (some ⟨p0, 0, none⟩), .slice (some ⟨a, 0, none⟩) N ca, .int .i64 (i : Int), .int .i64 ((i + 1 : Nat) : Int), .slice (some ⟨b3, 0, none⟩) (m + 1 : Nat) c3, .int .i64 (hf : Int), .slice (some ⟨b3, 0 + hf * 2, none⟩) ((m + 1 : Nat) - hf) (c3 - hf), undef, undef, undef, .pointer (some ⟨p0, 0, none⟩), .pointer (some ⟨p0, 0, none⟩), undef] [10, 11, 12, 15] [⟨fun vals w => vals = [] ∧ Inv B (Res.row 92 2 (.slice (some ⟨b3, 0, none⟩) (m + 1) c3) (m + 1) (p ++ [.string ⟨key.toArray⟩, cv] ++ d) :: Res.cell b2 [.string ⟨key.toArray⟩, cv] 92 :: Res.cell p0 [.slice (some ⟨a, 0, none⟩) N ca, .int .i64 (n + 1)] 81 :: Res.row 93 1 (.slice (some ⟨a, 0, none⟩) N ca) N (List.take (i + 1) bvs ++ List.drop (i + 1) bvs) :: H) w, fun _ _ _ ⟨h, hi⟩ he => ⟨h, hi.ext he⟩⟩, ⟨fun vals w => ∃ b4 c4, vals = [.slice (some ⟨b4, 0, none⟩) (m + 1 - hf) c4] ∧ Inv B (Res.row 92 2 (.slice (some ⟨b4, 0, none⟩) (m + 1 - hf) c4) (m + 1 - hf) ((p ++ [.string ⟨key.toArray⟩, cv] ++ d).drop (hf * 2)) :: Res.row 92 2 (.slice (some ⟨b3, 0, none⟩) (m + 1) c3) (m + 1) (p ++ [.string ⟨key.toArray⟩, cv] ++ d) :: Res.cell b2 [.string ⟨key.toArray⟩, cv] 92 :: Res.cell p0 [.slice (some ⟨a, 0, none⟩) N ca, .int .i64 (n + 1)] 81 :: Res.row 93 1 (.slice (some ⟨a, 0, none⟩) N ca) N (List.take (i + 1) bvs ++ List.drop (i + 1) bvs) :: H) w, fun _ _ _ ⟨b4, c4, h, hi⟩ he => ⟨b4, c4, h, hi.ext he⟩⟩, ⟨fun vals w => ∃ b4 c4 b23, vals = [.slice (some ⟨b4, 0, none⟩) (m + 1 - hf) c4, .slice (some ⟨b23, 0, none⟩) 1 1] ∧ Inv B (Res.cell b23 [.slice (some ⟨b4, 0, none⟩) (m + 1 - hf) c4] 93 :: Res.row 92 2 (.slice (some ⟨b4, 0, none⟩) (m + 1 - hf) c4) (m + 1 - hf) ((p ++ [.string ⟨key.toArray⟩, cv] ++ d).drop (hf * 2)) :: Res.row 92 2 (.slice (some ⟨b3, 0, none⟩) (m + 1) c3) (m + 1) (p ++ [.string ⟨key.toArray⟩, cv] ++ d) :: Res.cell b2 [.string ⟨key.toArray⟩, cv] 92 :: Res.cell p0 [.slice (some ⟨a, 0, none⟩) N ca, .int .i64 (n + 1)] 81 :: Res.row 93 1 (.slice (some ⟨a, 0, none⟩) N ca) N (List.take (i + 1) bvs ++ List.drop (i + 1) bvs) :: H) w, fun _ _ _ ⟨b4, c4, b23, h, hi⟩ he => ⟨b4, c4, b23, h, hi.ext he⟩⟩, ⟨fun vals w => ∃ b4 c4 b23 a5 ca5, vals = [.slice (some ⟨b4, 0, none⟩) (m + 1 - hf) c4, .slice (some ⟨b23, 0, none⟩) 1 1, .slice (some ⟨a5, 0, none⟩) (N + 1) ca5] ∧ Inv B (Res.row 93 1 (.slice (some ⟨a5, 0, none⟩) (N + 1) ca5) (N + 1) (List.take (i + 1) bvs ++ [Value.slice (some ⟨b4, 0, none⟩) (m + 1 - hf) c4] ++ List.drop (i + 1) bvs) :: Res.row 92 2 (.slice (some ⟨b4, 0, none⟩) (m + 1 - hf) c4) (m + 1 - hf) ((p ++ [.string ⟨key.toArray⟩, cv] ++ d).drop (hf * 2)) :: Res.row 92 2 (.slice (some ⟨b3, 0, none⟩) (m + 1) c3) (m + 1) (p ++ [.string ⟨key.toArray⟩, cv] ++ d) :: Res.cell b2 [.string ⟨key.toArray⟩, cv] 92 :: Res.cell p0 [.slice (some ⟨a, 0, none⟩) N ca, .int .i64 (n + 1)] 81 :: H) w, fun _ _ _ ⟨b4, c4, b23, a5, ca5, h, hi⟩ he => ⟨b4, c4, b23, a5, ca5, h, hi.ext he⟩⟩, ⟨fun vals w => ∃ b4 c4 b23 a5 ca5, vals = [.slice (some ⟨b4, 0, none⟩) (m + 1 - hf) c4, .slice (some ⟨b23, 0, none⟩) 1 1, .slice (some ⟨a5, 0, none⟩) (N + 1) ca5, undef] ∧ Inv B (Res.row 93 1 (.slice (some ⟨a5, 0, none⟩) (N + 1) ca5) (N + 1) (List.take (i + 1) bvs ++ [Value.slice (some ⟨b4, 0, none⟩) (m + 1 - hf) c4] ++ List.drop (i + 1) bvs) :: Res.row 92 2 (.slice (some ⟨b4, 0, none⟩) (m + 1 - hf) c4) (m + 1 - hf) ((p ++ [.string ⟨key.toArray⟩, cv] ++ d).drop (hf * 2)) :: Res.row 92 2 (.slice (some ⟨b3, 0, none⟩) (m + 1) c3) (m + 1) (p ++ [.string ⟨key.toArray⟩, cv] ++ d) :: Res.cell b2 [.string ⟨key.toArray⟩, cv] 92 :: Res.cell p0 [.slice (some ⟨a5, 0, none⟩) (N + 1) ca5, .int .i64 (n + 1)] 81 :: H) w, fun _ _ _ ⟨b4, c4, b23, a5, ca5, h, hi⟩ he => ⟨b4, c4, b23, a5, ca5, h, hi.ext he⟩⟩] 91 rfl (by kernel_rfl) ⟨rfl, hv⟩ ⟨?_, ?_, ?_, ?_, ?_, ?_, ?_, ?_, ?_, ?_, ?_, ?_, ?_, ?_, ?_, ?_, trivial⟩ ?_
   ·intro aa ww vals hJ hR
    exact xD rfl (ex_move rfl (show aa.eval (.tmp 0) = _ from hR.keep 0 rfl)) rfl rfl
   ·intro aa ww vals hJ hR
    exact xD rfl (ex_move rfl (show aa.eval (.tmp 0) = _ from hR.keep 0 rfl)) rfl rfl
   ·intro aa ww vals hJ hR
    exact xD rfl (ex_nil rfl (hR.w 1 64 rfl rfl rfl rfl)) rfl rfl
   ·intro aa ww vals hJ hR
    exact xD rfl (ex_field rfl (hR.w 2 65 rfl rfl rfl rfl) (s3fa81_0 _ _ _)) rfl rfl
   ·intro aa ww vals hJ hR
    have h2 : vals.length ≤ 2 := hR.hi 12 (by simp) rfl
    rcases (show vals.length = 0 ∨ vals.length = 1 ∨ vals.length = 2 by omega) with hl | hl | hl
    ·obtain ⟨hvals, hv⟩ := hJ.at0 hl
     exact xD rfl (ex_load rfl (hR.w 3 66 rfl rfl rfl rfl) (run_load1 s3na79 (hv.load 2 0 rfl rfl))) rfl rfl
    ·obtain ⟨b4, c4, hvals, hv⟩ := hJ.at0 hl
     exact xD rfl (ex_load rfl (hR.w 3 66 rfl rfl rfl rfl) (run_load1 s3na79 (hv.load 3 0 rfl rfl))) rfl rfl
    obtain ⟨b4, c4, b23, hvals, hv⟩ := hJ.at0 hl
    exact xD rfl (ex_load rfl (hR.w 3 66 rfl rfl rfl rfl) (run_load1 s3na79 (hv.load 4 0 rfl rfl))) rfl rfl
   ·intro aa ww vals hJ hR
    exact xD rfl (ex_move rfl (show aa.eval (.tmp 1) = _ from hR.keep 1 rfl)) rfl rfl
   ·intro aa ww vals hJ hR
    exact xD rfl (ex_add (m := (i : Int)) (n := 1) rfl (hR.w 5 68 rfl rfl rfl rfl) rfl (by rw [i64_in (by omega)]; omega)) rfl rfl
   ·intro aa ww vals hJ hR
    exact xD rfl (ex_move rfl (show aa.eval (.tmp 8) = _ from hR.keep 8 rfl)) rfl rfl
   ·intro aa ww vals hJ hR
    exact xD rfl (ex_move rfl (show aa.eval (.tmp 9) = _ from hR.keep 9 rfl)) rfl rfl
   ·intro aa ww vals hJ hR
    exact xD rfl (ex_slice (lo' := some (.int .i64 (hf : Int))) rfl (hR.w 7 70 rfl rfl rfl rfl) (congrArg some (hR.w 8 71 rfl rfl rfl rfl)) rfl rfl (run_from (size := 2) Try.underlying93 s3es93 (by omega) (by omega))) rfl rfl
   ·intro aa ww vals hJ hR
    refine mem_step' rfl fun hvl => ?_
    have hl : vals.length = 0 := hvl
    obtain ⟨hvals, hv⟩ := hJ.at0 hl
    refine stepMem_calls s5callable59 (wn rfl) rfl (args := #[.slice (some ⟨b3, 0 + hf * 2, none⟩) ((m + 1 : Nat) - hf) (c3 - hf)]) (by simp only [yA, yB, yC]; rw [show aa.eval (.tmp 72) = .slice (some ⟨b3, 0 + hf * 2, none⟩) ((m + 1 : Nat) - hf) (c3 - hf) from hR.v 9 72 rfl rfl rfl rfl] <;> rfl) ((cloneEnt B _ _ _ (m + 1 - hf) (c3 - hf) ((p ++ [.string ⟨key.toArray⟩, cv] ++ d).drop (hf * 2)) [_] (fun r hr => by rw [List.mem_singleton.1 hr]; exact List.mem_of_getElem? (i := 0) rfl) ⟨by omega, by unfold maxLen at hc3m ⊢; omega, fun h => by cases h⟩ (by rw [List.length_drop, hesl]; omega) (fun u hu => hes1 u (List.mem_of_mem_drop hu)) (by omega) (by omega) (rdW_row.drop (hf * 2)) hv).mono ?_)
    rintro e w22 ⟨b4, c4, rfl, hv⟩
    refine ⟨_, rfl, JS.next hl ⟨b4, c4, by rw [hvals]; rfl, hv⟩⟩
   ·intro aa ww vals hJ hR
    refine mem_step' rfl fun hvl => ?_
    have hl : vals.length = 1 := hvl
    obtain ⟨b4, c4, hvals, hv⟩ := hJ.at0 hl
    refine mem_row1 (v := .slice (some ⟨b4, 0, none⟩) (m + 1 - hf) c4) (wn rfl) rfl (show aa.eval (.tmp 73) = _ from (hR.val 10 73 rfl rfl rfl).trans (by rw [hvals] <;> rfl)) hv s5el79 rfl (fun b23 w24 hv => ?_)
    exact JS.next hl ⟨b4, c4, b23, by rw [hvals]; rfl, hv⟩
   ·intro aa ww vals hJ hR
    refine mem_step' rfl fun hvl => ?_
    have hl : vals.length = 2 := hvl
    obtain ⟨b4, c4, b23, hvals, hv⟩ := hJ.at0 hl
    refine stepMem_calls s5callable58 (wn rfl) rfl (args := #[.slice (some ⟨a, 0, none⟩) N ca, .int .i64 ((i + 1 : Nat) : Int), .slice (some ⟨b23, 0, none⟩) 1 1]) (by simp only [yA, yB, yC]; rw [show aa.eval (.tmp 67) = .slice (some ⟨a, 0, none⟩) N ca from hR.v 4 67 rfl rfl rfl rfl, show aa.eval (.tmp 69) = .int .i64 ((i + 1 : Nat) : Int) from hR.v 6 69 rfl rfl rfl rfl, show aa.eval (.tmp 74) = .slice (some ⟨b23, 0, none⟩) 1 1 from (hR.val 11 74 rfl rfl rfl).trans (by rw [hvals] <;> rfl)] <;> rfl) ((insBlk B _ _ a ca N (i + 1) (N - (i + 1)) b23 _ _ [Value.slice (some ⟨b4, 0, none⟩) (m + 1 - hf) c4] (by omega) (by omega) hN (by rw [List.length_take, hbl]; omega) (by rw [List.length_drop, hbl]; omega) rfl (fun u hu => h1b u (List.mem_of_mem_take hu)) (fun u hu => h1b u (List.mem_of_mem_drop hu)) (one_cons rfl one_nil) (hv.front 5 rfl)).mono ?_)
    rintro e w25 ⟨a5, ca5, rfl, hv⟩
    refine ⟨_, rfl, JS.next hl ⟨b4, c4, b23, a5, ca5, by rw [hvals]; rfl, hv⟩⟩
   ·intro aa ww vals hJ hR
    exact xD rfl (ex_nil rfl (hR.w 0 63 rfl rfl rfl rfl)) rfl rfl
   ·intro aa ww vals hJ hR
    exact xD rfl (ex_field rfl (hR.w 13 76 rfl rfl rfl rfl) (s3fa81_0 _ _ _)) rfl rfl
   ·intro aa ww vals hJ hR
    refine mem_step' rfl fun hvl => ?_
    have hl : vals.length = 3 := hvl
    obtain ⟨b4, c4, b23, a5, ca5, hvals, hv⟩ := hJ.at0 hl
    refine mem_storeAt 4 (v := .slice (some ⟨a5, 0, none⟩) (N + 1) ca5) (L' := [.slice (some ⟨a5, 0, none⟩) (N + 1) ca5, .int .i64 (n + 1)]) (wn rfl) rfl (hR.w 14 77 rfl rfl rfl rfl) (show aa.eval (.tmp 75) = _ from (hR.val 12 75 rfl rfl rfl).trans (by rw [hvals] <;> rfl)) hv rfl s5sz79 (by simp) rfl rfl rfl (fun w26 hv => ?_)
    exact JS.next hl ⟨b4, c4, b23, a5, ca5, by rw [hvals]; rfl, hv⟩
   rintro w27 vals ⟨b4, c4, b23, a5, ca5, rfl, hv⟩
   rw [show mixV [10, 11, 12, 15] [.slice (some ⟨b4, 0, none⟩) (m + 1 - hf) c4, .slice (some ⟨b23, 0, none⟩) 1 1, .slice (some ⟨a5, 0, none⟩) (N + 1) ca5, undef] 0 [.pointer (some ⟨p0, 0, none⟩), .pointer (some ⟨p0, 0, none⟩), .pointer (some ⟨p0, 0, none⟩), .pointer (some ⟨p0, 0, none⟩), .slice (some ⟨a, 0, none⟩) N ca, .int .i64 (i : Int), .int .i64 ((i + 1 : Nat) : Int), .slice (some ⟨b3, 0, none⟩) (m + 1 : Nat) c3, .int .i64 (hf : Int), .slice (some ⟨b3, 0 + hf * 2, none⟩) ((m + 1 : Nat) - hf) (c3 - hf), undef, undef, undef, .pointer (some ⟨p0, 0, none⟩), .pointer (some ⟨p0, 0, none⟩), undef] = [.pointer (some ⟨p0, 0, none⟩), .pointer (some ⟨p0, 0, none⟩), .pointer (some ⟨p0, 0, none⟩), .pointer (some ⟨p0, 0, none⟩), .slice (some ⟨a, 0, none⟩) N ca, .int .i64 (i : Int), .int .i64 ((i + 1 : Nat) : Int), .slice (some ⟨b3, 0, none⟩) (m + 1 : Nat) c3, .int .i64 (hf : Int), .slice (some ⟨b3, 0 + hf * 2, none⟩) ((m + 1 : Nat) - hf) (c3 - hf), .slice (some ⟨b4, 0, none⟩) (m + 1 - hf) c4, .slice (some ⟨b23, 0, none⟩) 1 1, .slice (some ⟨a5, 0, none⟩) (N + 1) ca5, .pointer (some ⟨p0, 0, none⟩), .pointer (some ⟨p0, 0, none⟩), undef] from rfl]
   simp only [putAll, zP, zN, zI, zS, zO]
   refine tN (hK21 _ _ ?_)
   clear hK21 K21
   refine sK fun K28 hK28 => ?_
   replace hv := hv.front 2 rfl
   simp only [List.eraseIdx_cons_succ, List.eraseIdx_cons_zero] at hv
   obtain ⟨L, hL1, hL2, hL3, hL4, hv⟩ := hv.rowCell
   obtain ⟨tl, hLe⟩ : ∃ tl, L = (p ++ [.string ⟨key.toArray⟩, cv] ++ d).take (hf * 2) ++ (p ++ [.string ⟨key.toArray⟩, cv] ++ d).drop (hf * 2) ++ tl := ⟨L.drop ((m + 1) * 2), by rw [List.take_append_drop, ← hL2, List.take_append_drop]⟩
   subst hLe
   refine rL ?_
   refine xM (.slice (some ⟨b3, 0, none⟩) (m + 1 : Nat) c3) rfl rfl rfl ?_
   refine xM (.int .i64 (hf : Int)) rfl rfl rfl ?_
   refine xG (.slice (some ⟨b3, 0 + hf * 2, none⟩) ((m + 1 : Nat) - hf) (c3 - hf)) rfl rfl (ex_slice (lo' := some (.int .i64 (hf : Int))) rfl rfl (congrArg some rfl) rfl rfl (run_from (size := 2) Try.underlying93 s3es93 (by omega) (by omega))) ?_
   simp only [zP, zI, zS, zO]
   refine sl_clearAt 0 (pre := (p ++ [.string ⟨key.toArray⟩, cv] ++ d).take (hf * 2)) (mid := (p ++ [.string ⟨key.toArray⟩, cv] ++ d).drop (hf * 2)) (post := tl) (m := m + 1 - hf) tV (wn rfl) rfl rfl s5el93 (one_cons rfl (one_cons rfl one_nil)) hv rfl rfl (by rw [List.length_take, hesl]; omega) (by rw [List.length_drop, hesl]; omega) (fun zs w29 hzs hv => ?_)
   simp only [List.set_cons_zero] at hv
   refine wL ?_
   simp only [zN]
   refine tN (hK28 _ _ ?_)
   clear hK28 K28
   refine rL ?_
   refine xM (.slice (some ⟨b3, 0, none⟩) (m + 1 : Nat) c3) rfl rfl rfl ?_
   refine xM (.int .i64 (hf : Int)) rfl rfl rfl ?_
   refine xG (.slice (some ⟨b3, 0, none⟩) hf c3) rfl rfl (ex_slice (hi' := some (.int .i64 (hf : Int))) rfl rfl rfl (congrArg some rfl) rfl (run_hi Try.underlying93 s3es93 (by omega))) ?_
   simp only [zP, zI, zS, zO]
   refine xA (.slice (some ⟨b3, 0, none⟩) hf c3) rfl rfl rfl ?_
   refine wL ?_
   simp only [zP, zI, zS, zO]
   refine tN (hK17 _ _ ?_)
   clear hK17 K17
   have h9 := hv.cellRow (n := hf) (c := c3) (size := 2) (by simp only [List.length_append, hzs] at hL1 ⊢; exact hL1) (by omega) hL4
   rw [List.append_assoc, List.take_left' (by rw [List.length_take, hesl]; omega)] at h9
   replace hv := h9
   clear h9
   refine rL ?_
   refine xM (.pointer (some ⟨p0, 0, none⟩)) rfl rfl rfl ?_
   refine xG (.pointer (some ⟨p0, 0, none⟩)) rfl rfl (ex_nil rfl rfl) ?_
   refine xF (.pointer (some ⟨p0, 0, none⟩)) rfl rfl rfl (s3fa81_0 _ _ _) ?_
   simp only [zP, zI, zS, zO]
   refine xL (.slice (some ⟨a5, 0, none⟩) (N + 1) ca5) rfl rfl rfl (run_load1 s3na79 (hv.load 4 0 rfl rfl)) ?_
   refine xM (.int .i64 (i : Int)) rfl rfl rfl ?_
   refine xM (.slice (some ⟨b3, 0, none⟩) hf c3) rfl rfl rfl ?_
   simp only [zP, zI, zS, zO]
   refine xG (.pointer (some ⟨a5, 0 + i, none⟩)) rfl rfl (ex_index rfl rfl rfl (run_idx1 (k := i) Try.underlying79 s3es79 (by omega))) ?_
   replace hv := hv.front 1 rfl
   simp only [List.eraseIdx_cons_succ, List.eraseIdx_cons_zero] at hv
   refine sl_storeRow (v := .slice (some ⟨b3, 0, none⟩) hf c3) tV (wn rfl) rfl rfl rfl hv s3sz93 (by first | (rw [hbl]; omega) | (simp only [List.length_append, List.length_take, List.length_drop, List.length_cons, List.length_nil, hbl]; omega)) rfl rfl (fun w30 hv => ?_)
   rw [Nat.zero_add] at hv
   refine wL ?_
   simp only [zP, zN, zI, zS, zO]
   go_end0
   subst hhf
   exact ⟨rfl, .inr ⟨by omega, b3, c3, b4, c4, a5, ca5, ((((hv.front 4 rfl).front 3 rfl).front 3 rfl).sub (List.Sublist.cons_cons _ (List.Sublist.cons_cons _ (List.Sublist.cons_cons _ (List.Sublist.cons_cons _ (List.Sublist.cons _ (List.Sublist.refl _)))))))⟩⟩
  refine xG (.bool false) rfl rfl (ex_gtr (k := .i64) (m := ((m + 1 : Nat) : Int)) (n := 128) rfl rfl rfl (decide_eq_false hb19)) ?_
  refine wL ?_
  simp only [zP, zI, zS, zO]
  refine tN (hK18 _ _ ?_)
  clear hK18 K18
  refine wpIn_cond_false rfl ?_
  refine wpIn_skip ?_
  refine tN (hK17 _ _ ?_)
  clear hK17 K17
  refine rL ?_
  refine xM (.pointer (some ⟨p0, 0, none⟩)) rfl rfl rfl ?_
  refine xG (.pointer (some ⟨p0, 0, none⟩)) rfl rfl (ex_nil rfl rfl) ?_
  refine xF (.pointer (some ⟨p0, 0, none⟩)) rfl rfl rfl (s3fa81_0 _ _ _) ?_
  simp only [zP, zI, zS, zO]
  refine xL (.slice (some ⟨a, 0, none⟩) N ca) rfl rfl rfl (run_load1 s3na79 (hv.load 2 0 rfl rfl)) ?_
  refine xM (.int .i64 (i : Int)) rfl rfl rfl ?_
  refine xM (.slice (some ⟨b3, 0, none⟩) (m + 1 : Nat) c3) rfl rfl rfl ?_
  simp only [zP, zI, zS, zO]
  refine xG (.pointer (some ⟨a, 0 + i, none⟩)) rfl rfl (ex_index rfl rfl rfl (run_idx1 (k := i) Try.underlying79 s3es79 (by omega))) ?_
  replace hv := hv.front 3 rfl
  simp only [List.eraseIdx_cons_succ, List.eraseIdx_cons_zero] at hv
  refine sl_storeRow (v := .slice (some ⟨b3, 0, none⟩) (m + 1 : Nat) c3) tV (wn rfl) rfl rfl rfl hv s3sz93 (by first | (rw [hbl]; omega) | (simp only [List.length_append, List.length_take, List.length_drop, List.length_cons, List.length_nil, hbl]; omega)) rfl rfl (fun w31 hv => ?_)
  rw [Nat.zero_add] at hv
  refine wL ?_
  simp only [zP, zN, zI, zS, zO]
  go_end0
  exact ⟨rfl, .inl ⟨by omega, b3, c3, (((hv.front 3 rfl).front 2 rfl).sub (List.Sublist.cons_cons _ (List.Sublist.cons_cons _ (List.Sublist.cons_cons _ (List.Sublist.cons _ (List.Sublist.refl _))))))⟩⟩
 refine xG (.bool false) rfl rfl (ex_eql (k := .i64) (m := (i0 : Int)) (n := (N : Int)) rfl rfl rfl (decide_eq_false hb10)) ?_
 have h1 : i = i0 := by omega
 subst h1
 have h2 : j = j0 := by omega
 subst h2
 refine wL ?_
 simp only [zP, zI, zS, zO]
 refine tN (hK9 _ _ ?_)
 clear hK9 K9
 refine wpIn_cond_false rfl ?_
 refine wpIn_skip ?_
 refine tN (hK8 _ _ ?_)
 clear hK8 K8
 refine sK fun K32 hK32 => ?_
 refine region_st mixed [.pointer (some ⟨p0, 0, none⟩), .pointer (some ⟨p0, 0, none⟩), .pointer (some ⟨p0, 0, none⟩), .slice (some ⟨a, 0, none⟩) N ca, .int .i64 (i : Int), .pointer (some ⟨a, 0 + i, none⟩), .slice (some ⟨b, 0, none⟩) m c, .int .i64 (j : Int), .agg #[.string ⟨key.toArray⟩, cv], undef, undef, undef] [9, 10, 11] [⟨fun vals w => vals = [] ∧ Inv B (Res.cell b2 [.string ⟨key.toArray⟩, cv] 92 :: Res.row 92 2 (.slice (some ⟨b, 0, none⟩) m c) m (p ++ d) :: Res.cell p0 [.slice (some ⟨a, 0, none⟩) N ca, .int .i64 (n + 1)] 81 :: Res.row 93 1 (.slice (some ⟨a, 0, none⟩) N ca) N bvs :: H) w, fun _ _ _ ⟨h, hi⟩ he => ⟨h, hi.ext he⟩⟩, ⟨fun vals w => ∃ b33, vals = [.slice (some ⟨b33, 0, none⟩) 1 1] ∧ Inv B (Res.cell b33 [.string ⟨key.toArray⟩, cv] 92 :: Res.cell b2 [.string ⟨key.toArray⟩, cv] 92 :: Res.row 92 2 (.slice (some ⟨b, 0, none⟩) m c) m (p ++ d) :: Res.cell p0 [.slice (some ⟨a, 0, none⟩) N ca, .int .i64 (n + 1)] 81 :: Res.row 93 1 (.slice (some ⟨a, 0, none⟩) N ca) N bvs :: H) w, fun _ _ _ ⟨b33, h, hi⟩ he => ⟨b33, h, hi.ext he⟩⟩, ⟨fun vals w => ∃ b33 b3 c3, vals = [.slice (some ⟨b33, 0, none⟩) 1 1, .slice (some ⟨b3, 0, none⟩) (m + 1 : Nat) c3] ∧ Inv B (Res.row 92 2 (.slice (some ⟨b3, 0, none⟩) (m + 1) c3) (m + 1) (p ++ [.string ⟨key.toArray⟩, cv] ++ d) :: Res.cell b2 [.string ⟨key.toArray⟩, cv] 92 :: Res.cell p0 [.slice (some ⟨a, 0, none⟩) N ca, .int .i64 (n + 1)] 81 :: Res.row 93 1 (.slice (some ⟨a, 0, none⟩) N ca) N bvs :: H) w, fun _ _ _ ⟨b33, b3, c3, h, hi⟩ he => ⟨b33, b3, c3, h, hi.ext he⟩⟩, ⟨fun vals w => ∃ b33 b3 c3, vals = [.slice (some ⟨b33, 0, none⟩) 1 1, .slice (some ⟨b3, 0, none⟩) (m + 1 : Nat) c3, .slice (some ⟨b3, 0, none⟩) (m + 1 : Nat) c3] ∧ Inv B (Res.row 92 2 (.slice (some ⟨b3, 0, none⟩) (m + 1) c3) (m + 1) (p ++ [.string ⟨key.toArray⟩, cv] ++ d) :: Res.cell b2 [.string ⟨key.toArray⟩, cv] 92 :: Res.cell p0 [.slice (some ⟨a, 0, none⟩) N ca, .int .i64 (n + 1)] 81 :: Res.row 93 1 (.slice (some ⟨a, 0, none⟩) N ca) N bvs :: H) w, fun _ _ _ ⟨b33, b3, c3, h, hi⟩ he => ⟨b33, b3, c3, h, hi.ext he⟩⟩] 91 rfl (by kernel_rfl) ⟨rfl, hv⟩ ⟨?_, ?_, ?_, ?_, ?_, ?_, ?_, ?_, ?_, ?_, ?_, ?_, trivial⟩ ?_
 ·intro aa ww vals hJ hR
  exact xD rfl (ex_move rfl (show aa.eval (.tmp 0) = _ from hR.keep 0 rfl)) rfl rfl
 ·intro aa ww vals hJ hR
  exact xD rfl (ex_nil rfl (hR.w 0 46 rfl rfl rfl rfl)) rfl rfl
 ·intro aa ww vals hJ hR
  exact xD rfl (ex_field rfl (hR.w 1 47 rfl rfl rfl rfl) (s3fa81_0 _ _ _)) rfl rfl
 ·intro aa ww vals hJ hR
  have h2 : vals.length ≤ 1 := hR.hi 10 (by simp) rfl
  rcases (show vals.length = 0 ∨ vals.length = 1 by omega) with hl | hl
  ·obtain ⟨hvals, hv⟩ := hJ.at0 hl
   exact xD rfl (ex_load rfl (hR.w 2 48 rfl rfl rfl rfl) (run_load1 s3na79 (hv.load 2 0 rfl rfl))) rfl rfl
  obtain ⟨b33, hvals, hv⟩ := hJ.at0 hl
  exact xD rfl (ex_load rfl (hR.w 2 48 rfl rfl rfl rfl) (run_load1 s3na79 (hv.load 3 0 rfl rfl))) rfl rfl
 ·intro aa ww vals hJ hR
  exact xD rfl (ex_move rfl (show aa.eval (.tmp 1) = _ from hR.keep 1 rfl)) rfl rfl
 ·intro aa ww vals hJ hR
  exact xD rfl (ex_index rfl (hR.w 3 49 rfl rfl rfl rfl) (hR.w 4 50 rfl rfl rfl rfl) (run_idx1 (k := i) Try.underlying79 s3es79 (by omega))) rfl rfl
 ·intro aa ww vals hJ hR
  have h2 : vals.length ≤ 1 := hR.hi 10 (by simp) rfl
  rcases (show vals.length = 0 ∨ vals.length = 1 by omega) with hl | hl
  ·obtain ⟨hvals, hv⟩ := hJ.at0 hl
   exact xD rfl (ex_load rfl (hR.w 5 51 rfl rfl rfl rfl) (run_load1 s3na93 (row_load (hv.get 3 rfl) hbi))) rfl rfl
  obtain ⟨b33, hvals, hv⟩ := hJ.at0 hl
  exact xD rfl (ex_load rfl (hR.w 5 51 rfl rfl rfl rfl) (run_load1 s3na93 (row_load (hv.get 4 rfl) hbi))) rfl rfl
 ·intro aa ww vals hJ hR
  exact xD rfl (ex_move rfl (show aa.eval (.tmp 2) = _ from hR.keep 2 rfl)) rfl rfl
 ·intro aa ww vals hJ hR
  have h2 : vals.length ≤ 0 := hR.hi 9 (by simp) rfl
  have hl : vals.length = 0 := by omega
  obtain ⟨hvals, hv⟩ := hJ.at0 hl
  exact xD rfl (ex_load rfl (show aa.eval (.tmp 7) = _ from hR.keep 7 rfl) (run_load_mid (pre := []) (mid := [.string ⟨key.toArray⟩, cv]) (post := []) s5wd92 (show Blk _ b2 ([] ++ [.string ⟨key.toArray⟩, cv] ++ []) _ from hv.get 0 rfl) rfl)) rfl rfl
 ·intro aa ww vals hJ hR
  refine mem_step' rfl fun hvl => ?_
  have hl : vals.length = 0 := hvl
  obtain ⟨hvals, hv⟩ := hJ.at0 hl
  refine mem_rowAgg (L := [.string ⟨key.toArray⟩, cv]) (wn rfl) rfl (hR.w 8 54 rfl rfl rfl rfl) hv s5el93 rfl (by decide) (fun b33 w34 hv => ?_)
  exact JS.next hl ⟨b33, by rw [hvals]; rfl, hv⟩
 ·intro aa ww vals hJ hR
  refine mem_step' rfl fun hvl => ?_
  have hl : vals.length = 1 := hvl
  obtain ⟨b33, hvals, hv⟩ := hJ.at0 hl
  refine stepMem_calls s5callable57 (wn rfl) rfl (args := #[.slice (some ⟨b, 0, none⟩) m c, .int .i64 (j : Int), .slice (some ⟨b33, 0, none⟩) 1 1]) (by simp only [yA, yB, yC]; rw [show aa.eval (.tmp 52) = .slice (some ⟨b, 0, none⟩) m c from hR.v 6 52 rfl rfl rfl rfl, show aa.eval (.tmp 53) = .int .i64 (j : Int) from hR.v 7 53 rfl rfl rfl rfl, show aa.eval (.tmp 55) = .slice (some ⟨b33, 0, none⟩) 1 1 from (hR.val 9 55 rfl rfl rfl).trans (by rw [hvals] <;> rfl)] <;> rfl) ((insEnt B _ _ b c m j k b33 p d [.string ⟨key.toArray⟩, cv] (by omega) (by omega) hm hp hd rfl h1p h1d (one_cons rfl (one_cons hc1.2 one_nil)) (hv.front 2 rfl)).mono ?_)
  rintro e w35 ⟨b3, c3, rfl, hv⟩
  refine ⟨_, rfl, JS.next hl ⟨b33, b3, c3, by rw [hvals]; rfl, hv⟩⟩
 ·intro aa ww vals hJ hR
  refine mem_step' rfl fun hvl => ?_
  have hl : vals.length = 2 := hvl
  obtain ⟨b33, b3, c3, hvals, hv⟩ := hJ.at0 hl
  refine Ex.mem (ex_assign rfl (show aa.eval (.tmp 56) = _ from (hR.val 10 56 rfl rfl rfl).trans (by rw [hvals] <;> rfl))) (wn rfl) ?_
  exact JS.next hl ⟨b33, b3, c3, by rw [hvals]; rfl, hv⟩
 rintro w36 vals ⟨b33, b3, c3, rfl, hv⟩
 rw [show mixV [9, 10, 11] [.slice (some ⟨b33, 0, none⟩) 1 1, .slice (some ⟨b3, 0, none⟩) (m + 1 : Nat) c3, .slice (some ⟨b3, 0, none⟩) (m + 1 : Nat) c3] 0 [.pointer (some ⟨p0, 0, none⟩), .pointer (some ⟨p0, 0, none⟩), .pointer (some ⟨p0, 0, none⟩), .slice (some ⟨a, 0, none⟩) N ca, .int .i64 (i : Int), .pointer (some ⟨a, 0 + i, none⟩), .slice (some ⟨b, 0, none⟩) m c, .int .i64 (j : Int), .agg #[.string ⟨key.toArray⟩, cv], undef, undef, undef] = [.pointer (some ⟨p0, 0, none⟩), .pointer (some ⟨p0, 0, none⟩), .pointer (some ⟨p0, 0, none⟩), .slice (some ⟨a, 0, none⟩) N ca, .int .i64 (i : Int), .pointer (some ⟨a, 0 + i, none⟩), .slice (some ⟨b, 0, none⟩) m c, .int .i64 (j : Int), .agg #[.string ⟨key.toArray⟩, cv], .slice (some ⟨b33, 0, none⟩) 1 1, .slice (some ⟨b3, 0, none⟩) (m + 1 : Nat) c3, .slice (some ⟨b3, 0, none⟩) (m + 1 : Nat) c3] from rfl]
 simp only [putAll, zP, zI, zS, zO]
 refine tN (hK32 _ _ ?_)
 clear hK32 K32
 refine sK fun K37 hK37 => ?_
 refine sK fun K38 hK38 => rL ?_
 refine xM (.slice (some ⟨b3, 0, none⟩) (m + 1 : Nat) c3) rfl rfl rfl ?_
 refine xG (.int .i64 ((m + 1 : Nat) : Int)) rfl rfl (ex_len0 Try.underlying93 rfl rfl) ?_
 by_cases hb39 : ((m + 1 : Nat) : Int) > 128
 ·refine xG (.bool true) rfl rfl (ex_gtr (k := .i64) (m := ((m + 1 : Nat) : Int)) (n := 128) rfl rfl rfl (decide_eq_true hb39)) ?_
  refine wL ?_
  simp only [zP, zI, zS, zO]
  refine tN (hK38 _ _ ?_)
  clear hK38 K38
  refine wpIn_cond_true rfl ?_
  refine sK fun K40 hK40 => ?_
  obtain ⟨hf, hhf⟩ : ∃ hf : Nat, hf = (m + 1) / 2 := ⟨_, rfl⟩
  refine rL ?_
  refine xM (.slice (some ⟨b3, 0, none⟩) (m + 1 : Nat) c3) rfl rfl rfl ?_
  refine xG (.int .i64 ((m + 1 : Nat) : Int)) rfl rfl (ex_len0 Try.underlying93 rfl rfl) ?_
  refine xG (.int .i64 (hf : Int)) rfl rfl (ex_quo (m := ((m + 1 : Nat) : Int)) (n := 2) rfl rfl rfl (by decide) (quo2 (m + 1) hf hhf (by omega))) ?_
  simp only [zP, zI, zS, zO]
  refine xA (.int .i64 (hf : Int)) rfl rfl rfl ?_
  refine wL ?_
  simp only [zP, zI, zS, zO]
  refine tN (hK40 _ _ ?_)
  clear hK40 K40
  refine sK fun K41 hK41 => ?_
  have hc3 := (hv.rowOk).1
  have hc3l := hc3.le
  have hc3m := hc3.max
  have hesl : (p ++ [.string ⟨key.toArray⟩, cv] ++ d).length = (m + 1) * 2 := by simp only [List.length_append, hp, hd, List.length_cons, List.length_nil]; omega
  have hes1 : ∀ u ∈ (p ++ [.string ⟨key.toArray⟩, cv] ++ d), u.oneCell' = true := fun u hu => by
   rcases List.mem_append.1 hu with hu | hu
   ·rcases List.mem_append.1 hu with hu | hu
    ·exact h1p u hu
    exact one_cons rfl (one_cons hc1.2 one_nil) u hu
   exact h1d u hu
  rw [← List.take_append_drop (i + 1) bvs] at hv
  refine region_st mixed [.pointer (some ⟨p0, 0, none⟩), .pointer (some ⟨p0, 0, none⟩), .pointer (some ⟨p0, 0, none⟩), .pointer (some ⟨p0, 0, none⟩), .slice (some ⟨a, 0, none⟩) N ca, .int .i64 (i : Int), .int .i64 ((i + 1 : Nat) : Int), .slice (some ⟨b3, 0, none⟩) (m + 1 : Nat) c3, .int .i64 (hf : Int), .slice (some ⟨b3, 0 + hf * 2, none⟩) ((m + 1 : Nat) - hf) (c3 - hf), undef, undef, undef, .pointer (some ⟨p0, 0, none⟩), .pointer (some ⟨p0, 0, none⟩), undef] [10, 11, 12, 15] [⟨fun vals w => vals = [] ∧ Inv B (Res.row 92 2 (.slice (some ⟨b3, 0, none⟩) (m + 1) c3) (m + 1) (p ++ [.string ⟨key.toArray⟩, cv] ++ d) :: Res.cell b2 [.string ⟨key.toArray⟩, cv] 92 :: Res.cell p0 [.slice (some ⟨a, 0, none⟩) N ca, .int .i64 (n + 1)] 81 :: Res.row 93 1 (.slice (some ⟨a, 0, none⟩) N ca) N (List.take (i + 1) bvs ++ List.drop (i + 1) bvs) :: H) w, fun _ _ _ ⟨h, hi⟩ he => ⟨h, hi.ext he⟩⟩, ⟨fun vals w => ∃ b4 c4, vals = [.slice (some ⟨b4, 0, none⟩) (m + 1 - hf) c4] ∧ Inv B (Res.row 92 2 (.slice (some ⟨b4, 0, none⟩) (m + 1 - hf) c4) (m + 1 - hf) ((p ++ [.string ⟨key.toArray⟩, cv] ++ d).drop (hf * 2)) :: Res.row 92 2 (.slice (some ⟨b3, 0, none⟩) (m + 1) c3) (m + 1) (p ++ [.string ⟨key.toArray⟩, cv] ++ d) :: Res.cell b2 [.string ⟨key.toArray⟩, cv] 92 :: Res.cell p0 [.slice (some ⟨a, 0, none⟩) N ca, .int .i64 (n + 1)] 81 :: Res.row 93 1 (.slice (some ⟨a, 0, none⟩) N ca) N (List.take (i + 1) bvs ++ List.drop (i + 1) bvs) :: H) w, fun _ _ _ ⟨b4, c4, h, hi⟩ he => ⟨b4, c4, h, hi.ext he⟩⟩, ⟨fun vals w => ∃ b4 c4 b43, vals = [.slice (some ⟨b4, 0, none⟩) (m + 1 - hf) c4, .slice (some ⟨b43, 0, none⟩) 1 1] ∧ Inv B (Res.cell b43 [.slice (some ⟨b4, 0, none⟩) (m + 1 - hf) c4] 93 :: Res.row 92 2 (.slice (some ⟨b4, 0, none⟩) (m + 1 - hf) c4) (m + 1 - hf) ((p ++ [.string ⟨key.toArray⟩, cv] ++ d).drop (hf * 2)) :: Res.row 92 2 (.slice (some ⟨b3, 0, none⟩) (m + 1) c3) (m + 1) (p ++ [.string ⟨key.toArray⟩, cv] ++ d) :: Res.cell b2 [.string ⟨key.toArray⟩, cv] 92 :: Res.cell p0 [.slice (some ⟨a, 0, none⟩) N ca, .int .i64 (n + 1)] 81 :: Res.row 93 1 (.slice (some ⟨a, 0, none⟩) N ca) N (List.take (i + 1) bvs ++ List.drop (i + 1) bvs) :: H) w, fun _ _ _ ⟨b4, c4, b43, h, hi⟩ he => ⟨b4, c4, b43, h, hi.ext he⟩⟩, ⟨fun vals w => ∃ b4 c4 b43 a5 ca5, vals = [.slice (some ⟨b4, 0, none⟩) (m + 1 - hf) c4, .slice (some ⟨b43, 0, none⟩) 1 1, .slice (some ⟨a5, 0, none⟩) (N + 1) ca5] ∧ Inv B (Res.row 93 1 (.slice (some ⟨a5, 0, none⟩) (N + 1) ca5) (N + 1) (List.take (i + 1) bvs ++ [Value.slice (some ⟨b4, 0, none⟩) (m + 1 - hf) c4] ++ List.drop (i + 1) bvs) :: Res.row 92 2 (.slice (some ⟨b4, 0, none⟩) (m + 1 - hf) c4) (m + 1 - hf) ((p ++ [.string ⟨key.toArray⟩, cv] ++ d).drop (hf * 2)) :: Res.row 92 2 (.slice (some ⟨b3, 0, none⟩) (m + 1) c3) (m + 1) (p ++ [.string ⟨key.toArray⟩, cv] ++ d) :: Res.cell b2 [.string ⟨key.toArray⟩, cv] 92 :: Res.cell p0 [.slice (some ⟨a, 0, none⟩) N ca, .int .i64 (n + 1)] 81 :: H) w, fun _ _ _ ⟨b4, c4, b43, a5, ca5, h, hi⟩ he => ⟨b4, c4, b43, a5, ca5, h, hi.ext he⟩⟩, ⟨fun vals w => ∃ b4 c4 b43 a5 ca5, vals = [.slice (some ⟨b4, 0, none⟩) (m + 1 - hf) c4, .slice (some ⟨b43, 0, none⟩) 1 1, .slice (some ⟨a5, 0, none⟩) (N + 1) ca5, undef] ∧ Inv B (Res.row 93 1 (.slice (some ⟨a5, 0, none⟩) (N + 1) ca5) (N + 1) (List.take (i + 1) bvs ++ [Value.slice (some ⟨b4, 0, none⟩) (m + 1 - hf) c4] ++ List.drop (i + 1) bvs) :: Res.row 92 2 (.slice (some ⟨b4, 0, none⟩) (m + 1 - hf) c4) (m + 1 - hf) ((p ++ [.string ⟨key.toArray⟩, cv] ++ d).drop (hf * 2)) :: Res.row 92 2 (.slice (some ⟨b3, 0, none⟩) (m + 1) c3) (m + 1) (p ++ [.string ⟨key.toArray⟩, cv] ++ d) :: Res.cell b2 [.string ⟨key.toArray⟩, cv] 92 :: Res.cell p0 [.slice (some ⟨a5, 0, none⟩) (N + 1) ca5, .int .i64 (n + 1)] 81 :: H) w, fun _ _ _ ⟨b4, c4, b43, a5, ca5, h, hi⟩ he => ⟨b4, c4, b43, a5, ca5, h, hi.ext he⟩⟩] 91 rfl (by kernel_rfl) ⟨rfl, hv⟩ ⟨?_, ?_, ?_, ?_, ?_, ?_, ?_, ?_, ?_, ?_, ?_, ?_, ?_, ?_, ?_, ?_, trivial⟩ ?_
  ·intro aa ww vals hJ hR
   exact xD rfl (ex_move rfl (show aa.eval (.tmp 0) = _ from hR.keep 0 rfl)) rfl rfl
  ·intro aa ww vals hJ hR
   exact xD rfl (ex_move rfl (show aa.eval (.tmp 0) = _ from hR.keep 0 rfl)) rfl rfl
  ·intro aa ww vals hJ hR
   exact xD rfl (ex_nil rfl (hR.w 1 64 rfl rfl rfl rfl)) rfl rfl
  ·intro aa ww vals hJ hR
   exact xD rfl (ex_field rfl (hR.w 2 65 rfl rfl rfl rfl) (s3fa81_0 _ _ _)) rfl rfl
  ·intro aa ww vals hJ hR
   have h2 : vals.length ≤ 2 := hR.hi 12 (by simp) rfl
   rcases (show vals.length = 0 ∨ vals.length = 1 ∨ vals.length = 2 by omega) with hl | hl | hl
   ·obtain ⟨hvals, hv⟩ := hJ.at0 hl
    exact xD rfl (ex_load rfl (hR.w 3 66 rfl rfl rfl rfl) (run_load1 s3na79 (hv.load 2 0 rfl rfl))) rfl rfl
   ·obtain ⟨b4, c4, hvals, hv⟩ := hJ.at0 hl
    exact xD rfl (ex_load rfl (hR.w 3 66 rfl rfl rfl rfl) (run_load1 s3na79 (hv.load 3 0 rfl rfl))) rfl rfl
   obtain ⟨b4, c4, b43, hvals, hv⟩ := hJ.at0 hl
   exact xD rfl (ex_load rfl (hR.w 3 66 rfl rfl rfl rfl) (run_load1 s3na79 (hv.load 4 0 rfl rfl))) rfl rfl
  ·intro aa ww vals hJ hR
   exact xD rfl (ex_move rfl (show aa.eval (.tmp 1) = _ from hR.keep 1 rfl)) rfl rfl
  ·intro aa ww vals hJ hR
   exact xD rfl (ex_add (m := (i : Int)) (n := 1) rfl (hR.w 5 68 rfl rfl rfl rfl) rfl (by rw [i64_in (by omega)]; omega)) rfl rfl
  ·intro aa ww vals hJ hR
   exact xD rfl (ex_move rfl (show aa.eval (.tmp 8) = _ from hR.keep 8 rfl)) rfl rfl
  ·intro aa ww vals hJ hR
   exact xD rfl (ex_move rfl (show aa.eval (.tmp 9) = _ from hR.keep 9 rfl)) rfl rfl
  ·intro aa ww vals hJ hR
   exact xD rfl (ex_slice (lo' := some (.int .i64 (hf : Int))) rfl (hR.w 7 70 rfl rfl rfl rfl) (congrArg some (hR.w 8 71 rfl rfl rfl rfl)) rfl rfl (run_from (size := 2) Try.underlying93 s3es93 (by omega) (by omega))) rfl rfl
  ·intro aa ww vals hJ hR
   refine mem_step' rfl fun hvl => ?_
   have hl : vals.length = 0 := hvl
   obtain ⟨hvals, hv⟩ := hJ.at0 hl
   refine stepMem_calls s5callable59 (wn rfl) rfl (args := #[.slice (some ⟨b3, 0 + hf * 2, none⟩) ((m + 1 : Nat) - hf) (c3 - hf)]) (by simp only [yA, yB, yC]; rw [show aa.eval (.tmp 72) = .slice (some ⟨b3, 0 + hf * 2, none⟩) ((m + 1 : Nat) - hf) (c3 - hf) from hR.v 9 72 rfl rfl rfl rfl] <;> rfl) ((cloneEnt B _ _ _ (m + 1 - hf) (c3 - hf) ((p ++ [.string ⟨key.toArray⟩, cv] ++ d).drop (hf * 2)) [_] (fun r hr => by rw [List.mem_singleton.1 hr]; exact List.mem_of_getElem? (i := 0) rfl) ⟨by omega, by unfold maxLen at hc3m ⊢; omega, fun h => by cases h⟩ (by rw [List.length_drop, hesl]; omega) (fun u hu => hes1 u (List.mem_of_mem_drop hu)) (by omega) (by omega) (rdW_row.drop (hf * 2)) hv).mono ?_)
   rintro e w42 ⟨b4, c4, rfl, hv⟩
   refine ⟨_, rfl, JS.next hl ⟨b4, c4, by rw [hvals]; rfl, hv⟩⟩
  ·intro aa ww vals hJ hR
   refine mem_step' rfl fun hvl => ?_
   have hl : vals.length = 1 := hvl
   obtain ⟨b4, c4, hvals, hv⟩ := hJ.at0 hl
   refine mem_row1 (v := .slice (some ⟨b4, 0, none⟩) (m + 1 - hf) c4) (wn rfl) rfl (show aa.eval (.tmp 73) = _ from (hR.val 10 73 rfl rfl rfl).trans (by rw [hvals] <;> rfl)) hv s5el79 rfl (fun b43 w44 hv => ?_)
   exact JS.next hl ⟨b4, c4, b43, by rw [hvals]; rfl, hv⟩
  ·intro aa ww vals hJ hR
   refine mem_step' rfl fun hvl => ?_
   have hl : vals.length = 2 := hvl
   obtain ⟨b4, c4, b43, hvals, hv⟩ := hJ.at0 hl
   refine stepMem_calls s5callable58 (wn rfl) rfl (args := #[.slice (some ⟨a, 0, none⟩) N ca, .int .i64 ((i + 1 : Nat) : Int), .slice (some ⟨b43, 0, none⟩) 1 1]) (by simp only [yA, yB, yC]; rw [show aa.eval (.tmp 67) = .slice (some ⟨a, 0, none⟩) N ca from hR.v 4 67 rfl rfl rfl rfl, show aa.eval (.tmp 69) = .int .i64 ((i + 1 : Nat) : Int) from hR.v 6 69 rfl rfl rfl rfl, show aa.eval (.tmp 74) = .slice (some ⟨b43, 0, none⟩) 1 1 from (hR.val 11 74 rfl rfl rfl).trans (by rw [hvals] <;> rfl)] <;> rfl) ((insBlk B _ _ a ca N (i + 1) (N - (i + 1)) b43 _ _ [Value.slice (some ⟨b4, 0, none⟩) (m + 1 - hf) c4] (by omega) (by omega) hN (by rw [List.length_take, hbl]; omega) (by rw [List.length_drop, hbl]; omega) rfl (fun u hu => h1b u (List.mem_of_mem_take hu)) (fun u hu => h1b u (List.mem_of_mem_drop hu)) (one_cons rfl one_nil) (hv.front 5 rfl)).mono ?_)
   rintro e w45 ⟨a5, ca5, rfl, hv⟩
   refine ⟨_, rfl, JS.next hl ⟨b4, c4, b43, a5, ca5, by rw [hvals]; rfl, hv⟩⟩
  ·intro aa ww vals hJ hR
   exact xD rfl (ex_nil rfl (hR.w 0 63 rfl rfl rfl rfl)) rfl rfl
  ·intro aa ww vals hJ hR
   exact xD rfl (ex_field rfl (hR.w 13 76 rfl rfl rfl rfl) (s3fa81_0 _ _ _)) rfl rfl
  ·intro aa ww vals hJ hR
   refine mem_step' rfl fun hvl => ?_
   have hl : vals.length = 3 := hvl
   obtain ⟨b4, c4, b43, a5, ca5, hvals, hv⟩ := hJ.at0 hl
   refine mem_storeAt 4 (v := .slice (some ⟨a5, 0, none⟩) (N + 1) ca5) (L' := [.slice (some ⟨a5, 0, none⟩) (N + 1) ca5, .int .i64 (n + 1)]) (wn rfl) rfl (hR.w 14 77 rfl rfl rfl rfl) (show aa.eval (.tmp 75) = _ from (hR.val 12 75 rfl rfl rfl).trans (by rw [hvals] <;> rfl)) hv rfl s5sz79 (by simp) rfl rfl rfl (fun w46 hv => ?_)
   exact JS.next hl ⟨b4, c4, b43, a5, ca5, by rw [hvals]; rfl, hv⟩
  rintro w47 vals ⟨b4, c4, b43, a5, ca5, rfl, hv⟩
  rw [show mixV [10, 11, 12, 15] [.slice (some ⟨b4, 0, none⟩) (m + 1 - hf) c4, .slice (some ⟨b43, 0, none⟩) 1 1, .slice (some ⟨a5, 0, none⟩) (N + 1) ca5, undef] 0 [.pointer (some ⟨p0, 0, none⟩), .pointer (some ⟨p0, 0, none⟩), .pointer (some ⟨p0, 0, none⟩), .pointer (some ⟨p0, 0, none⟩), .slice (some ⟨a, 0, none⟩) N ca, .int .i64 (i : Int), .int .i64 ((i + 1 : Nat) : Int), .slice (some ⟨b3, 0, none⟩) (m + 1 : Nat) c3, .int .i64 (hf : Int), .slice (some ⟨b3, 0 + hf * 2, none⟩) ((m + 1 : Nat) - hf) (c3 - hf), undef, undef, undef, .pointer (some ⟨p0, 0, none⟩), .pointer (some ⟨p0, 0, none⟩), undef] = [.pointer (some ⟨p0, 0, none⟩), .pointer (some ⟨p0, 0, none⟩), .pointer (some ⟨p0, 0, none⟩), .pointer (some ⟨p0, 0, none⟩), .slice (some ⟨a, 0, none⟩) N ca, .int .i64 (i : Int), .int .i64 ((i + 1 : Nat) : Int), .slice (some ⟨b3, 0, none⟩) (m + 1 : Nat) c3, .int .i64 (hf : Int), .slice (some ⟨b3, 0 + hf * 2, none⟩) ((m + 1 : Nat) - hf) (c3 - hf), .slice (some ⟨b4, 0, none⟩) (m + 1 - hf) c4, .slice (some ⟨b43, 0, none⟩) 1 1, .slice (some ⟨a5, 0, none⟩) (N + 1) ca5, .pointer (some ⟨p0, 0, none⟩), .pointer (some ⟨p0, 0, none⟩), undef] from rfl]
  simp only [putAll, zP, zN, zI, zS, zO]
  refine tN (hK41 _ _ ?_)
  clear hK41 K41
  refine sK fun K48 hK48 => ?_
  replace hv := hv.front 2 rfl
  simp only [List.eraseIdx_cons_succ, List.eraseIdx_cons_zero] at hv
  obtain ⟨L, hL1, hL2, hL3, hL4, hv⟩ := hv.rowCell
  obtain ⟨tl, hLe⟩ : ∃ tl, L = (p ++ [.string ⟨key.toArray⟩, cv] ++ d).take (hf * 2) ++ (p ++ [.string ⟨key.toArray⟩, cv] ++ d).drop (hf * 2) ++ tl := ⟨L.drop ((m + 1) * 2), by rw [List.take_append_drop, ← hL2, List.take_append_drop]⟩
  subst hLe
  refine rL ?_
  refine xM (.slice (some ⟨b3, 0, none⟩) (m + 1 : Nat) c3) rfl rfl rfl ?_
  refine xM (.int .i64 (hf : Int)) rfl rfl rfl ?_
  refine xG (.slice (some ⟨b3, 0 + hf * 2, none⟩) ((m + 1 : Nat) - hf) (c3 - hf)) rfl rfl (ex_slice (lo' := some (.int .i64 (hf : Int))) rfl rfl (congrArg some rfl) rfl rfl (run_from (size := 2) Try.underlying93 s3es93 (by omega) (by omega))) ?_
  simp only [zP, zI, zS, zO]
  refine sl_clearAt 0 (pre := (p ++ [.string ⟨key.toArray⟩, cv] ++ d).take (hf * 2)) (mid := (p ++ [.string ⟨key.toArray⟩, cv] ++ d).drop (hf * 2)) (post := tl) (m := m + 1 - hf) tV (wn rfl) rfl rfl s5el93 (one_cons rfl (one_cons rfl one_nil)) hv rfl rfl (by rw [List.length_take, hesl]; omega) (by rw [List.length_drop, hesl]; omega) (fun zs w49 hzs hv => ?_)
  simp only [List.set_cons_zero] at hv
  refine wL ?_
  simp only [zN]
  refine tN (hK48 _ _ ?_)
  clear hK48 K48
  refine rL ?_
  refine xM (.slice (some ⟨b3, 0, none⟩) (m + 1 : Nat) c3) rfl rfl rfl ?_
  refine xM (.int .i64 (hf : Int)) rfl rfl rfl ?_
  refine xG (.slice (some ⟨b3, 0, none⟩) hf c3) rfl rfl (ex_slice (hi' := some (.int .i64 (hf : Int))) rfl rfl rfl (congrArg some rfl) rfl (run_hi Try.underlying93 s3es93 (by omega))) ?_
  simp only [zP, zI, zS, zO]
  refine xA (.slice (some ⟨b3, 0, none⟩) hf c3) rfl rfl rfl ?_
  refine wL ?_
  simp only [zP, zI, zS, zO]
  refine tN (hK37 _ _ ?_)
  clear hK37 K37
  have h9 := hv.cellRow (n := hf) (c := c3) (size := 2) (by simp only [List.length_append, hzs] at hL1 ⊢; exact hL1) (by omega) hL4
  rw [List.append_assoc, List.take_left' (by rw [List.length_take, hesl]; omega)] at h9
  replace hv := h9
  clear h9
  refine rL ?_
  refine xM (.pointer (some ⟨p0, 0, none⟩)) rfl rfl rfl ?_
  refine xG (.pointer (some ⟨p0, 0, none⟩)) rfl rfl (ex_nil rfl rfl) ?_
  refine xF (.pointer (some ⟨p0, 0, none⟩)) rfl rfl rfl (s3fa81_0 _ _ _) ?_
  simp only [zP, zI, zS, zO]
  refine xL (.slice (some ⟨a5, 0, none⟩) (N + 1) ca5) rfl rfl rfl (run_load1 s3na79 (hv.load 4 0 rfl rfl)) ?_
  refine xM (.int .i64 (i : Int)) rfl rfl rfl ?_
  refine xM (.slice (some ⟨b3, 0, none⟩) hf c3) rfl rfl rfl ?_
  simp only [zP, zI, zS, zO]
  refine xG (.pointer (some ⟨a5, 0 + i, none⟩)) rfl rfl (ex_index rfl rfl rfl (run_idx1 (k := i) Try.underlying79 s3es79 (by omega))) ?_
  replace hv := hv.front 1 rfl
  simp only [List.eraseIdx_cons_succ, List.eraseIdx_cons_zero] at hv
  refine sl_storeRow (v := .slice (some ⟨b3, 0, none⟩) hf c3) tV (wn rfl) rfl rfl rfl hv s3sz93 (by first | (rw [hbl]; omega) | (simp only [List.length_append, List.length_take, List.length_drop, List.length_cons, List.length_nil, hbl]; omega)) rfl rfl (fun w50 hv => ?_)
  rw [Nat.zero_add] at hv
  refine wL ?_
  simp only [zP, zN, zI, zS, zO]
  go_end0
  subst hhf
  exact ⟨rfl, .inr ⟨by omega, b3, c3, b4, c4, a5, ca5, ((((hv.front 4 rfl).front 3 rfl).front 3 rfl).sub (List.Sublist.cons_cons _ (List.Sublist.cons_cons _ (List.Sublist.cons_cons _ (List.Sublist.cons_cons _ (List.Sublist.cons _ (List.Sublist.refl _)))))))⟩⟩
 refine xG (.bool false) rfl rfl (ex_gtr (k := .i64) (m := ((m + 1 : Nat) : Int)) (n := 128) rfl rfl rfl (decide_eq_false hb39)) ?_
 refine wL ?_
 simp only [zP, zI, zS, zO]
 refine tN (hK38 _ _ ?_)
 clear hK38 K38
 refine wpIn_cond_false rfl ?_
 refine wpIn_skip ?_
 refine tN (hK37 _ _ ?_)
 clear hK37 K37
 refine rL ?_
 refine xM (.pointer (some ⟨p0, 0, none⟩)) rfl rfl rfl ?_
 refine xG (.pointer (some ⟨p0, 0, none⟩)) rfl rfl (ex_nil rfl rfl) ?_
 refine xF (.pointer (some ⟨p0, 0, none⟩)) rfl rfl rfl (s3fa81_0 _ _ _) ?_
 simp only [zP, zI, zS, zO]
 refine xL (.slice (some ⟨a, 0, none⟩) N ca) rfl rfl rfl (run_load1 s3na79 (hv.load 2 0 rfl rfl)) ?_
 refine xM (.int .i64 (i : Int)) rfl rfl rfl ?_
 refine xM (.slice (some ⟨b3, 0, none⟩) (m + 1 : Nat) c3) rfl rfl rfl ?_
 simp only [zP, zI, zS, zO]
 refine xG (.pointer (some ⟨a, 0 + i, none⟩)) rfl rfl (ex_index rfl rfl rfl (run_idx1 (k := i) Try.underlying79 s3es79 (by omega))) ?_
 replace hv := hv.front 3 rfl
 simp only [List.eraseIdx_cons_succ, List.eraseIdx_cons_zero] at hv
 refine sl_storeRow (v := .slice (some ⟨b3, 0, none⟩) (m + 1 : Nat) c3) tV (wn rfl) rfl rfl rfl hv s3sz93 (by first | (rw [hbl]; omega) | (simp only [List.length_append, List.length_take, List.length_drop, List.length_cons, List.length_nil, hbl]; omega)) rfl rfl (fun w51 hv => ?_)
 rw [Nat.zero_add] at hv
 refine wL ?_
 simp only [zP, zN, zI, zS, zO]
 go_end0
 exact ⟨rfl, .inl ⟨by omega, b3, c3, (((hv.front 3 rfl).front 2 rfl).sub (List.Sublist.cons_cons _ (List.Sublist.cons_cons _ (List.Sublist.cons_cons _ (List.Sublist.cons _ (List.Sublist.refl _))))))⟩⟩
end Go.Proofs.Ytffmbdagjpdieaa
/- The index as a resource: its own block, the row of its blocks, and the blocks. -/
namespace Go.Pm
open Go.RowKit
def Res.star (K : List Res) : Res where
 fp := K.flatMap Res.fp
 holds w := (∀ r ∈ K, r.holds w) ∧ (K.flatMap Res.fp).Nodup
 stab w w' h hw := ⟨fun r hr => r.stab w w' (fun b hb => h b (List.mem_flatMap.2 ⟨r, hr, hb⟩)) (hw.1 r hr), hw.2⟩
theorem Inv.star {B : Base} {K H : List Res} {w : World} (hv : Inv B (K ++ H) w) : Inv B (Res.star K :: H) w := by
 have hd := hv.dis
 rw [List.flatMap_append, List.nodup_append] at hd
 refine ⟨hv.base, fun r hr => ?_, fun r hr b hb => ?_, ?_, fun r hr b hb => ?_⟩
 ·rcases List.mem_cons.1 hr with rfl | hr
  ·exact ⟨fun r hr => hv.own r (List.mem_append_left _ hr), hd.1⟩
  exact hv.own r (List.mem_append_right _ hr)
 ·rcases List.mem_cons.1 hr with rfl | hr
  ·obtain ⟨q, h1, h2⟩ := List.mem_flatMap.1 hb
   exact hv.lt q (List.mem_append_left _ h1) b h2
  exact hv.lt r (List.mem_append_right _ hr) b hb
 ·rw [List.flatMap_cons]
  exact List.nodup_append.2 hd
 rcases List.mem_cons.1 hr with rfl | hr
 ·obtain ⟨q, h1, h2⟩ := List.mem_flatMap.1 hb
  exact hv.out q (List.mem_append_left _ h1) b h2
 exact hv.out r (List.mem_append_right _ hr) b hb
theorem Inv.unstar {B : Base} {K H : List Res} {w : World} (hv : Inv B (Res.star K :: H) w) : Inv B (K ++ H) w := by
 have hd := hv.dis
 rw [List.flatMap_cons] at hd
 have hh := hv.head
 refine ⟨hv.base, fun r hr => ?_, fun r hr b hb => ?_, ?_, fun r hr b hb => ?_⟩
 ·rcases List.mem_append.1 hr with hr | hr
  ·exact hh.1 r hr
  exact hv.own r (List.mem_cons_of_mem _ hr)
 ·rcases List.mem_append.1 hr with hr | hr
  ·exact hv.lt _ List.mem_cons_self b (List.mem_flatMap.2 ⟨r, hr, hb⟩)
  exact hv.lt r (List.mem_cons_of_mem _ hr) b hb
 ·rw [List.flatMap_append]
  exact hd
 rcases List.mem_append.1 hr with hr | hr
 ·exact hv.out _ List.mem_cons_self b (List.mem_flatMap.2 ⟨r, hr, hb⟩)
 exact hv.out r (List.mem_cons_of_mem _ hr) b hb
def blkRes (te : TypeId) : List Value → List (List Ent) → List Res
 | v :: bvs, es :: X => Res.row te 2 v es.length (entCells es) :: blkRes te bvs X
 | _, _ => []
theorem blkRes_append (te : TypeId) : ∀ (b1 : List Value) (X1 : List (List Ent)) (b2 : List Value) (X2 : List (List Ent)), b1.length = X1.length → blkRes te (b1 ++ b2) (X1 ++ X2) = blkRes te b1 X1 ++ blkRes te b2 X2
 | [], [], _, _, _ => rfl
 | v :: b1, es :: X1, b2, X2, h => by
  show _ :: blkRes te (b1 ++ b2) (X1 ++ X2) = _ :: (blkRes te b1 X1 ++ blkRes te b2 X2)
  rw [blkRes_append te b1 X1 b2 X2 (by simpa using h)]
 | [], _ :: _, _, _, h => by cases h
 | _ :: _, [], _, _, h => by cases h
theorem split_at {α : Type} {l : List α} {i : Nat} {x : α} (h : l[i]? = some x) : l = l.take i ++ x :: l.drop (i + 1) := by
 obtain ⟨hi, rfl⟩ := List.getElem?_eq_some_iff.1 h
 have := (List.take_append_drop i l).symm
 rw [List.drop_eq_getElem_cons hi] at this
 exact this
theorem blkRes_split (te : TypeId) {bvs : List Value} {X : List (List Ent)} {i : Nat} {bv : Value} {es : List Ent} (hl : bvs.length = X.length) (hb : bvs[i]? = some bv) (hx : X[i]? = some es) :
  blkRes te bvs X = blkRes te (bvs.take i) (X.take i) ++ Res.row te 2 bv es.length (entCells es) :: blkRes te (bvs.drop (i + 1)) (X.drop (i + 1)) := by
 have h1 := split_at hb
 have h2 := split_at hx
 have h3 : (bvs.take i).length = (X.take i).length := by rw [List.length_take, List.length_take, hl]
 have h4 := blkRes_append te (bvs.take i) (X.take i) (bv :: bvs.drop (i + 1)) (es :: X.drop (i + 1)) h3
 rw [← h1, ← h2] at h4
 exact h4
def ixS (ti tb te : TypeId) (p : Nat) (v : Value) (n : Int) (X : List (List Ent)) (bvs : List Value) : Res := Res.star (Res.cell p [v, .int .i64 n] ti :: Res.row tb 1 v X.length bvs :: blkRes te bvs X)
section
variable {ti tb te : TypeId} {p : Nat} {v : Value} {n : Int} {X : List (List Ent)} {bvs : List Value} {B : Base} {H : List Res} {w : World}
theorem ixS_cell (h : (ixS ti tb te p v n X bvs).holds w) : Blk w p [v, .int .i64 n] ti := h.1 (Res.cell p [v, .int .i64 n] ti) List.mem_cons_self
theorem ixS_row (h : (ixS ti tb te p v n X bvs).holds w) : w.ownsRow 0 tb 1 v X.length bvs := h.1 (Res.row tb 1 v X.length bvs) (List.mem_cons_of_mem _ List.mem_cons_self)
theorem ixS_len (h : (ixS ti tb te p v n X bvs).holds w) : bvs.length = X.length := by have := (ixS_row h).1; omega
theorem ixS_blk (h : (ixS ti tb te p v n X bvs).holds w) {i : Nat} {es : List Ent} {bv : Value} (hx : X[i]? = some es) (hb : bvs[i]? = some bv) : w.ownsRow 0 te 2 bv es.length (entCells es) := by
 refine h.1 (Res.row te 2 bv es.length (entCells es)) (List.mem_cons_of_mem _ (List.mem_cons_of_mem _ ?_))
 rw [blkRes_split te (ixS_len h) hb hx]
 simp
theorem owns_ok {w : World} {e : TypeId} {size n c : Nat} {ad : Option Addr} {xs : List Value} (h : w.ownsRow 0 e size (.slice ad n c) n xs) : SliceOk ad n c := by
 rcases h.2 with ⟨h1, h2⟩ | ⟨g, cap, cur, h1, -, hg, h3, h4, -, -⟩
 ·simp only [Value.slice.injEq] at h1
  obtain ⟨rfl, -, rfl⟩ := h1
  exact ⟨by omega, by simp, fun _ => rfl⟩
 simp only [Value.slice.injEq] at h1
 obtain ⟨rfl, -, rfl⟩ := h1
 exact ⟨h3, h4, fun h => by cases h⟩
theorem ixS_facts (hv : Inv B H w) (hm : ixS ti tb te p v n X bvs ∈ H) : ∃ ad c, v = .slice ad X.length c ∧ SliceOk ad X.length c ∧ Reads B [ixS ti tb te p v n X bvs] p 0 [v, .int .i64 n] ∧ RdW B [ixS ti tb te p v n X bvs] ad bvs ∧ BlksAt B [ixS ti tb te p v n X bvs] X bvs := by
 have hh := hv.own _ hm
 have hlen := ixS_len hh
 have hone : ∀ {K : List Res}, (∀ r ∈ [ixS ti tb te p v n X bvs], r ∈ K) → ixS ti tb te p v n X bvs ∈ K := fun h => h _ (List.mem_singleton.2 rfl)
 obtain ⟨ad, c, rfl⟩ := row_slice (ixS_row hh)
 refine ⟨ad, c, rfl, owns_ok (ixS_row hh), fun C K w' _ hR hv' j x hj => ?_, fun i hi => ?_, hlen, fun i es hes => ?_⟩
 ·rw [Blk.cell (ixS_cell (hv'.own _ (hone hR))), Nat.zero_add]; exact hj
 ·obtain ⟨b, rfl⟩ := row_some (ixS_row hh) (by omega)
  exact ⟨b, 0, rfl, fun C K w' _ hR hv' => row_load (ixS_row (hv'.own _ (hone hR))) (List.getElem?_eq_getElem hi)⟩
 have hi := (List.getElem?_eq_some_iff.1 hes).1
 obtain ⟨bv, hbv⟩ : ∃ bv, bvs[i]? = some bv := ⟨_, List.getElem?_eq_getElem (by omega)⟩
 obtain ⟨ad', c', rfl⟩ := row_slice (ixS_blk hh hes hbv)
 refine ⟨ad', c', hbv, owns_ok (ixS_blk hh hes hbv), fun k hk => ?_⟩
 have hk2 := hk
 rw [entCells_len] at hk2
 obtain ⟨b, rfl⟩ := row_some (ixS_blk hh hes hbv) (by omega)
 exact ⟨b, 0, rfl, fun C K w' _ hR hv' => row_load (ixS_blk (hv'.own _ (hone hR)) hes hbv) (List.getElem?_eq_getElem hk)⟩
theorem Inv.ixOpen (hv : Inv B (ixS ti tb te p v n X bvs :: H) w) {i : Nat} {es : List Ent} (hes : X[i]? = some es) (hne : es ≠ []) : ∃ a ca b c, v = .slice (some ⟨a, 0, none⟩) X.length ca ∧ bvs.length = X.length ∧ bvs[i]? = some (.slice (some ⟨b, 0, none⟩) es.length c) ∧
  Inv B (Res.row te 2 (.slice (some ⟨b, 0, none⟩) es.length c) es.length (entCells es) :: Res.cell p [v, .int .i64 n] ti :: Res.row tb 1 v X.length bvs :: (blkRes te (bvs.take i) (X.take i) ++ (blkRes te (bvs.drop (i + 1)) (X.drop (i + 1)) ++ H))) w := by
 have hh := hv.head
 have hlen := ixS_len hh
 have hi := (List.getElem?_eq_some_iff.1 hes).1
 obtain ⟨ad, ca, rfl⟩ := row_slice (ixS_row hh)
 obtain ⟨a, rfl⟩ := row_some (ixS_row hh) (by omega)
 obtain ⟨bv, hbv⟩ : ∃ bv, bvs[i]? = some bv := ⟨_, List.getElem?_eq_getElem (by omega)⟩
 obtain ⟨ad', c, rfl⟩ := row_slice (ixS_blk hh hes hbv)
 obtain ⟨b, rfl⟩ := row_some (ixS_blk hh hes hbv) (List.length_pos_iff.2 hne)
 refine ⟨a, ca, b, c, rfl, hlen, hbv, ?_⟩
 have h1 := hv.unstar
 rw [blkRes_split te hlen hbv hes] at h1
 refine h1.perm ?_
 have := (List.perm_append_comm (l₁ := [Res.row te 2 (.slice (some ⟨b, 0, none⟩) es.length c) es.length (entCells es)]) (l₂ := Res.cell p [.slice (some ⟨a, 0, none⟩) X.length ca, .int .i64 n] ti :: Res.row tb 1 (.slice (some ⟨a, 0, none⟩) X.length ca) X.length bvs :: blkRes te (bvs.take i) (X.take i))).append_right (blkRes te (bvs.drop (i + 1)) (X.drop (i + 1)) ++ H)
 simpa only [List.append_assoc, List.cons_append, List.nil_append] using this.symm
theorem Inv.ixClose1 {i : Nat} {es' : List Ent} {bv' v' : Value} {n' : Int} (hlen : bvs.length = X.length) (hi : i < X.length)
  (hv : Inv B (Res.row te 2 bv' es'.length (entCells es') :: Res.cell p [v', .int .i64 n'] ti :: Res.row tb 1 v' X.length (bvs.set i bv') :: (blkRes te (bvs.take i) (X.take i) ++ (blkRes te (bvs.drop (i + 1)) (X.drop (i + 1)) ++ H))) w) : Inv B (ixS ti tb te p v' n' (X.set i es') (bvs.set i bv') :: H) w := by
 refine Inv.star (hv.perm ?_)
 have := (List.perm_append_comm (l₁ := [Res.row te 2 bv' es'.length (entCells es')]) (l₂ := Res.cell p [v', .int .i64 n'] ti :: Res.row tb 1 v' X.length (bvs.set i bv') :: blkRes te (bvs.take i) (X.take i))).append_right (blkRes te (bvs.drop (i + 1)) (X.drop (i + 1)) ++ H)
 have hsp := blkRes_split te (bvs := bvs.set i bv') (X := X.set i es') (i := i) (bv := bv') (es := es') (by rw [List.length_set, List.length_set, hlen]) (by rw [List.getElem?_set_self (by omega)]) (by rw [List.getElem?_set_self hi])
 rw [List.take_set_of_le (Nat.le_refl _), List.take_set_of_le (Nat.le_refl _), List.drop_set_of_lt (by omega), List.drop_set_of_lt (by omega)] at hsp
 rw [hsp, List.length_set]
 simpa only [List.append_assoc, List.cons_append, List.nil_append] using this
theorem set_mid {α : Type} {l : List α} {i : Nat} (hi : i < l.length) (x y : α) : (l.take (i + 1) ++ [x] ++ l.drop (i + 1)).set i y = l.take i ++ y :: x :: l.drop (i + 1) := by
 have h1 : l.take (i + 1) = l.take i ++ [l[i]] := take_next (List.getElem?_eq_getElem hi)
 have h2 : (l.take i).length = i := by rw [List.length_take]; omega
 rw [h1, List.append_assoc, List.append_assoc, List.set_append_right _ _ (by omega), h2, Nat.sub_self]
 rfl
theorem Inv.ixClose2 {i : Nat} {e1 e2 : List Ent} {b1 b2 v' : Value} {n' : Int} (hlen : bvs.length = X.length) (hi : i < X.length)
  (hv : Inv B (Res.row te 2 b1 e1.length (entCells e1) :: Res.row te 2 b2 e2.length (entCells e2) :: Res.cell p [v', .int .i64 n'] ti :: Res.row tb 1 v' (X.length + 1) ((bvs.take (i + 1) ++ [b2] ++ bvs.drop (i + 1)).set i b1) :: (blkRes te (bvs.take i) (X.take i) ++ (blkRes te (bvs.drop (i + 1)) (X.drop (i + 1)) ++ H))) w) : Inv B (ixS ti tb te p v' n' (X.take i ++ e1 :: e2 :: X.drop (i + 1)) (bvs.take i ++ b1 :: b2 :: bvs.drop (i + 1)) :: H) w := by
 rw [set_mid (by omega)] at hv
 refine Inv.star (hv.perm ?_)
 have := (List.perm_append_comm (l₁ := [Res.row te 2 b1 e1.length (entCells e1), Res.row te 2 b2 e2.length (entCells e2)]) (l₂ := Res.cell p [v', .int .i64 n'] ti :: Res.row tb 1 v' (X.length + 1) (bvs.take i ++ b1 :: b2 :: bvs.drop (i + 1)) :: blkRes te (bvs.take i) (X.take i))).append_right (blkRes te (bvs.drop (i + 1)) (X.drop (i + 1)) ++ H)
 rw [blkRes_append te (bvs.take i) (X.take i) _ _ (by rw [List.length_take, List.length_take, hlen])]
 have hl : (X.take i ++ e1 :: e2 :: X.drop (i + 1)).length = X.length + 1 := by simp only [List.length_append, List.length_take, List.length_cons, List.length_drop]; omega
 rw [hl]
 simpa only [List.append_assoc, List.cons_append, List.nil_append, blkRes] using this
end
end Go.Pm
/- index.insert on the whole index; index.Set. -/
namespace Go.Proofs.Ytffmbdagjpdieaa
open Go.RowKit Go.Pm
theorem s6mk92 : (Try.prog.info? 92).map (fun i => (i.zero, i.size, i.bytes)) = some (some (.agg #[.string ⟨([] : List UInt8).toArray⟩, .slice none 0 0]), 2, 40) := by kernel_rfl
theorem s6el93 : Elem Try.prog 93 92 (.agg #[.string ⟨([] : List UInt8).toArray⟩, .slice none 0 0]) 2 40 := elem_of Try.underlying93 s6mk92 (by rfl) (by decide)
theorem s6mk93 : (Try.prog.info? 93).map (fun i => (i.zero, i.size, i.bytes)) = some (some (.slice none 0 0), 1, 24) := by kernel_rfl
theorem s6el79 : Elem Try.prog 79 93 (.slice none 0 0) 1 24 := elem_of Try.underlying79 s6mk93 (by rfl) (by decide)
set_option maxHeartbeats 2000000 in
theorem ixInsert0 (B : Base) (H : List Res) (w : World) (p0 c i0 j0 : Nat) (n : Int) (ad : Option Addr) (key : List UInt8) (cv : Value) (hn : 0 ≤ n ∧ n ≤ 1000000) (hv : Inv B (Res.cell p0 [.slice ad 0 c, .int .i64 n] 81 :: H) w) :
  Calls Try.prog 44 #[.pointer (some ⟨p0, 0, none⟩), .int .i64 (i0 : Int), .int .i64 (j0 : Int), .agg #[.string ⟨key.toArray⟩, cv]] w fun e w' => e = .returned (.tuple #[]) ∧ ∃ b1 b2, Inv B (Res.cell p0 [.slice (some ⟨b2, 0, none⟩) 1 1, .int .i64 (n + 1)] 81 :: Res.row 92 2 (.slice (some ⟨b1, 0, none⟩) 1 1) 1 [.string ⟨key.toArray⟩, cv] :: Res.row 93 1 (.slice (some ⟨b2, 0, none⟩) 1 1) 1 [.slice (some ⟨b1, 0, none⟩) 1 1] :: H) w' := by
 refine (callsIn_wide (n := 5)).1 ?_
 refine callsIn_of_wp Try.func44 rfl trivial ?_
 simp only [Try.ntmps44, List.size_toArray, List.length_cons, List.length_nil, Nat.reduceAdd, Nat.reduceSub, Array.replicate_succ, Array.replicate_zero, List.push_toArray, List.append_toArray, List.nil_append, List.cons_append]
 refine sK fun K1 hK1 => rL ?_
 refine sl_box (L := [.string ⟨key.toArray⟩, cv]) tV (wn rfl) rfl (p := .agg #[.string ⟨key.toArray⟩, cv]) rfl hv (fun w => by kernel_rfl) (fun b2 w3 hv => ?_)
 refine wL ?_
 simp only [zP, zI, zS, zO]
 refine tN (hK1 _ _ ?_)
 clear hK1 K1
 refine sK fun K4 hK4 => rL ?_
 refine xM (.pointer (some ⟨p0, 0, none⟩)) rfl rfl rfl ?_
 refine xG (.pointer (some ⟨p0, 0, none⟩)) rfl rfl (ex_nil rfl rfl) ?_
 refine xF (.pointer (some ⟨p0, 1, none⟩)) rfl rfl rfl (s3fa81_1 _ _ _) ?_
 simp only [zP, zI, zS, zO]
 refine xL (.int .i64 n) rfl rfl rfl (run_load1 s2na3 (hv.load 1 1 rfl rfl)) ?_
 refine xG (.int .i64 (n + 1)) rfl rfl (ex_add (m := n) (n := 1) rfl rfl rfl (i64_in (by omega))) ?_
 refine xG (.pointer (some ⟨p0, 0, none⟩)) rfl rfl (ex_nil rfl rfl) ?_
 simp only [zP, zI, zS, zO]
 refine xF (.pointer (some ⟨p0, 1, none⟩)) rfl rfl rfl (s3fa81_1 _ _ _) ?_
 refine sl_storeAt 1 (v := .int .i64 (n + 1)) (L' := [.slice ad 0 c, .int .i64 (n + 1)]) tV (wn rfl) rfl rfl rfl hv rfl s5sz3 (by simp) rfl rfl rfl (fun w5 hv => ?_)
 simp only [List.set_cons_succ, List.set_cons_zero] at hv
 refine wL ?_
 simp only [zP, zN, zI, zS, zO]
 refine tN (hK4 _ _ ?_)
 clear hK4 K4
 refine sK fun K6 hK6 => ?_
 refine sK fun K7 hK7 => rL ?_
 refine xM (.pointer (some ⟨p0, 0, none⟩)) rfl rfl rfl ?_
 refine xG (.pointer (some ⟨p0, 0, none⟩)) rfl rfl (ex_nil rfl rfl) ?_
 refine xF (.pointer (some ⟨p0, 0, none⟩)) rfl rfl rfl (s3fa81_0 _ _ _) ?_
 simp only [zP, zI, zS, zO]
 refine xL (.slice ad 0 c) rfl rfl rfl (run_load1 s3na79 (hv.load 1 0 rfl rfl)) ?_
 refine xG (.int .i64 0) rfl rfl (ex_len0 Try.underlying79 rfl rfl) ?_
 refine xG (.bool true) rfl rfl (ex_eql (k := .i64) (m := 0) (n := 0) rfl rfl rfl (by decide)) ?_
 refine wL ?_
 simp only [zP, zI, zS, zO]
 refine tN (hK7 _ _ ?_)
 clear hK7 K7
 refine wpIn_cond_true rfl ?_
 refine sK fun K8 hK8 => rL ?_
 refine xM (.pointer (some ⟨p0, 0, none⟩)) rfl rfl rfl ?_
 refine xL (.agg #[.string ⟨key.toArray⟩, cv]) rfl rfl rfl (run_load_mid (pre := []) (mid := [.string ⟨key.toArray⟩, cv]) (post := []) s5wd92 (show Blk _ b2 ([] ++ [.string ⟨key.toArray⟩, cv] ++ []) _ from hv.get 0 rfl) rfl) ?_
 refine sl_rowAgg (L := [.string ⟨key.toArray⟩, cv]) tV (wn rfl) rfl rfl hv s6el93 rfl (by decide) (fun b9 w10 hv => ?_)
 simp only [zP, zI, zS, zO]
 refine sl_rowOne (v := .slice (some ⟨b9, 0, none⟩) 1 1) tV (wn rfl) rfl rfl hv s6el79 rfl (fun b11 w12 hv => ?_)
 refine xG (.pointer (some ⟨p0, 0, none⟩)) rfl rfl (ex_nil rfl rfl) ?_
 refine xF (.pointer (some ⟨p0, 0, none⟩)) rfl rfl rfl (s3fa81_0 _ _ _) ?_
 simp only [zP, zI, zS, zO]
 refine sl_storeAt 3 (v := .slice (some ⟨b11, 0, none⟩) 1 1) (L' := [.slice (some ⟨b11, 0, none⟩) 1 1, .int .i64 (n + 1)]) tV (wn rfl) rfl rfl rfl hv rfl s5sz79 (by simp) rfl rfl rfl (fun w13 hv => ?_)
 simp only [List.set_cons_succ, List.set_cons_zero] at hv
 refine wL ?_
 simp only [zN]
 refine tN (hK8 _ _ ?_)
 clear hK8 K8
 refine wpIn_ret ?_
 refine then_ret ?_
 clear hK6 K6
 refine bodyPost_ret (results_none rfl _ _ _) rfl ?_
 have h9 := ((((hv.front 3 rfl).front 1 rfl).front 2 rfl).sub (List.Sublist.cons_cons _ (List.Sublist.cons_cons _ (List.Sublist.cons_cons _ (List.Sublist.cons _ (List.Sublist.refl _))))))
 have h8 := h9.cellRow (n := 1) (c := 1) (size := 2) rfl (by decide) (by decide)
 have h7 := (h8.front 1 rfl).cellRow (n := 1) (c := 1) (size := 1) rfl (by decide) (by decide)
 exact ⟨rfl, b9, b11, (h7.front 1 rfl).front 2 rfl⟩
theorem ixInsert (B : Base) (H : List Res) (w : World) (p : Nat) (v : Value) (n : Int) (X : List (List Ent)) (bvs : List Value) (key : List UInt8) (cv : Value) (i j : Nat) (hfi : FindI X key i j false) (hne : ∀ es ∈ X, es ≠ []) (hX : X.length ≤ 1000000) (hE : ∀ es ∈ X, es.length ≤ 1000000) (h1 : ∀ es ∈ X, ∀ e ∈ es, e.2.oneCell' = true) (hn : 0 ≤ n ∧ n ≤ 1000000) (hc1 : cv.cells = #[cv] ∧ cv.oneCell' = true) (hv : Inv B (ixS 81 93 92 p v n X bvs :: H) w) :
  Calls Try.prog 44 #[.pointer (some ⟨p, 0, none⟩), .int .i64 (i : Int), .int .i64 (j : Int), .agg #[.string ⟨key.toArray⟩, cv]] w fun e w' => e = .returned (.tuple #[]) ∧ ∃ v' X' bvs', Inv B (ixS 81 93 92 p v' (n + 1) X' bvs' :: H) w' ∧ X'.flatten = X.flatten.take (posOf X i j) ++ (key, cv) :: X.flatten.drop (posOf X i j) ∧ ∀ es ∈ X', es ≠ [] := by
 have one_ent : ∀ l : List Ent, (∀ e ∈ l, e.2.oneCell' = true) → ∀ u ∈ entCells l, u.oneCell' = true := by
  intro l hl u hu
  obtain ⟨e, he, h⟩ := List.mem_flatMap.1 hu
  simp only [List.mem_cons, List.not_mem_nil, or_false] at h
  rcases h with h | h
  ·rw [h]; rfl
  rw [h]; exact hl e he
 by_cases hX0 : X = []
 ·subst hX0
  have hh := hv.head
  obtain ⟨ad, c, rfl⟩ := row_slice (ixS_row hh)
  have hb0 : bvs = [] := List.eq_nil_of_length_eq_zero (ixS_len hh)
  subst hb0
  have h2 : Inv B (Res.cell p [.slice ad 0 c, .int .i64 n] 81 :: H) w := hv.unstar.sub (List.Sublist.cons_cons _ (List.Sublist.cons _ (List.Sublist.refl _)))
  refine (ixInsert0 B H w p c i j n ad key cv hn h2).mono ?_
  rintro e w' ⟨he, b1, b2, h3⟩
  refine ⟨he, .slice (some ⟨b2, 0, none⟩) 1 1, [[(key, cv)]], [.slice (some ⟨b1, 0, none⟩) 1 1], Inv.star ?_, ?_, ?_⟩
  ·exact (h3.front 2 rfl).front 1 rfl
  ·simp [posOf]
  intro es hes; simp at hes; subst hes; simp
 have hXl : 0 < X.length := List.length_pos_iff.2 hX0
 -- the block, and the place in it
 obtain ⟨i', j', es, hes, hj', hcase, hpos⟩ : ∃ i' j' es, X[i']? = some es ∧ j' ≤ es.length ∧ ((i = i' ∧ j = j') ∨ (i = X.length ∧ i' + 1 = X.length ∧ es.length - j' = 0)) ∧ posOf X i j = (X.take i').flatten.length + j' := by
  rcases Nat.lt_or_ge i X.length with hi | hi
  ·obtain ⟨es, hes⟩ : ∃ es, X[i]? = some es := ⟨_, List.getElem?_eq_getElem hi⟩
   obtain ⟨e, he, -⟩ := hfi.at_ es hes
   exact ⟨i, j, es, hes, Nat.le_of_lt (List.getElem?_eq_some_iff.1 he).1, .inl ⟨rfl, rfl⟩, rfl⟩
  have hiX : i = X.length := by have := hfi.le; omega
  obtain ⟨es, hes⟩ : ∃ es, X[X.length - 1]? = some es := ⟨_, List.getElem?_eq_getElem (by omega)⟩
  refine ⟨X.length - 1, es.length, es, hes, Nat.le_refl _, .inr ⟨hiX, by omega, by omega⟩, ?_⟩
  rw [posOf, (hfi.out hiX).1, hiX, List.take_length, Nat.add_zero, flatten_at hes, List.length_append, List.length_append, show X.length - 1 + 1 = X.length by omega, List.drop_length]
  simp
 have hi' := (List.getElem?_eq_some_iff.1 hes).1
 have hesm := List.mem_of_getElem? hes
 have hel : 0 < es.length := List.length_pos_iff.2 (hne es hesm)
 obtain ⟨a, ca, b, c, rfl, hlen, hbi, hv1⟩ := hv.ixOpen hes (hne es hesm)
 have hsplit : entCells es = entCells (es.take j') ++ entCells (es.drop j') := by rw [← entCells_append, List.take_append_drop]
 rw [hsplit] at hv1
 have h1b : ∀ u ∈ bvs, u.oneCell' = true := by
  intro u hu
  obtain ⟨k, hk⟩ := List.mem_iff_getElem?.1 hu
  obtain ⟨es2, hes2⟩ : ∃ es2, X[k]? = some es2 := ⟨_, List.getElem?_eq_getElem (by have := (List.getElem?_eq_some_iff.1 hk).1; omega)⟩
  obtain ⟨ad2, c2, rfl⟩ := row_slice (ixS_blk hv.head hes2 hk)
  rfl
 have hcell : ∀ k : Nat, entCells ((es.take j' ++ [(key, cv)] ++ es.drop j').take k) = ((entCells (es.take j') ++ [.string ⟨key.toArray⟩, cv] ++ entCells (es.drop j')).take (k * 2)) := fun k => by
  rw [← entCells_take, entCells_append, entCells_append]; rfl
 have hcelld : ∀ k : Nat, entCells ((es.take j' ++ [(key, cv)] ++ es.drop j').drop k) = ((entCells (es.take j') ++ [.string ⟨key.toArray⟩, cv] ++ entCells (es.drop j')).drop (k * 2)) := fun k => by
  rw [← entCells_drop, entCells_append, entCells_append]; rfl
 have hcell0 : entCells (es.take j' ++ [(key, cv)] ++ es.drop j') = entCells (es.take j') ++ [.string ⟨key.toArray⟩, cv] ++ entCells (es.drop j') := by
  rw [entCells_append, entCells_append]; rfl
 have hl' : (es.take j' ++ [(key, cv)] ++ es.drop j').length = es.length + 1 := by
  simp only [List.length_append, List.length_take, List.length_drop, List.length_cons, List.length_nil]; omega
 have hflat : ∀ Y : List Ent, Y = es.take j' ++ [(key, cv)] ++ es.drop j' → (X.take i').flatten ++ (Y ++ (X.drop (i' + 1)).flatten) = X.flatten.take (posOf X i j) ++ (key, cv) :: X.flatten.drop (posOf X i j) := fun Y hY => by
  have ht : X.flatten.take (posOf X i j) = (X.take i').flatten ++ es.take j' := by
   rw [hpos, flatten_at hes, List.take_append, List.take_of_length_le (by omega), Nat.add_sub_cancel_left, List.take_append_of_le_length hj']
  have hd : X.flatten.drop (posOf X i j) = es.drop j' ++ (X.drop (i' + 1)).flatten := by
   rw [hpos, flatten_at hes, List.drop_append, List.drop_of_length_le (by omega), Nat.add_sub_cancel_left, List.nil_append, List.drop_append_of_le_length hj']
  rw [ht, hd, hY]
  simp only [List.append_assoc, List.cons_append, List.nil_append]
 refine (ixInsert1 B _ w p a X.length ca b es.length c i' j' (es.length - j') i j n bvs (entCells (es.take j')) (entCells (es.drop j')) key cv hX hi' hel (by omega) (hE es hesm) hn hcase (by rw [entCells_len, List.length_take]; omega) (by rw [entCells_len, List.length_drop]) (one_ent _ (fun e he => h1 es hesm e (List.mem_of_mem_take he))) (one_ent _ (fun e he => h1 es hesm e (List.mem_of_mem_drop he))) h1b hlen hbi hc1 hv1).mono ?_
 rintro e w' ⟨he, ⟨-, b', c', h3⟩ | ⟨hbig, b1, c1, b2, c2, a', ca', h3⟩⟩
 ·refine ⟨he, _, X.set i' (es.take j' ++ [(key, cv)] ++ es.drop j'), _, Inv.ixClose1 (es' := es.take j' ++ [(key, cv)] ++ es.drop j') hlen hi' (by rw [hl', hcell0]; exact h3), ?_, ?_⟩
  ·rw [flatten_set hes]; exact hflat _ rfl
  intro es2 h2
  rcases List.mem_or_eq_of_mem_set h2 with h2 | h2
  ·exact hne es2 h2
  rw [h2]; simp
 have e1l : ((es.take j' ++ [(key, cv)] ++ es.drop j').take ((es.length + 1) / 2)).length = (es.length + 1) / 2 := by rw [List.length_take, hl']; omega
 have e2l : ((es.take j' ++ [(key, cv)] ++ es.drop j').drop ((es.length + 1) / 2)).length = es.length + 1 - (es.length + 1) / 2 := by rw [List.length_drop, hl']
 refine ⟨he, _, _, _, Inv.ixClose2 (e1 := (es.take j' ++ [(key, cv)] ++ es.drop j').take ((es.length + 1) / 2)) (e2 := (es.take j' ++ [(key, cv)] ++ es.drop j').drop ((es.length + 1) / 2)) hlen hi' (by rw [e1l, e2l, hcell, hcelld]; exact h3), ?_, ?_⟩
 ·rw [List.flatten_append, List.flatten_cons, List.flatten_cons, ← List.append_assoc (List.take _ (es.take j' ++ [(key, cv)] ++ es.drop j')), List.take_append_drop]
  exact hflat _ rfl
 intro es2 h2
 rcases List.mem_append.1 h2 with h2 | h2
 ·exact hne es2 (List.mem_of_mem_take h2)
 rcases List.mem_cons.1 h2 with h2 | h2
 ·intro h0; rw [h2] at h0; rw [h0] at e1l; simp at e1l; omega
 rcases List.mem_cons.1 h2 with h2 | h2
 ·intro h0; rw [h2] at h0; rw [h0] at e2l; simp at e2l; omega
 exact hne es2 (List.mem_of_mem_drop h2)
end Go.Proofs.Ytffmbdagjpdieaa
/- The index's model, a key's chain set. -/
namespace Go.Pm
open Go.RowKit
theorem entCells_set {l : List Ent} {j : Nat} {f : Ent} (h : l[j]? = some f) (q : Value) : entCells (l.set j (f.1, q)) = (entCells l).set (j * 2 + 1) q := by
 induction l generalizing j with
 | nil => simp at h
 | cons a l ih =>
  cases j with
  | zero =>
   simp only [List.getElem?_cons_zero, Option.some.injEq] at h
   subst h
   rfl
  | succ j =>
   show strV a.1 :: a.2 :: entCells (l.set j (f.1, q)) = (strV a.1 :: a.2 :: entCells l).set ((j + 1) * 2 + 1) q
   rw [ih (by simpa using h), show (j + 1) * 2 + 1 = (j * 2 + 1) + 1 + 1 by omega]
   rfl
theorem set_same {α : Type} {l : List α} {i : Nat} {x : α} (h : l[i]? = some x) : l.set i x = l := by
 obtain ⟨hi, rfl⟩ := List.getElem?_eq_some_iff.1 h
 exact List.set_getElem_self hi
section
variable {B : Base} {X X' : List (List Ent)} {M : Model} {key : List UInt8} {i j : Nat} {l : List Ver} {q : Value}
theorem setM_len_false {k : Nat} (h : k ≤ M.length) : (setM M key l k false).length = M.length + 1 := by
 unfold setM
 simp only [List.length_append, List.length_take, List.length_cons, Bool.false_eq_true, if_false, List.length_drop]
 omega
theorem setM_len_true {k : Nat} (h : k < M.length) : (setM M key l k true).length = M.length := by
 unfold setM
 simp only [List.length_append, List.length_take, List.length_cons, if_true, List.length_drop]
 omega
theorem setM_ch {k : Nat} {ok : Bool} (h : ∀ m ∈ M, m.2 ≠ [] ∧ m.2.length ≤ 1000) (hl : l ≠ [] ∧ l.length ≤ 1000) : ∀ m ∈ setM M key l k ok, m.2 ≠ [] ∧ m.2.length ≤ 1000 := by
 intro m hm
 unfold setM at hm
 rcases List.mem_append.1 hm with h1 | h1
 ·exact h m (List.mem_of_mem_take h1)
 rcases List.mem_cons.1 h1 with h1 | h1
 ·rw [h1]; exact hl
 exact h m (List.mem_of_mem_drop h1)
theorem ixm_insert (h : IxM B X M) (hfi : FindI X key i j false) (hfl : X'.flatten = X.flatten.take (posOf X i j) ++ (key, q) :: X.flatten.drop (posOf X i j)) (hne : ∀ es ∈ X', es ≠ []) (hq : ChainB B q l) (hl : l ≠ [] ∧ l.length ≤ 1000) (hM : M.length < 100000) :
  IxM B X' (setM M key l (posOf X i j) false) ∧ (∀ k, getM (setM M key l (posOf X i j) false) k = if k = key then l else getM M k) ∧ (setM M key l (posOf X i j) false).length = M.length + 1 := by
 have hp := hfi.pos h.so
 have hk : posOf X i j ≤ M.length := by rw [← h.mo.len]; exact hp.le
 have hlen := setM_len_false (key := key) (l := l) hk
 refine ⟨⟨hne, ?_, ?_, setM_ch h.ch hl, by omega⟩, getM_setM hp h.mo l, hlen⟩
 ·unfold IxSorted
  have hs := h.so
  unfold IxSorted at hs
  have hg := pw_of hs hp
  rw [hfl, List.pairwise_append]
  rw [← List.take_append_drop (posOf X i j) X.flatten, List.pairwise_append] at hs
  refine ⟨hs.1, List.pairwise_cons.2 ⟨fun e he => (hg e he).2, hs.2.1⟩, fun a ha b hb => ?_⟩
  rcases List.mem_cons.1 hb with hb | hb
  ·rw [hb]; exact hp.lo a ha
  exact hs.2.2 a ha b hb
 rw [hfl]
 unfold setM
 have hm : Mods B ((key, q) :: X.flatten.drop (posOf X i j)) ((key, l) :: M.drop (if false = true then posOf X i j + 1 else posOf X i j)) := ⟨⟨rfl, hq⟩, by simpa using h.mo.drop (posOf X i j)⟩
 exact Mods.append hm (h.mo.take (posOf X i j))
theorem flat_set {es : List Ent} {f : Ent} (hes : X[i]? = some es) (hf : es[j]? = some f) (x : Ent) : (X.set i (es.set j x)).flatten = X.flatten.take (posOf X i j) ++ x :: X.flatten.drop (posOf X i j + 1) := by
 have hj := (List.getElem?_eq_some_iff.1 hf).1
 rw [flatten_set hes, List.set_eq_take_append_cons_drop, if_pos hj]
 have ht : X.flatten.take (posOf X i j) = (X.take i).flatten ++ es.take j := by
  rw [posOf, flatten_at hes, List.take_append, List.take_of_length_le (by omega), Nat.add_sub_cancel_left, List.take_append_of_le_length (by omega)]
 have hd : X.flatten.drop (posOf X i j + 1) = es.drop (j + 1) ++ (X.drop (i + 1)).flatten := by
  rw [posOf, flatten_at hes, Nat.add_assoc, List.drop_append, List.drop_of_length_le (by omega), Nat.add_sub_cancel_left, List.nil_append, List.drop_append_of_le_length (by omega)]
 rw [ht, hd]
 simp only [List.append_assoc, List.cons_append]
theorem ixm_update (h : IxM B X M) (hfi : FindI X key i j true) {es : List Ent} {f : Ent} (hes : X[i]? = some es) (hf : es[j]? = some f) (hq : ChainB B q l) (hl : l ≠ [] ∧ l.length ≤ 1000) :
  f.1 = key ∧ IxM B (X.set i (es.set j (f.1, q))) (setM M key l (posOf X i j) true) ∧ (∀ k, getM (setM M key l (posOf X i j) true) k = if k = key then l else getM M k) ∧ (setM M key l (posOf X i j) true).length = M.length := by
 have hp := hfi.pos h.so
 obtain ⟨e, m, h1, h2, h3, h4, h5, h6⟩ := hp.some h.mo
 rw [flat_get hes hf] at h1
 cases h1
 have hk : posOf X i j < M.length := (List.getElem?_eq_some_iff.1 h2).1
 have hlen := setM_len_true (key := key) (l := l) hk
 have hfl := flat_set hes hf (f.1, q)
 have hs := h.so
 unfold IxSorted at hs
 have hX := flat_get hes hf
 have hlt := pw_take_lt hs hX
 refine ⟨h3, ⟨?_, ?_, ?_, setM_ch h.ch hl, by rw [hlen]; exact h.sm⟩, getM_setM hp h.mo l, hlen⟩
 ·intro es2 h7
  rcases List.mem_or_eq_of_mem_set h7 with h7 | h7
  ·exact h.ne es2 h7
  intro h0
  rw [h7] at h0
  have := congrArg List.length h0
  rw [List.length_set] at this
  exact h.ne es (List.mem_of_getElem? hes) (List.eq_nil_of_length_eq_zero this)
 ·unfold IxSorted
  rw [hfl, List.pairwise_append]
  have hs2 := hs
  rw [split_at hX, List.pairwise_append] at hs2
  refine ⟨hs2.1, List.pairwise_cons.2 ⟨fun e he => hlt.2 e he, (List.pairwise_cons.1 hs2.2.1).2⟩, fun a ha b hb => ?_⟩
  rcases List.mem_cons.1 hb with hb | hb
  ·rw [hb]; exact hlt.1 a ha
  exact hs2.2.2 a ha b (List.mem_cons_of_mem _ hb)
 rw [hfl]
 unfold setM
 have hm : Mods B ((f.1, q) :: X.flatten.drop (posOf X i j + 1)) ((key, l) :: M.drop (if true = true then posOf X i j + 1 else posOf X i j)) := ⟨⟨h3, hq⟩, by simpa using h.mo.drop (posOf X i j + 1)⟩
 exact Mods.append hm (h.mo.take (posOf X i j))
end
end Go.Pm
/- index.Set, and Get, of an index of one's own. -/
namespace Go.Proofs.Ytffmbdagjpdieaa
open Go.RowKit Go.Pm
theorem mods_mem {B : Base} {l : List Ent} {M : Model} (h : Mods B l M) {e : Ent} (he : e ∈ l) : ∃ m, m ∈ M ∧ e.1 = m.1 ∧ ChainB B e.2 m.2 := by
 obtain ⟨k, hk⟩ := List.mem_iff_getElem?.1 he
 obtain ⟨m, h1, h2, h3⟩ := h.get hk
 exact ⟨m, List.mem_of_getElem? h1, h2, h3⟩
theorem s7sz66 : (Try.prog.info? 66).map (·.size) = some 1 := by kernel_rfl
theorem s7callable44 : Callable Try.prog 44 := ⟨_, Try.func44, by kernel_rfl, by kernel_rfl⟩
set_option maxHeartbeats 4000000 in
theorem ixSet0 (B : Base) (H : List Res) (w : World) (p : Nat) (v : Value) (X : List (List Ent)) (bvs : List Value) (M : Model) (key : List UInt8) (cad : Option Addr) (cc : Nat) (cxs : List Value) (l : List Ver) (hx : IxM B X M) (hM : M.length < 100000) (hcok : SliceOk cad l.length cc) (hcr : RdV B [] cad cxs) (hcx : VersAt B l cxs) (hl0 : l ≠ []) (hl : l.length ≤ 1000) (hv : Inv B (ixS 81 93 92 p v (M.length : Int) X bvs :: H) w) :
  Calls Try.prog 25 #[.pointer (some ⟨p, 0, none⟩), .string ⟨key.toArray⟩, .slice cad l.length cc] w fun e w' => e = .returned (.tuple #[]) ∧ ∃ C v' X' bvs' M', B.Le C ∧ IxM C X' M' ∧ (∀ k, getM M' k = if k = key then l else getM M k) ∧ (M.length ≤ M'.length ∧ M'.length ≤ M.length + 1) ∧ Inv C (ixS 81 93 92 p v' (M'.length : Int) X' bvs' :: H) w' := by
 obtain ⟨ad, c, hva0, hok0, hp, hr, hbv⟩ := ixS_facts hv List.mem_cons_self
 subst hva0
 have hl1 : 0 < l.length := List.length_pos_iff.2 hl0
 refine (callsIn_wide (n := 5)).1 ?_
 refine callsIn_of_wp Try.func25 rfl trivial ?_
 simp only [Try.ntmps25, List.size_toArray, List.length_cons, List.length_nil, Nat.reduceAdd, Nat.reduceSub, Array.replicate_succ, Array.replicate_zero, List.push_toArray, List.append_toArray, List.nil_append, List.cons_append]
 refine sK fun K1 hK1 => rL ?_
 refine xM (.pointer (some ⟨p, 0, none⟩)) rfl rfl rfl ?_
 refine xM (.string ⟨key.toArray⟩) rfl rfl rfl ?_
 refine xC s3callable42 rfl rfl (l := [.pointer (some ⟨p, 0, none⟩), .string ⟨key.toArray⟩]) rfl ((ixFind B _ _ p _ X ad c bvs key _ (fun r hr => by rw [List.mem_singleton.1 hr]; exact List.mem_cons_self) hp hr hbv hx.ok hv).mono ?_)
 rintro e w2 ⟨i, j, ok, hfi, rfl, hv⟩
 refine ⟨_, rfl, ?_⟩
 simp only [zP, zI, zS, zO]
 refine xM (.tuple #[.int .i64 (i : Int), .int .i64 (j : Int), .bool ok]) rfl rfl rfl ?_
 refine xG (.int .i64 (i : Int)) rfl rfl (ex_extract rfl rfl rfl) ?_
 refine xG (.int .i64 (j : Int)) rfl rfl (ex_extract rfl rfl rfl) ?_
 simp only [zP, zI, zS, zO]
 refine xG (.bool ok) rfl rfl (ex_extract rfl rfl rfl) ?_
 refine xA (.int .i64 (i : Int)) rfl rfl rfl ?_
 refine xA (.int .i64 (j : Int)) rfl rfl rfl ?_
 simp only [zP, zI, zS, zO]
 refine xA (.bool ok) rfl rfl rfl ?_
 refine wL ?_
 simp only [zP, zI, zS, zO]
 refine tN (hK1 _ _ ?_)
 clear hK1 K1
 refine wpIn_block ?_
 refine sK fun K3 hK3 => rL ?_
 refine xM (.slice cad l.length cc) rfl rfl rfl ?_
 refine xG (.int .i64 (l.length : Int)) rfl rfl (ex_len0 Try.underlying66 rfl rfl) ?_
 refine xG (.bool true) rfl rfl (ex_gtr (k := .i64) (m := (l.length : Int)) (n := 0) rfl rfl rfl (decide_eq_true (by omega))) ?_
 simp only [zP, zI, zS, zO]
 refine xM (.bool true) rfl rfl rfl ?_
 refine xH 3 20 true (.bool ok) rfl rfl rfl rfl (ex_move rfl rfl) ?_
 refine xK true (.bool ok) rfl rfl rfl rfl ?_
 simp only [zP, zI, zS, zO]
 refine xA (.bool ok) rfl rfl rfl ?_
 refine wL ?_
 simp only [zP, zI, zS, zO]
 refine tN (hK3 _ _ ?_)
 clear hK3 K3
 refine wpIn_cond_split (t := ok) rfl (fun hc4 => ?_) (fun hc4 => ?_)
 ·subst hc4
  have hilt := hfi.lt
  obtain ⟨es, hes⟩ : ∃ es, X[i]? = some es := ⟨_, List.getElem?_eq_getElem hilt⟩
  obtain ⟨f, hf, -, -, -⟩ := hfi.at_ es hes
  have hjl : j < es.length := (List.getElem?_eq_some_iff.1 hf).1
  obtain ⟨a, ca, b, c2, hva, hlen, hbi, hv⟩ := hv.ixOpen hes (hx.ne es (List.mem_of_getElem? hes))
  simp only [Value.slice.injEq] at hva
  obtain ⟨hva, -, hvc⟩ := hva
  subst hva hvc
  obtain ⟨T, hT⟩ : ∃ T, T = blkRes 92 (bvs.take i) (X.take i) ++ (blkRes 92 (bvs.drop (i + 1)) (X.drop (i + 1)) ++ H) := ⟨_, rfl⟩
  rw [← hT] at hv
  refine region_st mixed [.pointer (some ⟨p, 0, none⟩), .pointer (some ⟨p, 0, none⟩), .pointer (some ⟨p, 0, none⟩), .slice (some ⟨a, 0, none⟩) X.length c, .int .i64 (i : Int), .pointer (some ⟨a, 0 + i, none⟩), .slice (some ⟨b, 0, none⟩) es.length c2, .int .i64 (j : Int), .slice cad l.length cc, undef, .pointer (some ⟨b, 0 + j * 2, none⟩), .pointer (some ⟨b, 0 + j * 2 + 1, none⟩), undef] [9, 12] [⟨fun vals w => vals = [] ∧ Inv B (Res.row 92 2 (.slice (some ⟨b, 0, none⟩) es.length c2) es.length (entCells es) :: Res.cell p [.slice (some ⟨a, 0, none⟩) X.length c, .int .i64 (M.length : Int)] 81 :: Res.row 93 1 (.slice (some ⟨a, 0, none⟩) X.length c) X.length bvs :: T) w, fun _ _ _ ⟨h, hi⟩ he => ⟨h, hi.ext he⟩⟩, ⟨fun vals w => ∃ C q, vals = [q] ∧ (B.Le C) ∧ (ChainB C q l) ∧ Inv C (Res.row 92 2 (.slice (some ⟨b, 0, none⟩) es.length c2) es.length (entCells es) :: Res.cell p [.slice (some ⟨a, 0, none⟩) X.length c, .int .i64 (M.length : Int)] 81 :: Res.row 93 1 (.slice (some ⟨a, 0, none⟩) X.length c) X.length bvs :: T) w, fun _ _ _ ⟨C, q, h, hBC, hQ, hi⟩ he => ⟨C, q, h, hBC, hQ, hi.ext he⟩⟩, ⟨fun vals w => ∃ C q, vals = [q, undef] ∧ (B.Le C) ∧ (ChainB C q l) ∧ Inv C (Res.row 92 2 (.slice (some ⟨b, 0, none⟩) es.length c2) es.length ((entCells es).set (0 + j * 2 + 1) q) :: Res.cell p [.slice (some ⟨a, 0, none⟩) X.length c, .int .i64 (M.length : Int)] 81 :: Res.row 93 1 (.slice (some ⟨a, 0, none⟩) X.length c) X.length bvs :: T) w, fun _ _ _ ⟨C, q, h, hBC, hQ, hi⟩ he => ⟨C, q, h, hBC, hQ, hi.ext he⟩⟩] 53 rfl (by kernel_rfl) ⟨rfl, hv⟩ ⟨?_, ?_, ?_, ?_, ?_, ?_, ?_, ?_, ?_, ?_, ?_, ?_, ?_, trivial⟩ ?_
  ·intro aa ww vals hJ hR
   exact xD rfl (ex_move rfl (show aa.eval (.tmp 0) = _ from hR.keep 0 rfl)) rfl rfl
  ·intro aa ww vals hJ hR
   exact xD rfl (ex_nil rfl (hR.w 0 23 rfl rfl rfl rfl)) rfl rfl
  ·intro aa ww vals hJ hR
   exact xD rfl (ex_field rfl (hR.w 1 24 rfl rfl rfl rfl) (s3fa81_0 _ _ _)) rfl rfl
  ·intro aa ww vals hJ hR
   have h2 : vals.length ≤ 1 := hR.hi 12 (by simp) rfl
   rcases (show vals.length = 0 ∨ vals.length = 1 by omega) with hl | hl
   ·obtain ⟨hvals, hv⟩ := hJ.at0 hl
    exact xD rfl (ex_load rfl (hR.w 2 25 rfl rfl rfl rfl) (run_load1 s3na79 (hv.load 1 0 rfl rfl))) rfl rfl
   obtain ⟨C, q, hvals, hBC, hQ, hv⟩ := hJ.at0 hl
   exact xD rfl (ex_load rfl (hR.w 2 25 rfl rfl rfl rfl) (run_load1 s3na79 (hv.load 1 0 rfl rfl))) rfl rfl
  ·intro aa ww vals hJ hR
   exact xD rfl (ex_move rfl (show aa.eval (.tmp 6) = _ from hR.keep 6 rfl)) rfl rfl
  ·intro aa ww vals hJ hR
   exact xD rfl (ex_index rfl (hR.w 3 26 rfl rfl rfl rfl) (hR.w 4 27 rfl rfl rfl rfl) (run_idx1 (k := i) Try.underlying79 s3es79 (by omega))) rfl rfl
  ·intro aa ww vals hJ hR
   have h2 : vals.length ≤ 1 := hR.hi 12 (by simp) rfl
   rcases (show vals.length = 0 ∨ vals.length = 1 by omega) with hl | hl
   ·obtain ⟨hvals, hv⟩ := hJ.at0 hl
    exact xD rfl (ex_load rfl (hR.w 5 28 rfl rfl rfl rfl) (run_load1 s3na93 (row_load (hv.get 2 rfl) hbi))) rfl rfl
   obtain ⟨C, q, hvals, hBC, hQ, hv⟩ := hJ.at0 hl
   exact xD rfl (ex_load rfl (hR.w 5 28 rfl rfl rfl rfl) (run_load1 s3na93 (row_load (hv.get 2 rfl) hbi))) rfl rfl
  ·intro aa ww vals hJ hR
   exact xD rfl (ex_move rfl (show aa.eval (.tmp 7) = _ from hR.keep 7 rfl)) rfl rfl
  ·intro aa ww vals hJ hR
   exact xD rfl (ex_move rfl (show aa.eval (.tmp 2) = _ from hR.keep 2 rfl)) rfl rfl
  ·intro aa ww vals hJ hR
   refine mem_step' rfl fun hvl => ?_
   have hl : vals.length = 0 := hvl
   obtain ⟨hvals, hv⟩ := hJ.at0 hl
   refine stepMem_calls s3callable43 (wn rfl) rfl (args := #[.slice cad l.length cc]) (by simp only [yA, yB, yC]; rw [show aa.eval (.tmp 31) = .slice cad l.length cc from hR.v 8 31 rfl rfl rfl rfl] <;> rfl) ((indexClone0 B _ _ cad cc cxs l hcok hcr hcx (by omega) hv).mono ?_)
   rintro e w5 ⟨C, q, hBC, rfl, hQ, hv⟩
   refine ⟨_, rfl, JS.next hl ⟨C, q, by rw [hvals]; rfl, hBC, hQ, hv⟩⟩
  ·intro aa ww vals hJ hR
   exact xD rfl (ex_index rfl (hR.w 6 29 rfl rfl rfl rfl) (hR.w 7 30 rfl rfl rfl rfl) (run_idx (k := j) Try.underlying93 s3es93 (by omega))) rfl rfl
  ·intro aa ww vals hJ hR
   exact xD rfl (ex_field rfl (hR.w 10 33 rfl rfl rfl rfl) (s3fa92_1 _ _ _)) rfl rfl
  ·intro aa ww vals hJ hR
   refine mem_step' rfl fun hvl => ?_
   have hl : vals.length = 1 := hvl
   obtain ⟨C, q, hvals, hBC, hQ, hv⟩ := hJ.at0 hl
   refine mem_storeRow (v := q) (wn rfl) rfl (hR.w 11 34 rfl rfl rfl rfl) (show aa.eval (.tmp 32) = _ from (hR.val 9 32 rfl rfl rfl).trans (by rw [hvals] <;> rfl)) hv s7sz66 (by rw [entCells_len]; omega) hQ.cells hQ.one (fun w6 hv => ?_)
   exact JS.next hl ⟨C, q, by rw [hvals]; rfl, hBC, hQ, hv⟩
  rintro w7 vals ⟨C, q, rfl, hBC, hQ, hv⟩
  rw [show mixV [9, 12] [q, undef] 0 [.pointer (some ⟨p, 0, none⟩), .pointer (some ⟨p, 0, none⟩), .pointer (some ⟨p, 0, none⟩), .slice (some ⟨a, 0, none⟩) X.length c, .int .i64 (i : Int), .pointer (some ⟨a, 0 + i, none⟩), .slice (some ⟨b, 0, none⟩) es.length c2, .int .i64 (j : Int), .slice cad l.length cc, undef, .pointer (some ⟨b, 0 + j * 2, none⟩), .pointer (some ⟨b, 0 + j * 2 + 1, none⟩), undef] = [.pointer (some ⟨p, 0, none⟩), .pointer (some ⟨p, 0, none⟩), .pointer (some ⟨p, 0, none⟩), .slice (some ⟨a, 0, none⟩) X.length c, .int .i64 (i : Int), .pointer (some ⟨a, 0 + i, none⟩), .slice (some ⟨b, 0, none⟩) es.length c2, .int .i64 (j : Int), .slice cad l.length cc, q, .pointer (some ⟨b, 0 + j * 2, none⟩), .pointer (some ⟨b, 0 + j * 2 + 1, none⟩), undef] from rfl]
  simp only [putAll, zP, zN, zI, zS, zO]
  refine blk_normal ?_
  go_end0
  obtain ⟨hk, hm1, hm2, hm3⟩ := ixm_update (hx.more hBC) hfi hes hf hQ ⟨hl0, hl⟩
  rw [Nat.zero_add, ← entCells_set hf q] at hv
  have hbs : bvs.set i (.slice (some ⟨b, 0, none⟩) es.length c2) = bvs := set_same hbi
  have h8 := Inv.ixClose1 (bv' := .slice (some ⟨b, 0, none⟩) es.length c2) (es' := es.set j (f.1, q)) hlen hilt (H := H) (by rw [List.length_set, hbs, ← hT]; exact hv)
  rw [← hm3] at h8
  exact ⟨rfl, C, _, _, _, _, hBC, hm1, hm2, by omega, h8⟩
 refine sK fun K8 hK8 => rL ?_
 refine xM (.slice cad l.length cc) rfl rfl rfl ?_
 refine xG (.int .i64 (l.length : Int)) rfl rfl (ex_len0 Try.underlying66 rfl rfl) ?_
 refine xG (.bool true) rfl rfl (ex_gtr (k := .i64) (m := (l.length : Int)) (n := 0) rfl rfl rfl (decide_eq_true (by omega))) ?_
 simp only [zP, zI, zS, zO]
 refine xA (.bool true) rfl rfl rfl ?_
 refine wL ?_
 simp only [zP, zI, zS, zO]
 refine tN (hK8 _ _ ?_)
 clear hK8 K8
 refine wpIn_cond_true rfl ?_
 refine rL ?_
 refine xM (.pointer (some ⟨p, 0, none⟩)) rfl rfl rfl ?_
 refine xM (.int .i64 (i : Int)) rfl rfl rfl ?_
 refine xM (.int .i64 (j : Int)) rfl rfl rfl ?_
 simp only [zP, zI, zS, zO]
 refine xM (.string ⟨key.toArray⟩) rfl rfl rfl ?_
 refine xM (.slice cad l.length cc) rfl rfl rfl ?_
 refine xC s3callable43 rfl rfl (l := [.slice cad l.length cc]) rfl ((indexClone0 B _ _ cad cc cxs l hcok hcr hcx (by omega) hv).mono ?_)
 rintro e w9 ⟨C, q, hBC, rfl, hQ, hv⟩
 refine ⟨_, rfl, ?_⟩
 obtain ⟨qa, qc, hqe⟩ := hQ.shape
 subst hqe
 simp only [zP, zI, zS, zO]
 refine xG (.agg #[.string ⟨key.toArray⟩, .slice qa l.length qc]) rfl rfl (ex_buildN (vs := #[(0, .string ⟨key.toArray⟩), (1, .slice qa l.length qc)]) rfl (by simp only [yA, yB, yC]; rfl) (by kernel_rfl)) ?_
 have hokf : ok = false := by simpa using hc4
 subst hokf
 have hx2 := hx.more hBC
 refine xC s7callable44 rfl rfl (l := [.pointer (some ⟨p, 0, none⟩), .int .i64 (i : Int), .int .i64 (j : Int), .agg #[.string ⟨key.toArray⟩, .slice qa l.length qc]]) rfl ((ixInsert C H _ p _ _ X bvs key (.slice qa l.length qc) i j hfi hx.ne hx.ok.lenX hx.ok.lenE (fun es hes e he => by obtain ⟨m, -, -, h9⟩ := (mods_mem hx.mo (List.mem_flatten.2 ⟨es, hes, he⟩)); exact h9.one) (by omega) ⟨hQ.cells, hQ.one⟩ hv).mono ?_)
 rintro e w10 ⟨rfl, v2, X2, bvs2, hv, hfl, hne2⟩
 refine ⟨_, rfl, ?_⟩
 refine wL ?_
 simp only [zP, zI, zS, zO]
 refine blk_normal ?_
 go_end0
 obtain ⟨hm1, hm2, hm3⟩ := ixm_insert hx2 hfi hfl hne2 hQ ⟨hl0, hl⟩ hM
 have h8 := hv
 rw [show (M.length : Int) + 1 = ((setM M key l (posOf X i j) false).length : Int) by rw [hm3]; rfl] at h8
 exact ⟨rfl, C, _, _, _, _, hBC, hm1, hm2, by omega, h8⟩
theorem ixSet (B : Base) (H : List Res) (w : World) (p : Nat) (v : Value) (X : List (List Ent)) (bvs : List Value) (M : Model) (key : List UInt8) (cv : Value) (l : List Ver) (hx : IxM B X M) (hM : M.length < 100000) (hc : ChainB B cv l) (hl0 : l ≠ []) (hl : l.length ≤ 1000) (hv : Inv B (ixS 81 93 92 p v (M.length : Int) X bvs :: H) w) :
  Calls Try.prog 25 #[.pointer (some ⟨p, 0, none⟩), .string ⟨key.toArray⟩, cv] w fun e w' => e = .returned (.tuple #[]) ∧ ∃ C v' X' bvs' M', B.Le C ∧ IxM C X' M' ∧ (∀ k, getM M' k = if k = key then l else getM M k) ∧ (M.length ≤ M'.length ∧ M'.length ≤ M.length + 1) ∧ Inv C (ixS 81 93 92 p v' (M'.length : Int) X' bvs' :: H) w' := by
 obtain ⟨cad, cc, cxs, rfl, hcok, hcr, hcx⟩ := hc
 exact ixSet0 B H w p v X bvs M key cad cc cxs l hx hM hcok hcr hcx hl0 hl hv
theorem ixGetS (B : Base) (H : List Res) (w : World) (p : Nat) (v : Value) (X : List (List Ent)) (bvs : List Value) (M : Model) (key : List UInt8) (hx : IxM B X M) (hv : Inv B (ixS 81 93 92 p v (M.length : Int) X bvs :: H) w) :
  Calls Try.prog 27 #[.pointer (some ⟨p, 0, none⟩), .string ⟨key.toArray⟩] w fun e w' => ∃ C v', B.Le C ∧ e = .returned v' ∧ ChainB C v' (getM M key) ∧ Inv C (ixS 81 93 92 p v (M.length : Int) X bvs :: H) w' := by
 obtain ⟨ad, c, rfl, hok0, hp, hr, hbv⟩ := ixS_facts hv List.mem_cons_self
 exact ixGet B _ w p _ X ad c bvs key _ (fun r hr => by rw [List.mem_singleton.1 hr]; exact List.mem_cons_self) hp hr hbv M hx hv
theorem ixLenS (B : Base) (H : List Res) (w : World) (p : Nat) (v : Value) (n : Int) (X : List (List Ent)) (bvs : List Value) (hv : Inv B (ixS 81 93 92 p v n X bvs :: H) w) :
  Calls Try.prog 40 #[.pointer (some ⟨p, 0, none⟩)] w fun e w' => e = .returned (.int .i64 n) ∧ Inv B (ixS 81 93 92 p v n X bvs :: H) w' := by
 obtain ⟨ad, c, rfl, hok0, hp, hr, hbv⟩ := ixS_facts hv List.mem_cons_self
 exact ixLen B _ w p n _ _ (fun r hr => by rw [List.mem_singleton.1 hr]; exact List.mem_cons_self) hp hv
end Go.Proofs.Ytffmbdagjpdieaa
/- A range over a function that keeps a state of its own, over resources. -/
namespace Go.Pm
open Go.RowKit
theorem Only.putObjL (w : World) (l : Nat) (o : Obj) : Only [l] w (w.putObj l o) :=
 ⟨rfl, rfl, rfl, by simp [World.putObj], fun k _ hk => World.putObj_heap_other (fun e => hk (by simp [e]))⟩
end Go.Pm
