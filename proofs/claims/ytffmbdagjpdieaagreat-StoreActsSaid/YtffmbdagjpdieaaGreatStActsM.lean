/- The reference's index: at, Get, Set. -/
import Derived.Test.YtffmbdagjpdieaaGreatStActsB
import Derived.Test.YtffmbdagjpdieaaGreatStActsI
import Derived.Test.YtffmbdagjpdieaaGreatStActsL
import Derived.Test.YtffmbdagjpdieaaGreatRows
set_option maxRecDepth 100000
namespace Go.Proofs.YtffmbdagjpdieaaGreat
open Go.RowKit Go.Pm
theorem key_at0 {M : Model} {i : Nat} {m : List UInt8 × List Ver} (h : M[i]? = some m) : (keysM M)[i]? = some m.1 := by rw [keysM, List.getElem?_map, h]; rfl
theorem s33fa30_0 (w : World) (b o : Nat) : (Instr.fieldAt 30 (.pointer (some ⟨b, o, none⟩)) 0).run Tryz.prog w = .ok (.pointer (some ⟨b, o + 0, none⟩)) w := by kernel_rfl
theorem s33callable79 : Callable Tryz.prog 79 := ⟨_, Tryz.func79, by kernel_rfl, by kernel_rfl⟩
set_option maxHeartbeats 4000000 in
theorem refIxAt (B : Base) (H : List Res) (w : World) (r : Nat) (ka ca : Option Addr) (kc cc : Nat) (cvs : List Value) (M : Model) (L Mk : Int) (key : List UInt8) (hx : RefIx B ka ca kc cc cvs M) (hs : SortedT (keysM M)) (hM : M.length ≤ 100000) (hkl : ∀ m ∈ M, m.1.length ≤ 1000) (R : List Res) (hRH : ∀ r ∈ R, r ∈ H) (hp : Reads B R r 0 [.slice ka M.length kc, .slice ca M.length cc, .int .i64 L, .int .i64 Mk]) (hv : Inv B H w) :
  Calls Tryz.prog 56 #[.pointer (some ⟨r, 0, none⟩), .string ⟨key.toArray⟩] w fun e w' => ∃ (i : Nat) (ok : Bool), e = .returned (.tuple #[.int .i64 (i : Int), .bool ok]) ∧ FindK M key i ok ∧ Inv B H w' := by
 refine cW Tryz.func56 rfl Tryz.ntmps56 ?_
 simp only [al]
 refine sK fun _ k1 => rL (xA (.int .i64 0) rfl ?_)
 refine xA (.bool false) rfl ?_
 simp only [zP, po]
 refine wK k1 (sK fun _ k2 => ?_)
 refine rL (xA (.int .i64 0) rfl ?_)
 simp only [zP, po]
 refine wK k2 (sK fun _ k3 => ?_)
 refine bB ?_
 gi_loopw [6] (fun x6 wr => ∃ (i : Nat), x6 = .int .i64 (i : Int) ∧ i ≤ M.length ∧ (∀ m ∈ M.take i, Op.bytesLess m.1 key = true) ∧ Inv B H wr) (fun x6 _ => M.length - (intOf x6).toNat)
 case atStart => exact ⟨0, rfl, Nat.zero_le _, fun m h => (by simp at h), hv⟩
 case round =>
  obtain ⟨i, rfl, hi, hlo, hv⟩ := hrel
  refine sK fun _ k5 => sK fun _ k6 => rL (xM (.int .i64 (i : Int)) rfl ?_)
  refine xM (.pointer (some ⟨r, 0, none⟩)) rfl (xG (.pointer (some ⟨r, 0, none⟩)) rfl (ex_nil rfl rfl) ?_)
  simp only [zP, po]
  refine xF (.pointer (some ⟨r, 0, none⟩)) rfl (s33fa30_0 _ _ _) (xL _ rfl (run_load1 s1na27 (hp _ _ _ (Base.Le.refl _) (fun r9 hr9 => (hRH r9 hr9)) hv 0 _ rfl)) ?_)
  refine xG (.int .i64 (M.length : Int)) rfl (ex_len0 Tryz.underlying27 rfl rfl) ?_
  simp only [zP, po]
  by_cases hb7 : (i : Int) < (M.length : Int)
  ·refine xG (.bool true) rfl (ex_lss rfl rfl rfl (decide_eq_true hb7)) ?_
   obtain ⟨m, hm⟩ : ∃ m, M[i]? = some m := ⟨_, List.getElem?_eq_getElem (show i < M.length by omega)⟩
   obtain ⟨kb, ko, had, hrdk⟩ := text_reads hx.keys (key_at0 hm)
   subst had
   have hmk := hkl m (List.mem_of_getElem? hm)
   refine xM (.bool true) rfl (xM (.pointer (some ⟨r, 0, none⟩)) rfl ?_)
   simp only [zP, po]
   refine xG (.pointer (some ⟨r, 0, none⟩)) rfl (ex_nil rfl rfl) (xF (.pointer (some ⟨r, 0, none⟩)) rfl (s33fa30_0 _ _ _) ?_)
   refine xL _ rfl (run_load1 s1na27 (hp _ _ _ (Base.Le.refl _) (fun r9 hr9 => (hRH r9 hr9)) hv 0 _ rfl)) ?_
   simp only [zP, po]
   refine xM (.int .i64 (i : Int)) rfl (xG (.pointer (some ⟨kb, ko + i, none⟩)) rfl (ex_index rfl rfl rfl (run_idx1 (k := i) Tryz.underlying27 s9es27 (by omega))) ?_)
   refine xL _ rfl (run_load1 s3na9 (hrdk _ _ _ (Base.Le.refl _) no_res hv 0 _ rfl)) ?_
   simp only [zP, po]
   refine xM (.string ⟨key.toArray⟩) rfl (xC s33callable79 rfl ((refLess B _ _ m.1 key (by omega) hv).mono ?_) rfl)
   rintro e w8 ⟨rfl, hv⟩
   refine ⟨_, rfl, ?_⟩
   refine xK true (.bool (Op.bytesLess m.1 key)) rfl ?_
   simp only [zP, po]
   refine wK k6 (wpIn_cond_split (t := Op.bytesLess m.1 key) rfl (fun hc9 => ?_) (fun hc9 => ?_))
   ·refine kS (tK k5 ?_)
    refine bB (rL ?_)
    refine xM (.int .i64 (i : Int)) rfl (xG (.int .i64 ((i + 1 : Nat) : Int)) rfl (ex_add rfl rfl rfl (by rw [i64_in (by omega)]; omega)) ?_)
    refine xA (.int .i64 ((i + 1 : Nat) : Int)) rfl (wL ?_)
    simp only [zP, po]
    refine bN (then_normal ?_)
    go_roundw
    case rel => exact ⟨i + 1, rfl, by omega, fun m9 h9 => (by
       rw [take_next hm] at h9
       rcases List.mem_append.1 h9 with h9 | h9
       ·exact hlo m9 h9
       rw [List.mem_singleton.1 h9]; exact hc9), hv⟩
    case measure => show M.length - (((i + 1 : Nat) : Int)).toNat < M.length - ((i : Int)).toNat; omega
   refine xE (tX ?_)
   refine tX (bH ?_)
   refine tK k3 (sK fun _ k10 => ?_)
   refine rW mixed [] [0,1,2,3,4,5,6,7,8,9,10,11,12,13,14,15,16,17,18,19,20] 46 rfl (by kernel_rfl) hv ?_
   simp only [qm, opAt]
   refine dM (.int .i64 (i : Int)) rfl (dM (.int .i64 (i : Int)) rfl ?_)
   refine dM (.pointer (some ⟨r, 0, none⟩)) rfl ?_
   simp only [zP, po]
   refine dG (.pointer (some ⟨r, 0, none⟩)) rfl (ex_nil rfl rfl) (dG (.pointer (some ⟨r, 0, none⟩)) rfl (ex_field rfl rfl (s33fa30_0 _ _ _)) ?_)
   refine dL _ rfl (fun hv => ex_load rfl rfl (run_load1 s1na27 (hp _ _ _ (Base.Le.refl _) (fun r9 hr9 => (hRH r9 hr9)) hv 0 _ rfl))) ?_
   simp only [zP, po]
   refine dG (.int .i64 (M.length : Int)) rfl (ex_len0 Tryz.underlying27 rfl rfl) (dG (.bool true) rfl (ex_lss rfl rfl rfl (decide_eq_true hb7)) ?_)
   refine dM (.bool true) rfl ?_
   simp only [zP, po]
   refine dM (.pointer (some ⟨r, 0, none⟩)) rfl (dG (.pointer (some ⟨r, 0, none⟩)) rfl (ex_nil rfl rfl) ?_)
   refine dG (.pointer (some ⟨r, 0, none⟩)) rfl (ex_field rfl rfl (s33fa30_0 _ _ _)) ?_
   simp only [zP, po]
   refine dL _ rfl (fun hv => ex_load rfl rfl (run_load1 s1na27 (hp _ _ _ (Base.Le.refl _) (fun r9 hr9 => (hRH r9 hr9)) hv 0 _ rfl))) (dM (.int .i64 (i : Int)) rfl ?_)
   refine dG (.pointer (some ⟨kb, ko + i, none⟩)) rfl (ex_index rfl rfl rfl (run_idx1 (k := i) Tryz.underlying27 s9es27 (by omega))) ?_
   simp only [zP, po]
   refine dL _ rfl (fun hv => ex_load rfl rfl (run_load1 s3na9 (hrdk _ _ _ (Base.Le.refl _) no_res hv 0 _ rfl))) (dM (.string ⟨key.toArray⟩) rfl ?_)
   refine dG (.bool (decide (m.1 = key))) rfl (ex_seql rfl rfl rfl rfl) ?_
   simp only [zP, po]
   refine dK true (.bool (decide (m.1 = key))) rfl (dA (.int .i64 (i : Int)) rfl ?_)
   refine dA (.bool (decide (m.1 = key))) rfl (dE fun w11 hv => ?_)
   simp only [zP, po]
   refine tK k10 (rR ?_)
   refine bodyPost_ret (results_tmp2 rfl _ _ _) rfl (⟨i, _, rfl, ⟨by omega, hlo, fun m9 h9 => (by rw [hm] at h9; cases h9; exact hc9), ⟨fun h => ⟨m, hm, by simpa using h⟩, fun ⟨m9, h8, h9⟩ => (by rw [hm] at h8; cases h8; simpa using h9)⟩⟩, hv⟩)
  refine xG (.bool false) rfl (ex_lss rfl rfl rfl (decide_eq_false hb7)) (xM (.bool false) rfl ?_)
  refine yP rfl ?_
  simp only [zP, po]
  refine yP rfl (yP rfl ?_)
  refine yP rfl ?_
  simp only [zP, po]
  refine yP rfl (yP rfl ?_)
  refine yP rfl ?_
  simp only [zP, po]
  refine yP rfl (yP rfl ?_)
  refine xK false (.bool false) rfl ?_
  simp only [zP, po]
  refine wK k6 (cF rfl ?_)
  refine xE (tX ?_)
  refine tX (bH ?_)
  refine tK k3 (sK fun _ k12 => ?_)
  refine rW mixed [] [0,1,2,3,4,5,6,7,8,9,10,11,12,13,14,15,16,17,18,19,20] 46 rfl (by kernel_rfl) hv ?_
  simp only [qm, opAt]
  refine dM (.int .i64 (i : Int)) rfl (dM (.int .i64 (i : Int)) rfl ?_)
  refine dM (.pointer (some ⟨r, 0, none⟩)) rfl ?_
  simp only [zP, po]
  refine dG (.pointer (some ⟨r, 0, none⟩)) rfl (ex_nil rfl rfl) (dG (.pointer (some ⟨r, 0, none⟩)) rfl (ex_field rfl rfl (s33fa30_0 _ _ _)) ?_)
  refine dL _ rfl (fun hv => ex_load rfl rfl (run_load1 s1na27 (hp _ _ _ (Base.Le.refl _) (fun r9 hr9 => (hRH r9 hr9)) hv 0 _ rfl))) ?_
  simp only [zP, po]
  refine dG (.int .i64 (M.length : Int)) rfl (ex_len0 Tryz.underlying27 rfl rfl) (dG (.bool false) rfl (ex_lss rfl rfl rfl (decide_eq_false hb7)) ?_)
  refine dM (.bool false) rfl ?_
  simp only [zP, po]
  iterate 9 refine dN rfl ?_
  refine dK false (.bool false) rfl (dA (.int .i64 (i : Int)) rfl ?_)
  refine dA (.bool false) rfl (dE fun w13 hv => ?_)
  simp only [zP, po]
  refine tK k12 (rR ?_)
  refine bodyPost_ret (results_tmp2 rfl _ _ _) rfl ?_
  obtain rfl : i = M.length := by omega
  exact ⟨_, false, rfl, ⟨Nat.le_refl _, hlo, fun m h => (by have := (List.getElem?_eq_some_iff.1 h).1; omega), ⟨fun h => (by cases h), fun ⟨m, h, _⟩ => (by have := (List.getElem?_eq_some_iff.1 h).1; omega)⟩⟩, hv⟩
theorem s33callable56 : Callable Tryz.prog 56 := ⟨_, Tryz.func56, by kernel_rfl, by kernel_rfl⟩
theorem s33fa30_1 (w : World) (b o : Nat) : (Instr.fieldAt 30 (.pointer (some ⟨b, o, none⟩)) 1).run Tryz.prog w = .ok (.pointer (some ⟨b, o + 1, none⟩)) w := by kernel_rfl
theorem s33na28 (w : World) : (isAgg 28).run Tryz.prog w = .ok false w := by kernel_rfl
set_option maxHeartbeats 2000000 in
theorem refIxGet (B : Base) (H : List Res) (w : World) (r : Nat) (ka ca : Option Addr) (kc cc : Nat) (cvs : List Value) (M : Model) (L Mk : Int) (key : List UInt8) (hx : RefIx B ka ca kc cc cvs M) (hs : SortedT (keysM M)) (hM : M.length ≤ 100000) (hkl : ∀ m ∈ M, m.1.length ≤ 1000) (R : List Res) (hRH : ∀ r ∈ R, r ∈ H) (hp : Reads B R r 0 [.slice ka M.length kc, .slice ca M.length cc, .int .i64 L, .int .i64 Mk]) (hne : ∀ m ∈ M, m.2 ≠ []) (hv : Inv B H w) :
  Calls Tryz.prog 25 #[.pointer (some ⟨r, 0, none⟩), .string ⟨key.toArray⟩] w fun e w' => ∃ q, e = .returned q ∧ ChainB B q (getM M key) ∧ IsQ M cvs key q ∧ Inv B H w' := by
 refine cW Tryz.func25 rfl Tryz.ntmps25 ?_
 simp only [al]
 refine sK fun _ k1 => rL (xA (.slice none 0 0) rfl ?_)
 simp only [zP, po]
 refine wK k1 (sK fun _ k2 => ?_)
 refine rL (xM (.pointer (some ⟨r, 0, none⟩)) rfl ?_)
 refine xM (.string ⟨key.toArray⟩) rfl (xC s33callable56 rfl ((refIxAt B _ _ r ka ca kc cc cvs M L Mk key hx hs hM hkl R hRH hp hv).mono ?_) rfl)
 rintro e w3 ⟨i, ok, rfl, hfk, hv⟩
 refine ⟨_, rfl, ?_⟩
 simp only [zP, po]
 refine xM (.tuple #[.int .i64 (i : Int), .bool ok]) rfl (xG (.int .i64 (i : Int)) rfl (ex_extract rfl rfl rfl) ?_)
 refine xG (.bool ok) rfl (ex_extract rfl rfl rfl) ?_
 simp only [zP, po]
 refine xA (.int .i64 (i : Int)) rfl (xA (.bool ok) rfl ?_)
 simp only [zP, po]
 refine wK k2 (sK fun _ k4 => ?_)
 refine sK fun _ k5 => rL (xM (.bool ok) rfl ?_)
 refine xG (.bool (!ok)) rfl (ex_not rfl rfl rfl) ?_
 simp only [zP, po]
 refine wK k5 (wpIn_cond_split (t := !ok) rfl (fun hc6 => ?_) (fun hc6 => ?_))
 ·refine sK fun _ k7 => rL (xA (.slice none 0 0) rfl ?_)
  simp only [zP, po]
  refine wK k7 (rR ?_)
  refine tR (bR rfl rfl ?_)
  have hok : ok = false := by simpa using hc6
  exact ⟨.slice none 0 0, rfl, by rw [(hfk.get hs).2 hok]; exact chain_nil B, .inr ⟨fun m hm e => (by have h9 := (hfk.get hs).2 hok; rw [← e, getM_at hs hm] at h9; exact hne m hm h9), rfl⟩, hv⟩
 refine kS (tK k4 ?_)
 refine sK fun _ k8 => ?_
 have hok : ok = true := by simpa using hc6
 obtain ⟨m, hm, hg⟩ := (hfk.get hs).1 hok
 obtain ⟨q, hq, hQ⟩ := hx.ch.2 i m hm
 obtain ⟨cb, co, had, hrdc⟩ := row1_reads (hx.chains.rdW []) hq
 subst had
 have hiM : i < M.length := (List.getElem?_eq_some_iff.1 hm).1
 refine rL (xM (.pointer (some ⟨r, 0, none⟩)) rfl ?_)
 refine xG (.pointer (some ⟨r, 0, none⟩)) rfl (ex_nil rfl rfl) (xF (.pointer (some ⟨r, 1, none⟩)) rfl (s33fa30_1 _ _ _) ?_)
 simp only [zP, po]
 refine xL _ rfl (run_load1 s33na28 (hp _ _ _ (Base.Le.refl _) (fun r9 hr9 => (hRH r9 hr9)) hv 1 _ rfl)) (xM (.int .i64 (i : Int)) rfl ?_)
 refine xG (.pointer (some ⟨cb, co + i, none⟩)) rfl (ex_index rfl rfl rfl (run_idx1 (k := i) Tryz.underlying28 s17es28 (by omega))) ?_
 simp only [zP, po]
 refine xL _ rfl (run_load1 s2na70 (hrdc _ _ _ (Base.Le.refl _) no_res hv 0 _ rfl)) (xA q rfl ?_)
 simp only [zP, po]
 refine wK k8 (rR ?_)
 refine bR rfl rfl ?_
 obtain ⟨m8, h8, h9⟩ := hfk.ok.1 hok
 rw [hm] at h8
 cases h8
 exact ⟨q, rfl, by rw [hg]; exact hQ, .inl ⟨i, m, hm, h9, hq⟩, hv⟩
theorem s33mk9 : (Tryz.prog.info? 9).map (fun i => (i.zero, i.size, i.bytes)) = some (some (.string ⟨([] : List UInt8).toArray⟩), 1, 16) := by kernel_rfl
theorem s33el27 : Elem Tryz.prog 27 9 (.string ⟨([] : List UInt8).toArray⟩) 1 16 := elem_of Tryz.underlying27 s33mk9 (by rfl) (by decide)
theorem s33mk70 : (Tryz.prog.info? 70).map (fun i => (i.zero, i.size, i.bytes)) = some (some (.slice none 0 0), 1, 24) := by kernel_rfl
theorem s33el28 : Elem Tryz.prog 28 70 (.slice none 0 0) 1 24 := elem_of Tryz.underlying28 s33mk70 (by rfl) (by decide)
theorem s33sz28 : (Tryz.prog.info? 28).map (·.size) = some 1 := by kernel_rfl
set_option maxHeartbeats 8000000 in
theorem refIxSet0 (B : Base) (H : List Res) (w : World) (r : Nat) (ka ca : Option Addr) (kc cc : Nat) (cvs : List Value) (M : Model) (L Mk : Int) (key : List UInt8) (hx : RefIx B ka ca kc cc cvs M) (hs : SortedT (keysM M)) (hM : M.length ≤ 100000) (hkl : ∀ m ∈ M, m.1.length ≤ 1000) (qa : Option Addr) (qc : Nat) (l : List Ver) (hq : ChainB B (.slice qa l.length qc) l) (hl : l.length ≤ 1000) (hv : Inv B (Res.cell r [.slice ka M.length kc, .slice ca M.length cc, .int .i64 L, .int .i64 Mk] 32 :: H) w) :
  Calls Tryz.prog 26 #[.pointer (some ⟨r, 0, none⟩), .string ⟨key.toArray⟩, .slice qa l.length qc] w fun e w' => e = .returned (.tuple #[]) ∧ ∃ C ka' kc' ca' cc' cvs' i ok, B.Le C ∧ FindK M key i ok ∧ RefIx C ka' ca' kc' cc' cvs' (setK M key l i ok) ∧ Inv C (Res.cell r [.slice ka' (setK M key l i ok).length kc', .slice ca' (setK M key l i ok).length cc', .int .i64 L, .int .i64 Mk] 32 :: H) w' := by
 refine cW Tryz.func26 rfl Tryz.ntmps26 ?_
 simp only [al]
 refine sK fun _ k1 => rL (xM (.pointer (some ⟨r, 0, none⟩)) rfl ?_)
 refine xM (.string ⟨key.toArray⟩) rfl (xC s33callable56 rfl ((refIxAt B _ _ r ka ca kc cc cvs M L Mk key hx hs hM hkl [_] (fun r9 hr9 => by rw [List.mem_singleton.1 hr9]; exact List.mem_cons_self) reads_cell hv).mono ?_) rfl)
 rintro e w2 ⟨i, ok, rfl, hfk, hv⟩
 refine ⟨_, rfl, ?_⟩
 simp only [zP, po]
 refine xM (.tuple #[.int .i64 (i : Int), .bool ok]) rfl (xG (.int .i64 (i : Int)) rfl (ex_extract rfl rfl rfl) ?_)
 refine xG (.bool ok) rfl (ex_extract rfl rfl rfl) ?_
 simp only [zP, po]
 refine xA (.int .i64 (i : Int)) rfl (xA (.bool ok) rfl ?_)
 simp only [zP, po]
 refine wK k1 (sK fun _ k3 => ?_)
 have hiM := hfk.le
 obtain ⟨a1, ha1, ok1, hr1⟩ := sliced_hiV 1 hx.ok1 hx.keys (by rw [textCells_len, List.length_map]) hiM
 obtain ⟨a2, ha2, ok2, hr2⟩ := sliced_hiV 1 hx.ok2 hx.chains (by rw [hx.ch.1, Nat.mul_one]) hiM
 rw [textCells_take] at hr1
 rw [Nat.mul_one] at hr2
 have hle1 := hx.ok1.le
 have hle2 := hx.ok2.le
 have hmx1 := hx.ok1.max
 have hmx2 := hx.ok2.max
 replace hv := (hv.rowNil 9 1).rowNil 70 1
 refine rL (xA (.slice none 0 0) rfl ?_)
 simp only [zP, po]
 refine wK k3 (sK fun _ k4 => ?_)
 refine rL (xA (.slice none 0 0) rfl ?_)
 simp only [zP, po]
 refine wK k4 (sK fun _ k5 => ?_)
 refine rL (xM (.slice none 0 0) rfl ?_)
 refine xM (.pointer (some ⟨r, 0, none⟩)) rfl (xG (.pointer (some ⟨r, 0, none⟩)) rfl (ex_nil rfl rfl) ?_)
 simp only [zP, po]
 refine xF (.pointer (some ⟨r, 0, none⟩)) rfl (s33fa30_0 _ _ _) (xL _ rfl (run_load1 s1na27 (hv.load 2 0 rfl rfl)) ?_)
 refine xM (.int .i64 (i : Int)) rfl ?_
 simp only [zP, po]
 refine xG (.slice a1 i kc) rfl (ex_slice (hi' := some (.int .i64 (i : Int))) rfl rfl rfl (congrArg some rfl) rfl ((run_hiAny Tryz.underlying27 s9es27 (by omega)).trans (by rw [ha1]))) ?_
 replace hv := hv.front 1 rfl
 simp only [List.eraseIdx_cons_succ, List.eraseIdx_cons_zero] at hv
 refine sl_append (news := textCells ((keysM M).take i)) tV (wn rfl) rfl rfl rfl s33el27 hv ok1 (by rw [textCells_n, List.length_take, List.length_map]; omega) ((hr1.more (Base.Le.refl _) (fun _ h => by cases h) : RdV B _ _ _).src hv) (textCells_one _) (by unfold maxLen; omega) (by omega) (fun rv6 w9 hv => ?_)
 obtain ⟨ra7, rc8, rfl⟩ := row_slice hv.head
 refine xA (.slice ra7 (0 + i) rc8) rfl ?_
 simp only [zP, po]
 refine wK k5 (sK fun _ k10 => ?_)
 refine rL (xM (.slice none 0 0) rfl ?_)
 refine xM (.pointer (some ⟨r, 0, none⟩)) rfl (xG (.pointer (some ⟨r, 0, none⟩)) rfl (ex_nil rfl rfl) ?_)
 simp only [zP, po]
 refine xF (.pointer (some ⟨r, 1, none⟩)) rfl (s33fa30_1 _ _ _) (xL _ rfl (run_load1 s33na28 (hv.load 2 1 rfl rfl)) ?_)
 refine xM (.int .i64 (i : Int)) rfl ?_
 simp only [zP, po]
 refine xG (.slice a2 i cc) rfl (ex_slice (hi' := some (.int .i64 (i : Int))) rfl rfl rfl (congrArg some rfl) rfl ((run_hiAny Tryz.underlying28 s17es28 (by omega)).trans (by rw [ha2]))) ?_
 replace hv := hv.front 1 rfl
 simp only [List.eraseIdx_cons_succ, List.eraseIdx_cons_zero] at hv
 refine sl_append (news := cvs.take i) tV (wn rfl) rfl rfl rfl s33el28 hv ok2 (by rw [List.length_take, hx.ch.1]; omega) ((hr2.more (Base.Le.refl _) (fun _ h => by cases h) : RdV B _ _ _).src hv) (fun u hu => hx.ch.one u (List.mem_of_mem_take hu)) (by unfold maxLen; omega) (by omega) (fun rv11 w14 hv => ?_)
 obtain ⟨ra12, rc13, rfl⟩ := row_slice hv.head
 refine xA (.slice ra12 (0 + i) rc13) rfl ?_
 simp only [zP, po]
 refine wK k10 (sK fun _ k15 => ?_)
 refine sK fun _ k16 => rL (xM (.slice qa l.length qc) rfl ?_)
 refine xG (.int .i64 (l.length : Int)) rfl (ex_len0 Tryz.underlying70 rfl rfl) ?_
 by_cases hb17 : (l.length : Int) > 0
 ·refine xG (.bool true) rfl (ex_gtr rfl rfl rfl (decide_eq_true hb17)) ?_
  simp only [zP, po]
  refine wK k16 (cT rfl ?_)
  refine sK fun _ k18 => rL (xM (.slice ra7 (0 + i) rc8) rfl ?_)
  refine xM (.string ⟨key.toArray⟩) rfl (sl_rowOne (v := .string ⟨key.toArray⟩) tV (wn rfl) rfl rfl hv s33el27 rfl (fun b19 w20 hv => ?_))
  simp only [zP, po]
  replace hv := hv.front 2 rfl
  simp only [List.eraseIdx_cons_succ, List.eraseIdx_cons_zero] at hv
  refine sl_append (news := [.string ⟨key.toArray⟩]) tV (wn rfl) rfl rfl rfl s33el27 hv (ok_full (by omega)) rfl (rd_all (hv.get 1 rfl)) (by intro u hu; simp only [List.mem_cons, List.not_mem_nil, or_false] at hu; rcases hu with rfl <;> rfl) (by unfold maxLen; omega) (by omega) (fun rv21 w24 hv => ?_)
  obtain ⟨ra22, rc23, rfl⟩ := row_slice hv.head
  refine xA (.slice ra22 ((0 + i) + 1) rc23) rfl ?_
  simp only [zP, po]
  refine wK k18 (rL ?_)
  refine xM (.slice ra12 (0 + i) rc13) rfl (xM (.slice qa l.length qc) rfl ?_)
  refine sl_rowOne (v := .slice qa l.length qc) tV (wn rfl) rfl rfl hv s33el28 rfl (fun b25 w26 hv => ?_)
  simp only [zP, po]
  replace hv := hv.front 3 rfl
  simp only [List.eraseIdx_cons_succ, List.eraseIdx_cons_zero] at hv
  refine sl_append (news := [.slice qa l.length qc]) tV (wn rfl) rfl rfl rfl s33el28 hv (ok_full (by omega)) rfl (rd_all (hv.get 1 rfl)) (by intro u hu; simp only [List.mem_cons, List.not_mem_nil, or_false] at hu; rcases hu with rfl <;> rfl) (by unfold maxLen; omega) (by omega) (fun rv27 w30 hv => ?_)
  obtain ⟨ra28, rc29, rfl⟩ := row_slice hv.head
  refine xA (.slice ra28 ((0 + i) + 1) rc29) rfl ?_
  simp only [zP, po]
  refine wK k15 (sK fun _ k31 => ?_)
  refine sK fun _ k32 => rL (xM (.bool ok) rfl ?_)
  simp only [zP, po]
  refine wK k32 (wpIn_cond_split (t := ok) rfl (fun hc33 => ?_) (fun hc33 => ?_))
  ·refine rL (xM (.int .i64 (i : Int)) rfl ?_)
   refine xG (.int .i64 ((i + 1 : Nat) : Int)) rfl (ex_add rfl rfl rfl (by rw [i64_in (by omega)]; omega)) (xA (.int .i64 ((i + 1 : Nat) : Int)) rfl ?_)
   simp only [zP, po]
   refine wK k31 (sK fun _ k34 => ?_)
   subst hc33
   obtain ⟨m0, hm0, -⟩ := hfk.ok.1 rfl
   have hiM2 : i < M.length := (List.getElem?_eq_some_iff.1 hm0).1
   obtain ⟨a3, c3, ha3, ok3, hr3⟩ := sliced_fromV 1 hx.ok1 hx.keys (by rw [textCells_len, List.length_map]) (show (i + 1) ≤ M.length by omega) (by decide)
   obtain ⟨a4, c4, ha4, ok4, hr4⟩ := sliced_fromV 1 hx.ok2 hx.chains (by rw [hx.ch.1, Nat.mul_one]) (show (i + 1) ≤ M.length by omega) (by decide)
   rw [textCells_drop] at hr3
   rw [Nat.mul_one] at hr4
   refine rL (xM (.pointer (some ⟨r, 0, none⟩)) rfl ?_)
   refine xM (.slice ra22 ((0 + i) + 1) rc23) rfl (xM (.pointer (some ⟨r, 0, none⟩)) rfl ?_)
   simp only [zP, po]
   refine xG (.pointer (some ⟨r, 0, none⟩)) rfl (ex_nil rfl rfl) (xF (.pointer (some ⟨r, 0, none⟩)) rfl (s33fa30_0 _ _ _) ?_)
   refine xL _ rfl (run_load1 s1na27 (hv.load 4 0 rfl rfl)) ?_
   simp only [zP, po]
   refine xM (.int .i64 ((i + 1 : Nat) : Int)) rfl (xG (.slice a3 (M.length - (i + 1)) c3) rfl (ex_slice (lo' := some (.int .i64 ((i + 1 : Nat) : Int))) rfl rfl (congrArg some rfl) rfl rfl ((run_fromAny Tryz.underlying27 s9es27 (by omega)).trans (by rw [ha3]))) ?_)
   replace hv := hv.front 2 rfl
   simp only [List.eraseIdx_cons_succ, List.eraseIdx_cons_zero] at hv
   refine sl_append (news := textCells ((keysM M).drop (i + 1))) tV (wn rfl) rfl rfl rfl s33el27 hv ok3 (by rw [textCells_n, List.length_drop, List.length_map, Nat.mul_one]) ((hr3.more (Base.Le.refl _) (fun _ h => by cases h) : RdV B _ _ _).src hv) (textCells_one _) (by unfold maxLen; omega) (by omega) (fun rv35 w38 hv => ?_)
   obtain ⟨ra36, rc37, rfl⟩ := row_slice hv.head
   simp only [zP, po]
   refine xG (.pointer (some ⟨r, 0, none⟩)) rfl (ex_nil rfl rfl) (xF (.pointer (some ⟨r, 0, none⟩)) rfl (s33fa30_0 _ _ _) ?_)
   refine xV 4 (.slice ra36 (((0 + i) + 1) + (M.length - (i + 1))) rc37) rfl hv s1sz27 rfl rfl (fun w39 hv => ?_)
   simp only [zS, zO, sp] at hv
   simp only [zP, po]
   refine wK k34 (rL ?_)
   refine xM (.pointer (some ⟨r, 0, none⟩)) rfl (xM (.slice ra28 ((0 + i) + 1) rc29) rfl ?_)
   refine xM (.pointer (some ⟨r, 0, none⟩)) rfl ?_
   simp only [zP, po]
   refine xG (.pointer (some ⟨r, 0, none⟩)) rfl (ex_nil rfl rfl) (xF (.pointer (some ⟨r, 1, none⟩)) rfl (s33fa30_1 _ _ _) ?_)
   refine xL _ rfl (run_load1 s33na28 (hv.load 4 1 rfl rfl)) ?_
   simp only [zP, po]
   refine xM (.int .i64 ((i + 1 : Nat) : Int)) rfl (xG (.slice a4 (M.length - (i + 1)) c4) rfl (ex_slice (lo' := some (.int .i64 ((i + 1 : Nat) : Int))) rfl rfl (congrArg some rfl) rfl rfl ((run_fromAny Tryz.underlying28 s17es28 (by omega)).trans (by rw [ha4]))) ?_)
   replace hv := hv.front 1 rfl
   simp only [List.eraseIdx_cons_succ, List.eraseIdx_cons_zero] at hv
   refine sl_append (news := cvs.drop (i + 1)) tV (wn rfl) rfl rfl rfl s33el28 hv ok4 (by rw [List.length_drop, hx.ch.1, Nat.mul_one]) ((hr4.more (Base.Le.refl _) (fun _ h => by cases h) : RdV B _ _ _).src hv) (fun u hu => hx.ch.one u (List.mem_of_mem_drop hu)) (by unfold maxLen; omega) (by omega) (fun rv40 w43 hv => ?_)
   obtain ⟨ra41, rc42, rfl⟩ := row_slice hv.head
   simp only [zP, po]
   refine xG (.pointer (some ⟨r, 0, none⟩)) rfl (ex_nil rfl rfl) (xF (.pointer (some ⟨r, 1, none⟩)) rfl (s33fa30_1 _ _ _) ?_)
   refine xV 4 (.slice ra41 (((0 + i) + 1) + (M.length - (i + 1))) rc42) rfl hv s33sz28 rfl rfl (fun w44 hv => ?_)
   simp only [zS, zO, sp] at hv
   refine wL ?_
   simp only [zP, po]
   go_end0
   have hl0 : 0 < l.length := by omega
   have hk : ((([] : List Value) ++ (textCells ((keysM M).take i))) ++ [.string ⟨key.toArray⟩]) ++ (textCells ((keysM M).drop (i + 1))) = textCells (keysM (setK M key l i true)) := by
    unfold setK
    rw [if_neg (fun h => by rw [h] at hl0; simp at hl0)]
    simp only [List.map_append, List.map_cons, List.map_nil, textCells_app, List.map_take, List.map_drop]
    simp [textCells]
   have hc : ChB B (((([] : List Value) ++ (cvs.take i)) ++ [.slice qa l.length qc]) ++ (cvs.drop (i + 1))) (setK M key l i true) := by
    unfold setK
    rw [if_neg (fun h => by rw [h] at hl0; simp at hl0)]
    exact ((hx.ch.take i).append (ChB.single hq)).append (hx.ch.drop (i + 1))
   have hn : (setK M key l i true).length = ((0 + i) + 1) + (M.length - (i + 1)) := by
    unfold setK
    rw [if_neg (fun h => by rw [h] at hl0; simp at hl0)]
    simp only [List.length_append, List.length_take, List.length_drop, List.length_cons, List.length_nil, if_true]
    omega
   replace hv := ((((hv.front 4 rfl).front 1 rfl).front 2 rfl).sub (List.Sublist.cons_cons _ (List.Sublist.cons_cons _ (List.Sublist.cons_cons _ (List.Sublist.cons _ (List.Sublist.cons _ (List.Sublist.refl _)))))))
   rw [hk] at hv
   rw [← hn] at hv
   obtain ⟨D, hD, hv, hrK, hokK, -⟩ := hv.rowBy
   obtain ⟨E, hE, hv, hrC, hokC, -⟩ := hv.rowBy
   exact ⟨rfl, E, _, _, _, _, _, i, true, hD.trans hE, hfk, ⟨hokK, hokC, hrK.more hE (fun _ h => h), hrC, hc.more (hD.trans hE)⟩, hv⟩
  refine kS (tK k31 ?_)
  refine sK fun _ k45 => ?_
  subst hc33
  obtain ⟨a3, c3, ha3, ok3, hr3⟩ := sliced_fromV 1 hx.ok1 hx.keys (by rw [textCells_len, List.length_map]) (show i ≤ M.length by omega) (by decide)
  obtain ⟨a4, c4, ha4, ok4, hr4⟩ := sliced_fromV 1 hx.ok2 hx.chains (by rw [hx.ch.1, Nat.mul_one]) (show i ≤ M.length by omega) (by decide)
  rw [textCells_drop] at hr3
  rw [Nat.mul_one] at hr4
  refine rL (xM (.pointer (some ⟨r, 0, none⟩)) rfl ?_)
  refine xM (.slice ra22 ((0 + i) + 1) rc23) rfl (xM (.pointer (some ⟨r, 0, none⟩)) rfl ?_)
  simp only [zP, po]
  refine xG (.pointer (some ⟨r, 0, none⟩)) rfl (ex_nil rfl rfl) (xF (.pointer (some ⟨r, 0, none⟩)) rfl (s33fa30_0 _ _ _) ?_)
  refine xL _ rfl (run_load1 s1na27 (hv.load 4 0 rfl rfl)) ?_
  simp only [zP, po]
  refine xM (.int .i64 (i : Int)) rfl (xG (.slice a3 (M.length - i) c3) rfl (ex_slice (lo' := some (.int .i64 (i : Int))) rfl rfl (congrArg some rfl) rfl rfl ((run_fromAny Tryz.underlying27 s9es27 (by omega)).trans (by rw [ha3]))) ?_)
  replace hv := hv.front 2 rfl
  simp only [List.eraseIdx_cons_succ, List.eraseIdx_cons_zero] at hv
  refine sl_append (news := textCells ((keysM M).drop i)) tV (wn rfl) rfl rfl rfl s33el27 hv ok3 (by rw [textCells_n, List.length_drop, List.length_map, Nat.mul_one]) ((hr3.more (Base.Le.refl _) (fun _ h => by cases h) : RdV B _ _ _).src hv) (textCells_one _) (by unfold maxLen; omega) (by omega) (fun rv46 w49 hv => ?_)
  obtain ⟨ra47, rc48, rfl⟩ := row_slice hv.head
  simp only [zP, po]
  refine xG (.pointer (some ⟨r, 0, none⟩)) rfl (ex_nil rfl rfl) (xF (.pointer (some ⟨r, 0, none⟩)) rfl (s33fa30_0 _ _ _) ?_)
  refine xV 4 (.slice ra47 (((0 + i) + 1) + (M.length - i)) rc48) rfl hv s1sz27 rfl rfl (fun w50 hv => ?_)
  simp only [zS, zO, sp] at hv
  simp only [zP, po]
  refine wK k45 (rL ?_)
  refine xM (.pointer (some ⟨r, 0, none⟩)) rfl (xM (.slice ra28 ((0 + i) + 1) rc29) rfl ?_)
  refine xM (.pointer (some ⟨r, 0, none⟩)) rfl ?_
  simp only [zP, po]
  refine xG (.pointer (some ⟨r, 0, none⟩)) rfl (ex_nil rfl rfl) (xF (.pointer (some ⟨r, 1, none⟩)) rfl (s33fa30_1 _ _ _) ?_)
  refine xL _ rfl (run_load1 s33na28 (hv.load 4 1 rfl rfl)) ?_
  simp only [zP, po]
  refine xM (.int .i64 (i : Int)) rfl (xG (.slice a4 (M.length - i) c4) rfl (ex_slice (lo' := some (.int .i64 (i : Int))) rfl rfl (congrArg some rfl) rfl rfl ((run_fromAny Tryz.underlying28 s17es28 (by omega)).trans (by rw [ha4]))) ?_)
  replace hv := hv.front 1 rfl
  simp only [List.eraseIdx_cons_succ, List.eraseIdx_cons_zero] at hv
  refine sl_append (news := cvs.drop i) tV (wn rfl) rfl rfl rfl s33el28 hv ok4 (by rw [List.length_drop, hx.ch.1, Nat.mul_one]) ((hr4.more (Base.Le.refl _) (fun _ h => by cases h) : RdV B _ _ _).src hv) (fun u hu => hx.ch.one u (List.mem_of_mem_drop hu)) (by unfold maxLen; omega) (by omega) (fun rv51 w54 hv => ?_)
  obtain ⟨ra52, rc53, rfl⟩ := row_slice hv.head
  simp only [zP, po]
  refine xG (.pointer (some ⟨r, 0, none⟩)) rfl (ex_nil rfl rfl) (xF (.pointer (some ⟨r, 1, none⟩)) rfl (s33fa30_1 _ _ _) ?_)
  refine xV 4 (.slice ra52 (((0 + i) + 1) + (M.length - i)) rc53) rfl hv s33sz28 rfl rfl (fun w55 hv => ?_)
  simp only [zS, zO, sp] at hv
  refine wL ?_
  simp only [zP, po]
  go_end0
  have hl0 : 0 < l.length := by omega
  have hk : ((([] : List Value) ++ (textCells ((keysM M).take i))) ++ [.string ⟨key.toArray⟩]) ++ (textCells ((keysM M).drop i)) = textCells (keysM (setK M key l i false)) := by
   unfold setK
   rw [if_neg (fun h => by rw [h] at hl0; simp at hl0)]
   simp only [List.map_append, List.map_cons, List.map_nil, textCells_app, List.map_take, List.map_drop]
   simp [textCells]
  have hc : ChB B (((([] : List Value) ++ (cvs.take i)) ++ [.slice qa l.length qc]) ++ (cvs.drop i)) (setK M key l i false) := by
   unfold setK
   rw [if_neg (fun h => by rw [h] at hl0; simp at hl0)]
   exact ((hx.ch.take i).append (ChB.single hq)).append (hx.ch.drop i)
  have hn : (setK M key l i false).length = ((0 + i) + 1) + (M.length - i) := by
   unfold setK
   rw [if_neg (fun h => by rw [h] at hl0; simp at hl0)]
   simp only [List.length_append, List.length_take, List.length_drop, List.length_cons, List.length_nil, Bool.false_eq_true, if_false]
   omega
  replace hv := ((((hv.front 4 rfl).front 1 rfl).front 2 rfl).sub (List.Sublist.cons_cons _ (List.Sublist.cons_cons _ (List.Sublist.cons_cons _ (List.Sublist.cons _ (List.Sublist.cons _ (List.Sublist.refl _)))))))
  rw [hk] at hv
  rw [← hn] at hv
  obtain ⟨D, hD, hv, hrK, hokK, -⟩ := hv.rowBy
  obtain ⟨E, hE, hv, hrC, hokC, -⟩ := hv.rowBy
  exact ⟨rfl, E, _, _, _, _, _, i, false, hD.trans hE, hfk, ⟨hokK, hokC, hrK.more hE (fun _ h => h), hrC, hc.more (hD.trans hE)⟩, hv⟩
 refine xG (.bool false) rfl (ex_gtr rfl rfl rfl (decide_eq_false hb17)) ?_
 simp only [zP, po]
 refine wK k16 (cF rfl ?_)
 refine kS (tK k15 ?_)
 refine sK fun _ k56 => sK fun _ k57 => rL (xM (.bool ok) rfl ?_)
 simp only [zP, po]
 refine wK k57 (wpIn_cond_split (t := ok) rfl (fun hc58 => ?_) (fun hc58 => ?_))
 ·refine rL (xM (.int .i64 (i : Int)) rfl ?_)
  refine xG (.int .i64 ((i + 1 : Nat) : Int)) rfl (ex_add rfl rfl rfl (by rw [i64_in (by omega)]; omega)) (xA (.int .i64 ((i + 1 : Nat) : Int)) rfl ?_)
  simp only [zP, po]
  refine wK k56 (sK fun _ k59 => ?_)
  subst hc58
  obtain ⟨m0, hm0, -⟩ := hfk.ok.1 rfl
  have hiM2 : i < M.length := (List.getElem?_eq_some_iff.1 hm0).1
  obtain ⟨a3, c3, ha3, ok3, hr3⟩ := sliced_fromV 1 hx.ok1 hx.keys (by rw [textCells_len, List.length_map]) (show (i + 1) ≤ M.length by omega) (by decide)
  obtain ⟨a4, c4, ha4, ok4, hr4⟩ := sliced_fromV 1 hx.ok2 hx.chains (by rw [hx.ch.1, Nat.mul_one]) (show (i + 1) ≤ M.length by omega) (by decide)
  rw [textCells_drop] at hr3
  rw [Nat.mul_one] at hr4
  refine rL (xM (.pointer (some ⟨r, 0, none⟩)) rfl ?_)
  refine xM (.slice ra7 (0 + i) rc8) rfl (xM (.pointer (some ⟨r, 0, none⟩)) rfl ?_)
  simp only [zP, po]
  refine xG (.pointer (some ⟨r, 0, none⟩)) rfl (ex_nil rfl rfl) (xF (.pointer (some ⟨r, 0, none⟩)) rfl (s33fa30_0 _ _ _) ?_)
  refine xL _ rfl (run_load1 s1na27 (hv.load 2 0 rfl rfl)) ?_
  simp only [zP, po]
  refine xM (.int .i64 ((i + 1 : Nat) : Int)) rfl (xG (.slice a3 (M.length - (i + 1)) c3) rfl (ex_slice (lo' := some (.int .i64 ((i + 1 : Nat) : Int))) rfl rfl (congrArg some rfl) rfl rfl ((run_fromAny Tryz.underlying27 s9es27 (by omega)).trans (by rw [ha3]))) ?_)
  replace hv := hv.front 1 rfl
  simp only [List.eraseIdx_cons_succ, List.eraseIdx_cons_zero] at hv
  refine sl_append (news := textCells ((keysM M).drop (i + 1))) tV (wn rfl) rfl rfl rfl s33el27 hv ok3 (by rw [textCells_n, List.length_drop, List.length_map, Nat.mul_one]) ((hr3.more (Base.Le.refl _) (fun _ h => by cases h) : RdV B _ _ _).src hv) (textCells_one _) (by unfold maxLen; omega) (by omega) (fun rv60 w63 hv => ?_)
  obtain ⟨ra61, rc62, rfl⟩ := row_slice hv.head
  simp only [zP, po]
  refine xG (.pointer (some ⟨r, 0, none⟩)) rfl (ex_nil rfl rfl) (xF (.pointer (some ⟨r, 0, none⟩)) rfl (s33fa30_0 _ _ _) ?_)
  refine xV 2 (.slice ra61 ((0 + i) + (M.length - (i + 1))) rc62) rfl hv s1sz27 rfl rfl (fun w64 hv => ?_)
  simp only [zS, zO, sp] at hv
  simp only [zP, po]
  refine wK k59 (rL ?_)
  refine xM (.pointer (some ⟨r, 0, none⟩)) rfl (xM (.slice ra12 (0 + i) rc13) rfl ?_)
  refine xM (.pointer (some ⟨r, 0, none⟩)) rfl ?_
  simp only [zP, po]
  refine xG (.pointer (some ⟨r, 0, none⟩)) rfl (ex_nil rfl rfl) (xF (.pointer (some ⟨r, 1, none⟩)) rfl (s33fa30_1 _ _ _) ?_)
  refine xL _ rfl (run_load1 s33na28 (hv.load 2 1 rfl rfl)) ?_
  simp only [zP, po]
  refine xM (.int .i64 ((i + 1 : Nat) : Int)) rfl (xG (.slice a4 (M.length - (i + 1)) c4) rfl (ex_slice (lo' := some (.int .i64 ((i + 1 : Nat) : Int))) rfl rfl (congrArg some rfl) rfl rfl ((run_fromAny Tryz.underlying28 s17es28 (by omega)).trans (by rw [ha4]))) ?_)
  replace hv := hv.front 1 rfl
  simp only [List.eraseIdx_cons_succ, List.eraseIdx_cons_zero] at hv
  refine sl_append (news := cvs.drop (i + 1)) tV (wn rfl) rfl rfl rfl s33el28 hv ok4 (by rw [List.length_drop, hx.ch.1, Nat.mul_one]) ((hr4.more (Base.Le.refl _) (fun _ h => by cases h) : RdV B _ _ _).src hv) (fun u hu => hx.ch.one u (List.mem_of_mem_drop hu)) (by unfold maxLen; omega) (by omega) (fun rv65 w68 hv => ?_)
  obtain ⟨ra66, rc67, rfl⟩ := row_slice hv.head
  simp only [zP, po]
  refine xG (.pointer (some ⟨r, 0, none⟩)) rfl (ex_nil rfl rfl) (xF (.pointer (some ⟨r, 1, none⟩)) rfl (s33fa30_1 _ _ _) ?_)
  refine xV 2 (.slice ra66 ((0 + i) + (M.length - (i + 1))) rc67) rfl hv s33sz28 rfl rfl (fun w69 hv => ?_)
  simp only [zS, zO, sp] at hv
  refine wL ?_
  simp only [zP, po]
  go_end0
  have hk : (([] : List Value) ++ (textCells ((keysM M).take i))) ++ (textCells ((keysM M).drop (i + 1))) = textCells (keysM (setK M key l i true)) := by
   unfold setK
   rw [if_pos (List.eq_nil_of_length_eq_zero (by omega))]
   simp only [List.map_append, List.map_nil, textCells_app, List.map_take, List.map_drop]
   simp [textCells]
  have hc : ChB B ((([] : List Value) ++ (cvs.take i)) ++ (cvs.drop (i + 1))) (setK M key l i true) := by
   unfold setK
   rw [if_pos (List.eq_nil_of_length_eq_zero (by omega))]
   exact by rw [List.append_nil]; exact (hx.ch.take i).append (hx.ch.drop (i + 1))
  have hn : (setK M key l i true).length = (0 + i) + (M.length - (i + 1)) := by
   unfold setK
   rw [if_pos (List.eq_nil_of_length_eq_zero (by omega))]
   simp only [List.length_append, List.length_take, List.length_drop, List.length_nil, if_true]
   omega
  replace hv := (((hv.front 2 rfl).front 1 rfl).front 2 rfl)
  rw [hk] at hv
  rw [← hn] at hv
  obtain ⟨D, hD, hv, hrK, hokK, -⟩ := hv.rowBy
  obtain ⟨E, hE, hv, hrC, hokC, -⟩ := hv.rowBy
  exact ⟨rfl, E, _, _, _, _, _, i, true, hD.trans hE, hfk, ⟨hokK, hokC, hrK.more hE (fun _ h => h), hrC, hc.more (hD.trans hE)⟩, hv⟩
 refine kS (tK k56 ?_)
 refine sK fun _ k70 => ?_
 subst hc58
 obtain ⟨a3, c3, ha3, ok3, hr3⟩ := sliced_fromV 1 hx.ok1 hx.keys (by rw [textCells_len, List.length_map]) (show i ≤ M.length by omega) (by decide)
 obtain ⟨a4, c4, ha4, ok4, hr4⟩ := sliced_fromV 1 hx.ok2 hx.chains (by rw [hx.ch.1, Nat.mul_one]) (show i ≤ M.length by omega) (by decide)
 rw [textCells_drop] at hr3
 rw [Nat.mul_one] at hr4
 refine rL (xM (.pointer (some ⟨r, 0, none⟩)) rfl ?_)
 refine xM (.slice ra7 (0 + i) rc8) rfl (xM (.pointer (some ⟨r, 0, none⟩)) rfl ?_)
 simp only [zP, po]
 refine xG (.pointer (some ⟨r, 0, none⟩)) rfl (ex_nil rfl rfl) (xF (.pointer (some ⟨r, 0, none⟩)) rfl (s33fa30_0 _ _ _) ?_)
 refine xL _ rfl (run_load1 s1na27 (hv.load 2 0 rfl rfl)) ?_
 simp only [zP, po]
 refine xM (.int .i64 (i : Int)) rfl (xG (.slice a3 (M.length - i) c3) rfl (ex_slice (lo' := some (.int .i64 (i : Int))) rfl rfl (congrArg some rfl) rfl rfl ((run_fromAny Tryz.underlying27 s9es27 (by omega)).trans (by rw [ha3]))) ?_)
 replace hv := hv.front 1 rfl
 simp only [List.eraseIdx_cons_succ, List.eraseIdx_cons_zero] at hv
 refine sl_append (news := textCells ((keysM M).drop i)) tV (wn rfl) rfl rfl rfl s33el27 hv ok3 (by rw [textCells_n, List.length_drop, List.length_map, Nat.mul_one]) ((hr3.more (Base.Le.refl _) (fun _ h => by cases h) : RdV B _ _ _).src hv) (textCells_one _) (by unfold maxLen; omega) (by omega) (fun rv71 w74 hv => ?_)
 obtain ⟨ra72, rc73, rfl⟩ := row_slice hv.head
 simp only [zP, po]
 refine xG (.pointer (some ⟨r, 0, none⟩)) rfl (ex_nil rfl rfl) (xF (.pointer (some ⟨r, 0, none⟩)) rfl (s33fa30_0 _ _ _) ?_)
 refine xV 2 (.slice ra72 ((0 + i) + (M.length - i)) rc73) rfl hv s1sz27 rfl rfl (fun w75 hv => ?_)
 simp only [zS, zO, sp] at hv
 simp only [zP, po]
 refine wK k70 (rL ?_)
 refine xM (.pointer (some ⟨r, 0, none⟩)) rfl (xM (.slice ra12 (0 + i) rc13) rfl ?_)
 refine xM (.pointer (some ⟨r, 0, none⟩)) rfl ?_
 simp only [zP, po]
 refine xG (.pointer (some ⟨r, 0, none⟩)) rfl (ex_nil rfl rfl) (xF (.pointer (some ⟨r, 1, none⟩)) rfl (s33fa30_1 _ _ _) ?_)
 refine xL _ rfl (run_load1 s33na28 (hv.load 2 1 rfl rfl)) ?_
 simp only [zP, po]
 refine xM (.int .i64 (i : Int)) rfl (xG (.slice a4 (M.length - i) c4) rfl (ex_slice (lo' := some (.int .i64 (i : Int))) rfl rfl (congrArg some rfl) rfl rfl ((run_fromAny Tryz.underlying28 s17es28 (by omega)).trans (by rw [ha4]))) ?_)
 replace hv := hv.front 1 rfl
 simp only [List.eraseIdx_cons_succ, List.eraseIdx_cons_zero] at hv
 refine sl_append (news := cvs.drop i) tV (wn rfl) rfl rfl rfl s33el28 hv ok4 (by rw [List.length_drop, hx.ch.1, Nat.mul_one]) ((hr4.more (Base.Le.refl _) (fun _ h => by cases h) : RdV B _ _ _).src hv) (fun u hu => hx.ch.one u (List.mem_of_mem_drop hu)) (by unfold maxLen; omega) (by omega) (fun rv76 w79 hv => ?_)
 obtain ⟨ra77, rc78, rfl⟩ := row_slice hv.head
 simp only [zP, po]
 refine xG (.pointer (some ⟨r, 0, none⟩)) rfl (ex_nil rfl rfl) (xF (.pointer (some ⟨r, 1, none⟩)) rfl (s33fa30_1 _ _ _) ?_)
 refine xV 2 (.slice ra77 ((0 + i) + (M.length - i)) rc78) rfl hv s33sz28 rfl rfl (fun w80 hv => ?_)
 simp only [zS, zO, sp] at hv
 refine wL ?_
 simp only [zP, po]
 go_end0
 have hk : (([] : List Value) ++ (textCells ((keysM M).take i))) ++ (textCells ((keysM M).drop i)) = textCells (keysM (setK M key l i false)) := by
  unfold setK
  rw [if_pos (List.eq_nil_of_length_eq_zero (by omega))]
  simp only [List.map_append, List.map_nil, textCells_app, List.map_take, List.map_drop]
  simp [textCells]
 have hc : ChB B ((([] : List Value) ++ (cvs.take i)) ++ (cvs.drop i)) (setK M key l i false) := by
  unfold setK
  rw [if_pos (List.eq_nil_of_length_eq_zero (by omega))]
  exact by rw [List.append_nil]; exact (hx.ch.take i).append (hx.ch.drop i)
 have hn : (setK M key l i false).length = (0 + i) + (M.length - i) := by
  unfold setK
  rw [if_pos (List.eq_nil_of_length_eq_zero (by omega))]
  simp only [List.length_append, List.length_take, List.length_drop, List.length_nil, Bool.false_eq_true, if_false]
  omega
 replace hv := (((hv.front 2 rfl).front 1 rfl).front 2 rfl)
 rw [hk] at hv
 rw [← hn] at hv
 obtain ⟨D, hD, hv, hrK, hokK, -⟩ := hv.rowBy
 obtain ⟨E, hE, hv, hrC, hokC, -⟩ := hv.rowBy
 exact ⟨rfl, E, _, _, _, _, _, i, false, hD.trans hE, hfk, ⟨hokK, hokC, hrK.more hE (fun _ h => h), hrC, hc.more (hD.trans hE)⟩, hv⟩
theorem refIxSet (B : Base) (H : List Res) (w : World) (r : Nat) (ka ca : Option Addr) (kc cc : Nat) (cvs : List Value) (M : Model) (L Mk : Int) (key : List UInt8) (hx : RefIx B ka ca kc cc cvs M) (hs : SortedT (keysM M)) (hM : M.length ≤ 100000) (hkl : ∀ m ∈ M, m.1.length ≤ 1000) (q : Value) (l : List Ver) (hq : ChainB B q l) (hl : l.length ≤ 1000) (hv : Inv B (Res.cell r [.slice ka M.length kc, .slice ca M.length cc, .int .i64 L, .int .i64 Mk] 32 :: H) w) : Calls Tryz.prog 26 #[.pointer (some ⟨r, 0, none⟩), .string ⟨key.toArray⟩, q] w
  fun e w' => e = .returned (.tuple #[]) ∧ ∃ C ka' kc' ca' cc' cvs' i ok, B.Le C ∧ FindK M key i ok ∧ RefIx C ka' ca' kc' cc' cvs' (setK M key l i ok) ∧ Inv C (Res.cell r [.slice ka' (setK M key l i ok).length kc', .slice ca' (setK M key l i ok).length cc', .int .i64 L, .int .i64 Mk] 32 :: H) w' := by
 have hq2 := hq
 obtain ⟨qa, qc, xs, rfl, -⟩ := hq2
 exact refIxSet0 B H w r ka ca kc cc cvs M L Mk key hx hs hM hkl qa qc l hq hl hv
end Go.Proofs.YtffmbdagjpdieaaGreat
/- The reference's store: Read, Names, Dump. -/
namespace Go.Proofs.YtffmbdagjpdieaaGreat
open Go.RowKit Go.Pm
structure RefM (B : Base) (ka ca : Option Addr) (kc cc : Nat) (cvs : List Value) (M : Model) : Prop where
 ix : RefIx B ka ca kc cc cvs M
 so : SortedT (keysM M)
 sm : M.length ≤ 100000
 kl : ∀ m ∈ M, m.1.length ≤ 1000
 ne : ∀ m ∈ M, m.2 ≠ []
 cl : ∀ k, (getM M k).length ≤ 1000
theorem RefM.more {B C : Base} {ka ca : Option Addr} {kc cc : Nat} {cvs : List Value} {M : Model} (h : RefM B ka ca kc cc cvs M) (hB : B.Le C) : RefM C ka ca kc cc cvs M := ⟨h.ix.more hB, h.so, h.sm, h.kl, h.ne, h.cl⟩
def ReadF (B : Base) (cvs : List Value) (M : Model) (key : List UInt8) (s c : Int) (x : Ver) (p t z : Value) (ok : Bool) : Prop :=
 (ok = true ∧ readV (getM M key) s c = some x ∧ ∃ (b o j n : Nat), IsQ M cvs key (.slice (some ⟨b, o, none⟩) (getM M key).length n) ∧ (getM M key)[j]? = some x ∧ Reads B [] b (o + j * 8) (verCells x p t z)) ∨
 (ok = false ∧ readV (getM M key) s c = none ∧ x = zver ∧ p = .slice none 0 0 ∧ t = .slice none 0 0 ∧ z = .slice none 0 0)
theorem asc_inj {l : List Ver} (h : Asc l) {i j : Nat} {x : Ver} (hi : l[i]? = some x) (hj : l[j]? = some x) : i = j := by
 obtain ⟨h1, rfl⟩ := List.getElem?_eq_some_iff.1 hi
 obtain ⟨h2, h3⟩ := List.getElem?_eq_some_iff.1 hj
 have hp := List.pairwise_iff_getElem.1 h
 rcases Nat.lt_trichotomy i j with h4 | h4 | h4
 ·have := hp i j h1 h2 h4; rw [h3] at this; omega
 ·exact h4
 have := hp j i h2 h1 h4; rw [h3] at this; omega
theorem ReadF.uniq {B C : Base} {K K' : List Res} {w : World} {cvs : List Value} {M : Model} {key : List UInt8} {s c : Int} {x x' : Ver} {p t z p' t' z' : Value} {ok ok' : Bool} (hs : SortedT (keysM M)) (ha : AscM M) (h : ReadF B cvs M key s c x p t z ok) (h' : ReadF C cvs M key s c x' p' t' z' ok') (hv : Inv B K w) (hv' : Inv C K' w) :
  x = x' ∧ p = p' ∧ t = t' ∧ z = z' ∧ ok = ok' := by
 rcases h with ⟨h1, h2, b, o, j, n, h3, h4, h5⟩ | ⟨h1, h2, h3, h4, h5, h6⟩
 ·rcases h' with ⟨k1, k2, b', o', j', n', k3, k4, k5⟩ | ⟨-, k2, -⟩
  ·rw [h2] at k2
   cases k2
   have e := h3.uniq hs k3
   simp only [Value.slice.injEq, Option.some.injEq, Addr.mk.injEq] at e
   obtain ⟨⟨rfl, rfl, -⟩, -, rfl⟩ := e
   obtain rfl := asc_inj (ha key) h4 k4
   have r := fun (i : Nat) (u u' : Value) (hu : (verCells x p t z)[i]? = some u) (hu' : (verCells x p' t' z')[i]? = some u') => by
    have e1 := h5 B K w (Base.Le.refl _) no_res hv i u hu
    have e2 := k5 C K' w (Base.Le.refl _) no_res hv' i u' hu'
    rw [e1] at e2
    exact Option.some.inj e2
   exact ⟨rfl, r 5 p p' rfl rfl, r 6 t t' rfl rfl, r 7 z z' rfl rfl, by rw [h1, k1]⟩
  rw [h2] at k2; cases k2
 rcases h' with ⟨-, k2, -⟩ | ⟨k1, -, k3, k4, k5, k6⟩
 ·rw [h2] at k2; cases k2
 exact ⟨by rw [h3, k3], by rw [h4, k4], by rw [h5, k5], by rw [h6, k6], by rw [h1, k1]⟩
theorem s34al55 (w : World) : (Instr.alloc 55 true (.tuple #[])).run Tryz.prog w = .ok (.pointer (some ⟨w.heap.size, 0, none⟩)) (w.alloc (.cells ([.int .i64 0, .bool false, .int .i64 0, .int .i64 0, .string ⟨([] : List UInt8).toArray⟩, .slice none 0 0, .slice none 0 0, .slice none 0 0] : List Value).toArray 55)) := by kernel_rfl
theorem s34fa32_0 (w : World) (b o : Nat) : (Instr.fieldAt 32 (.pointer (some ⟨b, o, none⟩)) 0).run Tryz.prog w = .ok (.pointer (some ⟨b, o + 0, none⟩)) w := by kernel_rfl
theorem s34callable25 : Callable Tryz.prog 25 := ⟨_, Tryz.func25, by kernel_rfl, by kernel_rfl⟩
theorem s34callable63 : Callable Tryz.prog 63 := ⟨_, Tryz.func63, by kernel_rfl, by kernel_rfl⟩
set_option maxHeartbeats 4000000 in
theorem refRead (B : Base) (H : List Res) (w : World) (r : Nat) (ka ca : Option Addr) (kc cc : Nat) (cvs : List Value) (M : Model) (L Mk : Int) (stamp clock : Int) (key : List UInt8) (hx : RefM B ka ca kc cc cvs M) (R : List Res) (hRH : ∀ r ∈ R, r ∈ H) (hp : Reads B R r 0 [.slice ka M.length kc, .slice ca M.length cc, .int .i64 L, .int .i64 Mk]) (hv : Inv B H w) :
  Calls Tryz.prog 36 #[.pointer (some ⟨r, 0, none⟩), .string ⟨key.toArray⟩, .int .i64 stamp, .int .i64 clock] w fun e w' => ∃ x p t z ok, e = .returned (.tuple #[.agg (verCells x p t z).toArray, .bool ok]) ∧ ReadF B cvs M key stamp clock x p t z ok ∧ ValAt B x.val p t z ∧ Inv B H w' := by
 refine cW Tryz.func36 rfl Tryz.ntmps36 ?_
 simp only [al]
 refine sK fun _ k1 => rL (sl_alloc tV (wn rfl) rfl hv s34al55 (fun b2 w3 hv => ?_))
 refine xA (.bool false) rfl ?_
 simp only [zP, po]
 refine wK k1 (sK fun _ k4 => ?_)
 refine rL (xM (.pointer (some ⟨r, 0, none⟩)) rfl ?_)
 refine xG (.pointer (some ⟨r, 0, none⟩)) rfl (ex_nil rfl rfl) (xF (.pointer (some ⟨r, 0, none⟩)) rfl (s34fa32_0 _ _ _) ?_)
 simp only [zP, po]
 refine xM (.string ⟨key.toArray⟩) rfl (xC s34callable25 rfl ((refIxGet B _ _ r ka ca kc cc cvs M L Mk key hx.ix hx.so hx.sm hx.kl R (fun r9 hr9 => (List.mem_cons_of_mem _ (hRH r9 hr9))) hp hx.ne hv).mono ?_) rfl)
 rintro e w5 ⟨q, rfl, hQ, hIsQ, hv⟩
 refine ⟨_, rfl, ?_⟩
 refine xM (.int .i64 stamp) rfl ?_
 simp only [zP, po]
 refine xC s34callable63 rfl ((refAtX B _ _ q (getM M key) stamp hQ (by have := hx.cl key; omega) hv).mono ?_) rfl
 rintro e w6 ⟨x, p2, t2, z2, ok, rfl, hat, hva, hv⟩
 refine ⟨_, rfl, ?_⟩
 rcases hat with ⟨rfl, hat, hcell⟩ | ⟨rfl, hat, rfl, rfl, rfl, rfl⟩
 ·refine xM (.tuple #[.agg #[.int .i64 x.stamp, .bool x.gone, .int .i64 x.expire, .int .i64 x.val.kind, .string ⟨x.val.text.toArray⟩, p2, t2, z2], .bool true]) rfl (xG (.agg #[.int .i64 x.stamp, .bool x.gone, .int .i64 x.expire, .int .i64 x.val.kind, .string ⟨x.val.text.toArray⟩, p2, t2, z2]) rfl (ex_extract rfl rfl rfl) ?_)
  simp only [zP, po]
  refine xG (.bool true) rfl (ex_extract rfl rfl rfl) (sl_alloc tV (wn rfl) rfl hv s34al55 (fun b7 w8 hv => ?_))
  refine xS 0 rfl hv s1sz55 rfl (by exact ⟨rfl, rfl, rfl, rfl, rfl, hva.p.one, hva.t.one, hva.z.one, trivial⟩) (fun w9 hv => ?_)
  simp only [zO, sp] at hv
  simp only [zP, po]
  refine xA (.bool true) rfl ?_
  simp only [zP, po]
  refine wK k4 (sK fun _ k10 => ?_)
  refine sK fun _ k11 => rL (xM (.bool true) rfl ?_)
  refine xG (.bool false) rfl (ex_not rfl rfl rfl) (xM (.bool false) rfl ?_)
  simp only [zP, po]
  refine xL (.agg #[.int .i64 x.stamp, .bool x.gone, .int .i64 x.expire, .int .i64 x.val.kind, .string ⟨x.val.text.toArray⟩, p2, t2, z2]) rfl (run_load_mid (pre := []) (mid := [.int .i64 x.stamp, .bool x.gone, .int .i64 x.expire, .int .i64 x.val.kind, .string ⟨x.val.text.toArray⟩, p2, t2, z2]) (post := []) s1wd55 (show Blk _ b7 ([] ++ [.int .i64 x.stamp, .bool x.gone, .int .i64 x.expire, .int .i64 x.val.kind, .string ⟨x.val.text.toArray⟩, p2, t2, z2] ++ []) _ from hv.get 0 rfl) rfl) (xM (.int .i64 clock) rfl ?_)
  refine xC s32callable59 rfl ((refAlive B _ _ x p2 t2 z2 clock hv).mono ?_) rfl
  rintro e w12 ⟨rfl, hv⟩
  refine ⟨_, rfl, ?_⟩
  simp only [zP, po]
  refine xG (.bool (!(aliveB x clock))) rfl (ex_not rfl rfl rfl) (xK false (.bool (!(aliveB x clock))) rfl ?_)
  simp only [zP, po]
  refine wK k11 (wpIn_cond_split (t := !(aliveB x clock)) rfl (fun hc13 => ?_) (fun hc13 => ?_))
  ·refine sK fun _ k14 => rL (xG (.agg #[.int .i64 0, .bool false, .int .i64 0, .int .i64 0, .string ⟨([] : List UInt8).toArray⟩, .slice none 0 0, .slice none 0 0, .slice none 0 0]) rfl (ex_buildN (vs := #[]) rfl (by simp only [List.map_toArray, List.map_nil]) (by kernel_rfl)) ?_)
   refine xS 1 rfl hv s1sz55 rfl (by exact ⟨rfl, rfl, rfl, rfl, rfl, rfl, rfl, rfl, trivial⟩) (fun w15 hv => ?_)
   simp only [zS, zO, sp] at hv
   refine xA (.bool false) rfl ?_
   simp only [zP, po]
   refine wK k14 (rR ?_)
   refine tR (bodyPost_ret (res_cell2 rfl rfl (run_load_mid (pre := []) (mid := [.int .i64 0, .bool false, .int .i64 0, .int .i64 0, .string ⟨([] : List UInt8).toArray⟩, .slice none 0 0, .slice none 0 0, .slice none 0 0]) (post := []) s1wd55 (show Blk _ b2 ([] ++ [.int .i64 0, .bool false, .int .i64 0, .int .i64 0, .string ⟨([] : List UInt8).toArray⟩, .slice none 0 0, .slice none 0 0, .slice none 0 0] ++ []) _ from hv.get 1 rfl) rfl)) rfl ?_)
   exact ⟨zver, _, _, _, false, rfl, .inr ⟨rfl, by unfold readV; rw [hat]; simp only [Option.filter]; rw [if_neg (by simpa using hc13)], rfl, rfl, rfl, rfl⟩, zver_at B, (hv.sub (List.Sublist.cons _ (List.Sublist.cons _ (List.Sublist.refl _))))⟩
  refine kS (tK k10 ?_)
  refine sK fun _ k16 => rL (xL (.agg #[.int .i64 x.stamp, .bool x.gone, .int .i64 x.expire, .int .i64 x.val.kind, .string ⟨x.val.text.toArray⟩, p2, t2, z2]) rfl (run_load_mid (pre := []) (mid := [.int .i64 x.stamp, .bool x.gone, .int .i64 x.expire, .int .i64 x.val.kind, .string ⟨x.val.text.toArray⟩, p2, t2, z2]) (post := []) s1wd55 (show Blk _ b7 ([] ++ [.int .i64 x.stamp, .bool x.gone, .int .i64 x.expire, .int .i64 x.val.kind, .string ⟨x.val.text.toArray⟩, p2, t2, z2] ++ []) _ from hv.get 0 rfl) rfl) ?_)
  refine xS 1 rfl hv s1sz55 rfl (by exact ⟨rfl, rfl, rfl, rfl, rfl, hva.p.one, hva.t.one, hva.z.one, trivial⟩) (fun w17 hv => ?_)
  simp only [zS, zO, sp] at hv
  refine xA (.bool true) rfl ?_
  simp only [zP, po]
  refine wK k16 (rR ?_)
  refine bodyPost_ret (res_cell2 rfl rfl (run_load_mid (pre := []) (mid := [.int .i64 x.stamp, .bool x.gone, .int .i64 x.expire, .int .i64 x.val.kind, .string ⟨x.val.text.toArray⟩, p2, t2, z2]) (post := []) s1wd55 (show Blk _ b2 ([] ++ [.int .i64 x.stamp, .bool x.gone, .int .i64 x.expire, .int .i64 x.val.kind, .string ⟨x.val.text.toArray⟩, p2, t2, z2] ++ []) _ from hv.get 1 rfl) rfl)) rfl ?_
  obtain ⟨b, o, j, n, hsl, hj, hrd⟩ := hcell
  exact ⟨x, p2, t2, z2, true, rfl, .inl ⟨rfl, by unfold readV; rw [hat]; simp only [Option.filter]; rw [if_pos (by simpa using hc13)], b, o, j, n, by rw [← hsl]; exact hIsQ, hj, hrd⟩, hva, (hv.sub (List.Sublist.cons _ (List.Sublist.cons _ (List.Sublist.refl _))))⟩
 refine xM (.tuple #[.agg #[.int .i64 zver.stamp, .bool zver.gone, .int .i64 zver.expire, .int .i64 zver.val.kind, .string ⟨zver.val.text.toArray⟩, .slice none 0 0, .slice none 0 0, .slice none 0 0], .bool false]) rfl (xG (.agg #[.int .i64 zver.stamp, .bool zver.gone, .int .i64 zver.expire, .int .i64 zver.val.kind, .string ⟨zver.val.text.toArray⟩, .slice none 0 0, .slice none 0 0, .slice none 0 0]) rfl (ex_extract rfl rfl rfl) ?_)
 simp only [zP, po]
 refine xG (.bool false) rfl (ex_extract rfl rfl rfl) (sl_alloc tV (wn rfl) rfl hv s34al55 (fun b18 w19 hv => ?_))
 refine xS 0 rfl hv s1sz55 rfl (by exact ⟨rfl, rfl, rfl, rfl, rfl, rfl, rfl, rfl, trivial⟩) (fun w20 hv => ?_)
 simp only [zO, sp] at hv
 simp only [zP, po]
 refine xA (.bool false) rfl ?_
 simp only [zP, po]
 refine wK k4 (sK fun _ k21 => ?_)
 refine sK fun _ k22 => rL (xM (.bool false) rfl ?_)
 refine xG (.bool true) rfl (ex_not rfl rfl rfl) (xM (.bool true) rfl ?_)
 simp only [zP, po]
 iterate 4 refine yN rfl ?_
 refine xK true (.bool true) rfl ?_
 simp only [zP, po]
 refine wK k22 (cT rfl ?_)
 refine sK fun _ k23 => rL (xG (.agg #[.int .i64 0, .bool false, .int .i64 0, .int .i64 0, .string ⟨([] : List UInt8).toArray⟩, .slice none 0 0, .slice none 0 0, .slice none 0 0]) rfl (ex_buildN (vs := #[]) rfl (by simp only [List.map_toArray, List.map_nil]) (by kernel_rfl)) ?_)
 refine xS 1 rfl hv s1sz55 rfl (by exact ⟨rfl, rfl, rfl, rfl, rfl, rfl, rfl, rfl, trivial⟩) (fun w24 hv => ?_)
 simp only [zS, zO, sp] at hv
 refine xA (.bool false) rfl ?_
 simp only [zP, po]
 refine wK k23 (rR ?_)
 refine tR (bodyPost_ret (res_cell2 rfl rfl (run_load_mid (pre := []) (mid := [.int .i64 0, .bool false, .int .i64 0, .int .i64 0, .string ⟨([] : List UInt8).toArray⟩, .slice none 0 0, .slice none 0 0, .slice none 0 0]) (post := []) s1wd55 (show Blk _ b2 ([] ++ [.int .i64 0, .bool false, .int .i64 0, .int .i64 0, .string ⟨([] : List UInt8).toArray⟩, .slice none 0 0, .slice none 0 0, .slice none 0 0] ++ []) _ from hv.get 1 rfl) rfl)) rfl ?_)
 exact ⟨zver, _, _, _, false, rfl, .inr ⟨rfl, by unfold readV; rw [hat]; rfl, rfl, rfl, rfl, rfl⟩, zver_at B, (hv.sub (List.Sublist.cons _ (List.Sublist.cons _ (List.Sublist.refl _))))⟩
theorem namesM_some {M : Model} {s c : Int} {i : Nat} {m : List UInt8 × List Ver} (hm : M[i]? = some m) : (((keysM M).take (i + 1)).filter fun k => (readV (getM M k) s c).isSome) = (((keysM M).take i).filter fun k => (readV (getM M k) s c).isSome) ++ if (readV (getM M m.1) s c).isSome then [m.1] else [] := by
 rw [take_next (key_at0 hm), List.filter_append]
 cases h9 : (readV (getM M m.1) s c).isSome <;> simp [h9]
theorem s34callable36 : Callable Tryz.prog 36 := ⟨_, Tryz.func36, by kernel_rfl, by kernel_rfl⟩
theorem s34mk9 : (Tryz.prog.info? 9).map (fun i => (i.zero, i.size, i.bytes)) = some (some (.string ⟨([] : List UInt8).toArray⟩), 1, 16) := by kernel_rfl
theorem s34el27 : Elem Tryz.prog 27 9 (.string ⟨([] : List UInt8).toArray⟩) 1 16 := elem_of Tryz.underlying27 s34mk9 (by rfl) (by decide)
set_option maxHeartbeats 4000000 in
theorem refNames (B : Base) (H : List Res) (w : World) (r : Nat) (ka ca : Option Addr) (kc cc : Nat) (cvs : List Value) (M : Model) (L Mk : Int) (stamp clock : Int) (hx : RefM B ka ca kc cc cvs M) (R : List Res) (hRH : ∀ r ∈ R, r ∈ H) (hp : Reads B R r 0 [.slice ka M.length kc, .slice ca M.length cc, .int .i64 L, .int .i64 Mk]) (hv : Inv B H w) :
  Calls Tryz.prog 35 #[.pointer (some ⟨r, 0, none⟩), .int .i64 stamp, .int .i64 clock] w fun e w' => ∃ ra rc, e = .returned (.slice ra (namesM M stamp clock).length rc) ∧ Inv B (Res.row 9 1 (.slice ra (namesM M stamp clock).length rc) (namesM M stamp clock).length (textCells (namesM M stamp clock)) :: H) w' := by
 refine cW Tryz.func35 rfl Tryz.ntmps35 ?_
 simp only [al]
 refine sK fun _ k1 => rL (xA (.slice none 0 0) rfl ?_)
 simp only [zP, po]
 refine wK k1 (sK fun _ k2 => ?_)
 refine rL (xA (.slice none 0 0) rfl ?_)
 simp only [zP, po]
 refine wK k2 (sK fun _ k3 => ?_)
 refine sK fun _ k4 => rL (xA (.int .i64 0) rfl ?_)
 simp only [zP, po]
 refine wK k4 (bB ?_)
 gi_loopw [7, 8] (fun x7 x8 wr => ∃ (i n1 : Nat) (ra : Option Addr) (rc : Nat), x7 = .slice ra n1 rc ∧ x8 = .int .i64 (i : Int) ∧ i ≤ M.length ∧ n1 = (((keysM M).take i).filter fun k => (readV (getM M k) stamp clock).isSome).length ∧ Inv B (Res.row 9 1 (.slice ra n1 rc) n1 (textCells (((keysM M).take i).filter fun k => (readV (getM M k) stamp clock).isSome)) :: H) wr) (fun x7 x8 _ => M.length - (intOf x8).toNat)
 case atStart => exact ⟨0, 0, none, 0, rfl, rfl, Nat.zero_le _, rfl, hv.rowNil 9 1⟩
 case round =>
  obtain ⟨i, n1, ra, rc, rfl, rfl, hi, hn1, hv⟩ := hrel
  have hn1b : n1 ≤ M.length := by rw [hn1]; exact Nat.le_trans (List.length_filter_le _ _) (by rw [List.length_take]; omega)
  have hMs := hx.sm
  refine sK fun _ k6 => sK fun _ k7 => rL (xM (.int .i64 (i : Int)) rfl ?_)
  refine xM (.pointer (some ⟨r, 0, none⟩)) rfl (xG (.pointer (some ⟨r, 0, none⟩)) rfl (ex_nil rfl rfl) ?_)
  simp only [zP, po]
  refine xF (.pointer (some ⟨r, 0, none⟩)) rfl (s34fa32_0 _ _ _) (xF (.pointer (some ⟨r, 0, none⟩)) rfl (s33fa30_0 _ _ _) ?_)
  refine xL _ rfl (run_load1 s1na27 (hp _ _ _ (Base.Le.refl _) (fun r9 hr9 => (List.mem_cons_of_mem _ (hRH r9 hr9))) hv 0 _ rfl)) ?_
  simp only [zP, po]
  refine xG (.int .i64 (M.length : Int)) rfl (ex_len0 Tryz.underlying27 rfl rfl) ?_
  by_cases hb8 : (i : Int) < (M.length : Int)
  ·refine xG (.bool true) rfl (ex_lss rfl rfl rfl (decide_eq_true hb8)) ?_
   simp only [zP, po]
   refine wK k7 (cT rfl ?_)
   refine kS (tK k6 ?_)
   refine sK fun _ k9 => bB (sK fun _ k10 => ?_)
   obtain ⟨m, hm⟩ : ∃ m, M[i]? = some m := ⟨_, List.getElem?_eq_getElem (show i < M.length by omega)⟩
   obtain ⟨kb, ko, had, hrdk⟩ := text_reads hx.ix.keys (key_at0 hm)
   have hx9 := hx
   have hp9 := hp
   subst had
   refine rL (xM (.pointer (some ⟨r, 0, none⟩)) rfl ?_)
   refine xM (.pointer (some ⟨r, 0, none⟩)) rfl (xG (.pointer (some ⟨r, 0, none⟩)) rfl (ex_nil rfl rfl) ?_)
   simp only [zP, po]
   refine xF (.pointer (some ⟨r, 0, none⟩)) rfl (s34fa32_0 _ _ _) (xF (.pointer (some ⟨r, 0, none⟩)) rfl (s33fa30_0 _ _ _) ?_)
   refine xL _ rfl (run_load1 s1na27 (hp _ _ _ (Base.Le.refl _) (fun r9 hr9 => (List.mem_cons_of_mem _ (hRH r9 hr9))) hv 0 _ rfl)) ?_
   simp only [zP, po]
   refine xM (.int .i64 (i : Int)) rfl (xG (.pointer (some ⟨kb, ko + i, none⟩)) rfl (ex_index rfl rfl rfl (run_idx1 (k := i) Tryz.underlying27 s9es27 (by omega))) ?_)
   refine xL _ rfl (run_load1 s3na9 (hrdk _ _ _ (Base.Le.refl _) no_res hv 0 _ rfl)) ?_
   simp only [zP, po]
   refine xM (.int .i64 stamp) rfl (xM (.int .i64 clock) rfl ?_)
   refine xC s34callable36 rfl ((refRead B _ _ r _ ca kc cc cvs M L Mk stamp clock m.1 hx R (fun r9 hr9 => (List.mem_cons_of_mem _ (hRH r9 hr9))) hp hv).mono ?_) rfl
   rintro e w11 ⟨y, p3, t3, z3, ok, rfl, hF, hvy, hv⟩
   refine ⟨_, rfl, ?_⟩
   have hsome : (readV (getM M m.1) stamp clock).isSome = ok := by rcases hF with ⟨rfl, h9, -⟩ | ⟨rfl, h9, -⟩ <;> rw [h9] <;> rfl
   cases ok
   ·simp only [zP, po]
    refine xM (.tuple #[.agg #[.int .i64 y.stamp, .bool y.gone, .int .i64 y.expire, .int .i64 y.val.kind, .string ⟨y.val.text.toArray⟩, p3, t3, z3], .bool false]) rfl (xG (.agg #[.int .i64 y.stamp, .bool y.gone, .int .i64 y.expire, .int .i64 y.val.kind, .string ⟨y.val.text.toArray⟩, p3, t3, z3]) rfl (ex_extract rfl rfl rfl) ?_)
    refine xG (.bool false) rfl (ex_extract rfl rfl rfl) ?_
    simp only [zP, po]
    refine sl_alloc tV (wn rfl) rfl hv s34al55 (fun b12 w13 hv => ?_)
    refine xS 0 rfl hv s1sz55 rfl (by exact ⟨rfl, rfl, rfl, rfl, rfl, hvy.p.one, hvy.t.one, hvy.z.one, trivial⟩) (fun w14 hv => ?_)
    simp only [zO, sp] at hv
    refine xA (.bool false) rfl ?_
    simp only [zP, po]
    refine wK k10 (sK fun _ k15 => ?_)
    refine rL (xM (.bool false) rfl ?_)
    simp only [zP, po]
    refine wK k15 (cF rfl ?_)
    refine kS (bN ?_)
    refine tK k9 (rL ?_)
    refine xM (.int .i64 (i : Int)) rfl (xG (.int .i64 ((i + 1 : Nat) : Int)) rfl (ex_add rfl rfl rfl (by rw [i64_in (by omega)]; omega)) ?_)
    refine xA (.int .i64 ((i + 1 : Nat) : Int)) rfl (wL ?_)
    simp only [zP, po]
    refine then_normal ?_
    go_roundw
    case rel => exact ⟨i + 1, n1, _, _, rfl, rfl, by omega, by rw [namesM_some hm, hsome]; simpa using hn1, by rw [namesM_some hm, hsome]; simpa using ((hv.front 1 rfl).sub (List.Sublist.cons_cons _ (List.Sublist.cons _ (List.Sublist.refl _))))⟩
    case measure => show M.length - (((i + 1 : Nat) : Int)).toNat < M.length - ((i : Int)).toNat; omega
   simp only [zP, po]
   refine xM (.tuple #[.agg #[.int .i64 y.stamp, .bool y.gone, .int .i64 y.expire, .int .i64 y.val.kind, .string ⟨y.val.text.toArray⟩, p3, t3, z3], .bool true]) rfl (xG (.agg #[.int .i64 y.stamp, .bool y.gone, .int .i64 y.expire, .int .i64 y.val.kind, .string ⟨y.val.text.toArray⟩, p3, t3, z3]) rfl (ex_extract rfl rfl rfl) ?_)
   refine xG (.bool true) rfl (ex_extract rfl rfl rfl) ?_
   simp only [zP, po]
   refine sl_alloc tV (wn rfl) rfl hv s34al55 (fun b16 w17 hv => ?_)
   refine xS 0 rfl hv s1sz55 rfl (by exact ⟨rfl, rfl, rfl, rfl, rfl, hvy.p.one, hvy.t.one, hvy.z.one, trivial⟩) (fun w18 hv => ?_)
   simp only [zO, sp] at hv
   refine xA (.bool true) rfl ?_
   simp only [zP, po]
   refine wK k10 (sK fun _ k19 => ?_)
   refine rL (xM (.bool true) rfl ?_)
   simp only [zP, po]
   refine wK k19 (cT rfl ?_)
   refine rL (xM (.slice ra n1 rc) rfl ?_)
   refine xM (.pointer (some ⟨r, 0, none⟩)) rfl (xG (.pointer (some ⟨r, 0, none⟩)) rfl (ex_nil rfl rfl) ?_)
   simp only [zP, po]
   refine xF (.pointer (some ⟨r, 0, none⟩)) rfl (s34fa32_0 _ _ _) (xF (.pointer (some ⟨r, 0, none⟩)) rfl (s33fa30_0 _ _ _) ?_)
   refine xL _ rfl (run_load1 s1na27 (hp _ _ _ (Base.Le.refl _) (fun r9 hr9 => (List.mem_cons_of_mem _ (List.mem_cons_of_mem _ (hRH r9 hr9)))) hv 0 _ rfl)) ?_
   simp only [zP, po]
   refine xM (.int .i64 (i : Int)) rfl (xG (.pointer (some ⟨kb, ko + i, none⟩)) rfl (ex_index rfl rfl rfl (run_idx1 (k := i) Tryz.underlying27 s9es27 (by omega))) ?_)
   refine xL _ rfl (run_load1 s3na9 (hrdk _ _ _ (Base.Le.refl _) no_res hv 0 _ rfl)) ?_
   simp only [zP, po]
   refine sl_rowOne (v := .string ⟨m.1.toArray⟩) tV (wn rfl) rfl rfl hv s34el27 rfl (fun b20 w21 hv => ?_)
   replace hv := hv.front 2 rfl
   simp only [List.eraseIdx_cons_succ, List.eraseIdx_cons_zero] at hv
   refine sl_append (news := [.string ⟨m.1.toArray⟩]) tV (wn rfl) rfl rfl rfl s34el27 hv (ok_full (by omega)) rfl (rd_all (hv.get 1 rfl)) (by intro u hu; simp only [List.mem_cons, List.not_mem_nil, or_false] at hu; rcases hu with rfl <;> rfl) (by unfold maxLen; omega) (by omega) (fun rv22 w25 hv => ?_)
   obtain ⟨ra23, rc24, rfl⟩ := row_slice hv.head
   refine xA (.slice ra23 (n1 + 1) rc24) rfl (wL ?_)
   simp only [zP, po]
   refine bN (tK k9 ?_)
   refine rL (xM (.int .i64 (i : Int)) rfl ?_)
   refine xG (.int .i64 ((i + 1 : Nat) : Int)) rfl (ex_add rfl rfl rfl (by rw [i64_in (by omega)]; omega)) (xA (.int .i64 ((i + 1 : Nat) : Int)) rfl ?_)
   refine wL ?_
   simp only [zP, po]
   refine then_normal ?_
   go_roundw
   case rel => exact ⟨i + 1, _, _, _, rfl, rfl, by omega, by rw [namesM_some hm, hsome, List.length_append, hn1]; rfl, by rw [namesM_some hm, hsome, textCells_app]; exact (hv.sub (List.Sublist.cons_cons _ (List.Sublist.cons _ (List.Sublist.cons _ (List.Sublist.refl _)))))⟩
   case measure => show M.length - (((i + 1 : Nat) : Int)).toNat < M.length - ((i : Int)).toNat; omega
  refine xG (.bool false) rfl (ex_lss rfl rfl rfl (decide_eq_false hb8)) ?_
  simp only [zP, po]
  refine wK k7 (cF rfl ?_)
  refine xE (tX ?_)
  refine tX (bH ?_)
  refine tK k3 (sK fun _ k26 => ?_)
  refine rL (xM (.slice ra n1 rc) rfl ?_)
  refine xA (.slice ra n1 rc) rfl ?_
  simp only [zP, po]
  refine wK k26 (rR ?_)
  refine bR rfl rfl ?_
  obtain rfl : i = M.length := by omega
  have hfull : (((keysM M).take M.length).filter fun k => (readV (getM M k) stamp clock).isSome) = namesM M stamp clock := by unfold namesM; rw [show M.length = (keysM M).length by rw [List.length_map], List.take_length]
  rw [hfull] at hn1 hv
  subst hn1
  exact ⟨ra, rc, rfl, hv⟩
end Go.Proofs.YtffmbdagjpdieaaGreat
/- The reference's store: Dump; Same of equal writes. -/
namespace Go.Proofs.YtffmbdagjpdieaaGreat
open Go.RowKit Go.Pm
theorem s35fa32_1 (w : World) (b o : Nat) : (Instr.fieldAt 32 (.pointer (some ⟨b, o, none⟩)) 1).run Tryz.prog w = .ok (.pointer (some ⟨b, o + 2, none⟩)) w := by kernel_rfl
theorem s35callable35 : Callable Tryz.prog 35 := ⟨_, Tryz.func35, by kernel_rfl, by kernel_rfl⟩
theorem s35al55 (w : World) : (Instr.alloc 55 true (.tuple #[])).run Tryz.prog w = .ok (.pointer (some ⟨w.heap.size, 0, none⟩)) (w.alloc (.cells ([.int .i64 0, .bool false, .int .i64 0, .int .i64 0, .string ⟨([] : List UInt8).toArray⟩, .slice none 0 0, .slice none 0 0, .slice none 0 0] : List Value).toArray 55)) := by kernel_rfl
theorem s35mk57 : (Tryz.prog.info? 57).map (fun i => (i.zero, i.size, i.bytes)) = some (some (.agg #[.string ⟨([] : List UInt8).toArray⟩, .int .i64 0, .bool false, .int .i64 0, .int .i64 0, .string ⟨([] : List UInt8).toArray⟩, .slice none 0 0, .slice none 0 0, .slice none 0 0]), 9, 136) := by kernel_rfl
theorem s35el33 : Elem Tryz.prog 33 57 (.agg #[.string ⟨([] : List UInt8).toArray⟩, .int .i64 0, .bool false, .int .i64 0, .int .i64 0, .string ⟨([] : List UInt8).toArray⟩, .slice none 0 0, .slice none 0 0, .slice none 0 0]) 9 136 := elem_of Tryz.underlying33 s35mk57 (by rfl) (by decide)
set_option maxHeartbeats 4000000 in
theorem refDump (B : Base) (H : List Res) (w : World) (r : Nat) (ka ca : Option Addr) (kc cc : Nat) (cvs : List Value) (M : Model) (L Mk : Int) (clock : Int) (hx : RefM B ka ca kc cc cvs M) (R : List Res) (hRH : ∀ r ∈ R, r ∈ H) (hp : Reads B R r 0 [.slice ka M.length kc, .slice ca M.length cc, .int .i64 L, .int .i64 Mk]) (hasc : AscM M) (hv : Inv B H w) :
  Calls Tryz.prog 15 #[.pointer (some ⟨r, 0, none⟩), .int .i64 clock] w fun e w' => ∃ C ra rc ys, B.Le C ∧ e = .returned (.slice ra (dumpM M L clock).length rc) ∧ SliceOk ra (dumpM M L clock).length rc ∧ RdV C [] ra ys ∧ WrsAt C (dumpM M L clock) ys ∧ Inv C H w' := by
 refine cW Tryz.func15 rfl Tryz.ntmps15 ?_
 simp only [al]
 refine sK fun _ k1 => rL (xA (.slice none 0 0) rfl ?_)
 simp only [zP, po]
 refine wK k1 (sK fun _ k2 => ?_)
 refine rL (xA (.slice none 0 0) rfl ?_)
 simp only [zP, po]
 refine wK k2 (sK fun _ k3 => ?_)
 refine rL (xM (.pointer (some ⟨r, 0, none⟩)) rfl ?_)
 refine xM (.pointer (some ⟨r, 0, none⟩)) rfl (xG (.pointer (some ⟨r, 0, none⟩)) rfl (ex_nil rfl rfl) ?_)
 simp only [zP, po]
 refine xF (.pointer (some ⟨r, 2, none⟩)) rfl (s35fa32_1 _ _ _) (xL _ rfl (run_load1 s2na3 (hp _ _ _ (Base.Le.refl _) (fun r9 hr9 => (hRH r9 hr9)) hv 2 _ rfl)) ?_)
 refine xM (.int .i64 clock) rfl ?_
 simp only [zP, po]
 refine xC s35callable35 rfl ((refNames B _ _ r ka ca kc cc cvs M L Mk L clock hx R (fun r9 hr9 => (hRH r9 hr9)) hp hv).mono ?_) rfl
 rintro e w4 ⟨na, nc, rfl, hv⟩
 refine ⟨_, rfl, ?_⟩
 obtain ⟨K0, hK0, hv7, hrk, -, -⟩ := hv.rowBy
 clear hv
 have hv := hv7
 clear hv7
 have hkeys := dumpM_keys hx.so L clock
 have hlen : (namesM M L clock).length = (dumpM M L clock).length := by rw [← hkeys, List.length_map]
 have hdle := dumpM_le M L clock
 have hMs := hx.sm
 refine xA (.slice na ((namesM M L clock).length) nc) rfl ?_
 simp only [zP, po]
 refine wK k3 (sK fun _ k5 => ?_)
 refine sK fun _ k6 => rL (xA (.int .i64 0) rfl ?_)
 simp only [zP, po]
 refine wK k6 (bB ?_)
 gi_loopw [5, 7] (fun x5 x7 wr => ∃ (i : Nat) (ra : Option Addr) (rc : Nat) (ys : List Value), x5 = .slice ra i rc ∧ x7 = .int .i64 (i : Int) ∧ i ≤ (namesM M L clock).length ∧ WrsAt K0 ((dumpM M L clock).take i) ys ∧ Inv K0 (Res.row 57 9 (.slice ra i rc) i ys :: H) wr) (fun x5 x7 _ => (namesM M L clock).length - (intOf x7).toNat)
 case atStart => exact ⟨0, none, 0, [], rfl, rfl, Nat.zero_le _, rfl, hv.rowNil 57 9⟩
 case round =>
  obtain ⟨i, ra, rc, ys, rfl, rfl, hi, hys, hv⟩ := hrel
  refine sK fun _ k8 => sK fun _ k9 => rL (xM (.int .i64 (i : Int)) rfl ?_)
  refine xM (.slice na ((namesM M L clock).length) nc) rfl (xG (.int .i64 (((namesM M L clock).length) : Int)) rfl (ex_len0 Tryz.underlying27 rfl rfl) ?_)
  simp only [zP, po]
  by_cases hb10 : (i : Int) < (((namesM M L clock).length) : Int)
  ·refine xG (.bool true) rfl (ex_lss rfl rfl rfl (decide_eq_true hb10)) ?_
   simp only [zP, po]
   refine wK k9 (cT rfl ?_)
   refine kS (tK k8 ?_)
   refine sK fun _ k11 => bB (sK fun _ k12 => ?_)
   obtain ⟨xw, hxw⟩ : ∃ x, (dumpM M L clock)[i]? = some x := ⟨_, List.getElem?_eq_getElem (show i < (dumpM M L clock).length by omega)⟩
   have hkx : (namesM M L clock)[i]? = some xw.key := by rw [← hkeys, List.getElem?_map, hxw]; rfl
   have hget := dumpM_get hx.so (List.mem_of_getElem? hxw)
   obtain ⟨kb, ko, had4, hrd4⟩ := text_reads hrk hkx
   subst had4
   obtain ⟨e9, w9, y, p3, t3, z3, ok, -, hF, hvy, -⟩ := calls_facts (refRead K0 _ _ r ka ca kc cc cvs M L Mk L clock xw.key (hx.more hK0) R (fun r9 hr9 => (List.mem_cons_of_mem _ (hRH r9 hr9))) (hp.more hK0) hv)
   obtain ⟨rfl, hy⟩ : ok = true ∧ y = xw.ver := by
    rcases hF with ⟨rfl, h9, -⟩ | ⟨-, h9, -⟩
    ·rw [hget] at h9; cases h9; exact ⟨rfl, rfl⟩
    rw [hget] at h9; cases h9
   clear e9 w9
   have hvy9 : ValAt K0 y.val p3 t3 z3 := hvy
   refine rW mixed [14, 15] [0,1,2,3,4,5,6,7,8,9,10,11,12,13,14,15,16] 47 rfl (by kernel_rfl) hv ?_
   simp only [qm, opAt]
   refine dM (.pointer (some ⟨r, 0, none⟩)) rfl (dM (.slice (some ⟨kb, ko, none⟩) ((namesM M L clock).length) nc) rfl ?_)
   refine dM (.int .i64 (i : Int)) rfl ?_
   simp only [zP, po]
   refine dG (.pointer (some ⟨kb, ko + i, none⟩)) rfl (ex_index rfl rfl rfl (run_idx1 (k := i) Tryz.underlying27 s9es27 (by omega))) (dF _ rfl (fun hv => ex_load rfl rfl (run_load1 s3na9 (hrd4 _ _ _ (Base.Le.refl _) no_res hv 0 _ rfl))) fun f13 hf13 => ?_)
   refine dM (.pointer (some ⟨r, 0, none⟩)) rfl ?_
   simp only [zP, po]
   refine dG (.pointer (some ⟨r, 0, none⟩)) rfl (ex_nil rfl rfl) (dG (.pointer (some ⟨r, 2, none⟩)) rfl (ex_field rfl rfl (s35fa32_1 _ _ _)) ?_)
   refine dF _ rfl (fun hv => ex_load rfl rfl (run_load1 s2na3 (hp _ _ _ hK0 (fun r9 hr9 => by simp [hRH r9 hr9]) hv 2 _ rfl))) fun f14 hf14 => ?_
   simp only [zP, po]
   refine dM (.int .i64 clock) rfl (dD (.tuple #[.agg #[.int .i64 y.stamp, .bool y.gone, .int .i64 y.expire, .int .i64 y.val.kind, .string ⟨y.val.text.toArray⟩, p3, t3, z3], .bool true]) s34callable36 rfl rfl (l := [.pointer (some ⟨r, 0, none⟩), .string ⟨xw.key.toArray⟩, .int .i64 L, .int .i64 clock]) rfl (fun {ww} hv => (refRead (Base.of ww) [] ww r ka ca kc cc cvs M L Mk L clock xw.key ((hx.more hK0).more (le_of hv)) [] no_res (reads_lift (hp.more hK0) (fun r9 hr9 => by simp [hRH r9 hr9]) hv) (Inv.start ww)).mono fun e w9 ⟨y2, p9, t9, z9, ok9, he, hF2, _, hi9⟩ => by obtain ⟨rfl, rfl, rfl, rfl, rfl⟩ := hF.uniq hx.so hasc hF2 hv (Inv.start ww); exact ⟨he, ext_of hi9⟩) fun f15 hf15 => ?_)
   refine dM (.tuple #[.agg #[.int .i64 y.stamp, .bool y.gone, .int .i64 y.expire, .int .i64 y.val.kind, .string ⟨y.val.text.toArray⟩, p3, t3, z3], .bool true]) rfl ?_
   simp only [zP, po]
   refine dG (.agg #[.int .i64 y.stamp, .bool y.gone, .int .i64 y.expire, .int .i64 y.val.kind, .string ⟨y.val.text.toArray⟩, p3, t3, z3]) rfl (ex_extract rfl rfl rfl) (dG (.bool true) rfl (ex_extract rfl rfl rfl) ?_)
   refine dS rfl fun w16 hv => mem_alloc rfl rfl hv s35al55 (fun b17 w18 hv => ?_)
   refine dV hv (fC (fun ww hv => hf15 ww ((refRead (Base.of ww) [] ww r ka ca kc cc cvs M L Mk L clock xw.key ((hx.more hK0).more (le_of hv)) [] no_res (reads_lift (hp.more hK0) (fun r9 hr9 => by simp [hRH r9 hr9]) hv) (Inv.start ww)).mono fun e w9 ⟨y2, p9, t9, z9, ok9, he, hF2, _, hi9⟩ => by obtain ⟨rfl, rfl, rfl, rfl, rfl⟩ := hF.uniq hx.so hasc hF2 hv (Inv.start ww); exact ⟨he, ext_of hi9⟩)) (fC (fun ww hv => hf14 ww (ex_load rfl rfl (run_load1 s2na3 (hp _ _ _ hK0 (fun r9 hr9 => by simp [hRH r9 hr9]) hv 2 _ rfl)))) (fC (fun ww hv => hf13 ww (ex_load rfl rfl (run_load1 s3na9 (hrd4 _ _ _ (Base.Le.refl _) no_res hv 0 _ rfl)))) fN))) ?_
   simp only [zP, po]
   refine dS rfl fun w19 hv => mS 0 rfl hv s1sz55 rfl (by exact ⟨rfl, rfl, rfl, rfl, rfl, hvy9.p.one, hvy9.t.one, hvy9.z.one, trivial⟩) (fun w20 hv => ?_)
   simp only [zO, sp] at hv
   refine dV hv (fK rfl (fK rfl (fK rfl fN))) (dA (.bool true) rfl ?_)
   refine dE fun w21 hv => ?_
   simp only [zP, po]
   refine tK k12 (rW mixed [7, 8, 9] [0,1,2,3,4,5,6,7,8,9] 47 rfl (by kernel_rfl) hv ?_)
   simp only [qm, opAt]
   refine dM (.slice ra i rc) rfl (dM (.slice (some ⟨kb, ko, none⟩) ((namesM M L clock).length) nc) rfl ?_)
   refine dM (.int .i64 (i : Int)) rfl ?_
   simp only [zP, po]
   refine dG (.pointer (some ⟨kb, ko + i, none⟩)) rfl (ex_index rfl rfl rfl (run_idx1 (k := i) Tryz.underlying27 s9es27 (by omega))) (dL _ rfl (fun hv => ex_load rfl rfl (run_load1 s3na9 (hrd4 _ _ _ (Base.Le.refl _) no_res hv 0 _ rfl))) ?_)
   refine dL (.agg #[.int .i64 y.stamp, .bool y.gone, .int .i64 y.expire, .int .i64 y.val.kind, .string ⟨y.val.text.toArray⟩, p3, t3, z3]) rfl (fun hv => ex_load rfl rfl (run_load_mid (pre := []) (mid := [.int .i64 y.stamp, .bool y.gone, .int .i64 y.expire, .int .i64 y.val.kind, .string ⟨y.val.text.toArray⟩, p3, t3, z3]) (post := []) s1wd55 (show Blk _ b17 ([] ++ [.int .i64 y.stamp, .bool y.gone, .int .i64 y.expire, .int .i64 y.val.kind, .string ⟨y.val.text.toArray⟩, p3, t3, z3] ++ []) _ from hv.get 0 rfl) rfl)) ?_
   simp only [zP, po]
   refine dG (.agg #[.string ⟨xw.key.toArray⟩, .int .i64 y.stamp, .bool y.gone, .int .i64 y.expire, .int .i64 y.val.kind, .string ⟨y.val.text.toArray⟩, p3, t3, z3]) rfl (ex_buildN (vs := #[(0, .string ⟨xw.key.toArray⟩), (1, .agg #[.int .i64 y.stamp, .bool y.gone, .int .i64 y.expire, .int .i64 y.val.kind, .string ⟨y.val.text.toArray⟩, p3, t3, z3])]) rfl (by simp only [List.map_toArray, List.map_cons, List.map_nil]; rfl) (by kernel_rfl)) (dS rfl fun w22 hv => ?_)
   refine mem_rowAgg (L := [.string ⟨xw.key.toArray⟩, .int .i64 y.stamp, .bool y.gone, .int .i64 y.expire, .int .i64 y.val.kind, .string ⟨y.val.text.toArray⟩, p3, t3, z3]) rfl rfl rfl hv s35el33 rfl (by decide) (fun b23 w24 hv => ?_)
   refine dW hv (dS rfl fun w25 hv => ?_)
   replace hv := hv.front 2 rfl
   simp only [List.eraseIdx_cons_succ, List.eraseIdx_cons_zero] at hv
   refine mem_append (news := [.string ⟨xw.key.toArray⟩, .int .i64 y.stamp, .bool y.gone, .int .i64 y.expire, .int .i64 y.val.kind, .string ⟨y.val.text.toArray⟩, p3, t3, z3]) rfl rfl rfl rfl s35el33 hv (ok_full (by omega)) rfl (rd_all (hv.get 1 rfl)) (wrCells_one (v := ⟨xw.key, y⟩) hvy9) (by unfold maxLen; omega) (by omega) (fun v w28 hv => ?_)
   obtain ⟨va26, vc27, rfl⟩ := row_slice hv.head
   refine dW hv ?_
   simp only [zP, po]
   refine dS rfl fun w29 hv => Ex.mem (ex_assign rfl rfl) rfl (dW hv ?_)
   refine dE fun w30 hv => ?_
   simp only [zP, po]
   refine bN (tK k11 ?_)
   refine rL (xM (.int .i64 (i : Int)) rfl ?_)
   refine xG (.int .i64 ((i + 1 : Nat) : Int)) rfl (ex_add rfl rfl rfl (by rw [i64_in (by omega)]; omega)) (xA (.int .i64 ((i + 1 : Nat) : Int)) rfl ?_)
   refine wL ?_
   simp only [zP, po]
   refine then_normal ?_
   go_roundw
   case rel => exact ⟨i + 1, _, _, _, rfl, rfl, by omega, by rw [take_next hxw, show [xw] = [(⟨xw.key, y⟩ : Wr)] by rw [hy]]; exact WrsAt.append (WrsAt.single (v := ⟨xw.key, y⟩) hvy9) hys, (hv.sub (List.Sublist.cons_cons _ (List.Sublist.cons _ (List.Sublist.cons _ (List.Sublist.refl _)))))⟩
   case measure => show (namesM M L clock).length - (((i + 1 : Nat) : Int)).toNat < (namesM M L clock).length - ((i : Int)).toNat; omega
  refine xG (.bool false) rfl (ex_lss rfl rfl rfl (decide_eq_false hb10)) ?_
  simp only [zP, po]
  refine wK k9 (cF rfl ?_)
  refine xE (tX ?_)
  refine tX (bH ?_)
  refine tK k5 (sK fun _ k31 => ?_)
  refine rL (xM (.slice ra i rc) rfl ?_)
  refine xA (.slice ra i rc) rfl ?_
  simp only [zP, po]
  refine wK k31 (rR ?_)
  refine bR rfl rfl ?_
  have hie : i = (dumpM M L clock).length := by omega
  rw [hie, List.take_length] at hys
  rw [hie] at hv
  obtain ⟨D, hD, hv, hrD, hokD, -⟩ := (hv).rowBy
  exact ⟨D, ra, rc, ys, hK0.trans hD, by rw [← hie]; rfl, hokD, hrD, hys.more hD, hv⟩
theorem s35callable40 : Callable Tryz.prog 40 := ⟨_, Tryz.func40, by kernel_rfl, by kernel_rfl⟩
set_option maxHeartbeats 4000000 in
theorem refSameW (B : Base) (H : List Res) (w : World) (ad ad2 : Option Addr) (c c2 : Nat) (xs xs2 : List Value) (l : List Wr) (hr : RdV B [] ad xs) (hxs : WrsAt B l xs) (hr2 : RdV B [] ad2 xs2) (hxs2 : WrsAt B l xs2) (hm : l.length ≤ 1000000) (hv : Inv B H w) :
  Calls Tryz.prog 39 #[.slice ad l.length c, .slice ad2 l.length c2] w fun e w' => e = .returned (.bool true) ∧ Inv B H w' := by
 refine cW Tryz.func39 rfl Tryz.ntmps39 ?_
 simp only [al]
 refine sK fun _ k1 => rL (xA (.bool false) rfl ?_)
 simp only [zP, po]
 refine wK k1 (sK fun _ k2 => ?_)
 refine sK fun _ k3 => rL (xM (.slice ad l.length c) rfl ?_)
 refine xG (.int .i64 (l.length : Int)) rfl (ex_len0 Tryz.underlying33 rfl rfl) (xM (.slice ad2 l.length c2) rfl ?_)
 simp only [zP, po]
 refine xG (.int .i64 (l.length : Int)) rfl (ex_len0 Tryz.underlying33 rfl rfl) (xG (.bool false) rfl (ex_neq rfl rfl rfl (decide_eq_false (fun h => h rfl))) ?_)
 simp only [zP, po]
 refine wK k3 (cF rfl ?_)
 refine kS (tK k2 ?_)
 refine sK fun _ k4 => sK fun _ k5 => rL (xA (.int .i64 0) rfl ?_)
 simp only [zP, po]
 refine wK k5 (bB ?_)
 gi_loopw [5] (fun x5 wr => ∃ (i : Nat), x5 = .int .i64 (i : Int) ∧ i ≤ l.length ∧ Inv B H wr) (fun x5 _ => l.length - (intOf x5).toNat)
 case atStart => exact ⟨0, rfl, Nat.zero_le _, hv⟩
 case round =>
  obtain ⟨i, rfl, hi, hv⟩ := hrel
  refine sK fun _ k7 => sK fun _ k8 => rL (xM (.int .i64 (i : Int)) rfl ?_)
  refine xM (.slice ad l.length c) rfl (xG (.int .i64 (l.length : Int)) rfl (ex_len0 Tryz.underlying33 rfl rfl) ?_)
  simp only [zP, po]
  by_cases hb9 : (i : Int) < (l.length : Int)
  ·refine xG (.bool true) rfl (ex_lss rfl rfl rfl (decide_eq_true hb9)) ?_
   simp only [zP, po]
   refine wK k8 (cT rfl ?_)
   refine kS (tK k7 ?_)
   refine sK fun _ k10 => bB (sK fun _ k11 => ?_)
   obtain ⟨x, hx⟩ : ∃ x, l[i]? = some x := ⟨_, List.getElem?_eq_getElem (show i < l.length by omega)⟩
   obtain ⟨bb, bo, xp, xt, xz, had, hvalx, hrdx⟩ := WrsAt.reads hxs hr hx
   subst had
   obtain ⟨bb2, bo2, q, u, y, had2, hval2, hrd2⟩ := WrsAt.reads hxs2 hr2 hx
   subst had2
   refine rW mixed [22] [0,1,2,3,4,5,6,7,8,9,10,11,12,13,14,15,16,17,18,19,20,21,22,23,24] 42 rfl (by kernel_rfl) hv ?_
   simp only [qm, opAt]
   refine dM (.slice (some ⟨bb, bo, none⟩) l.length c) rfl (dM (.int .i64 (i : Int)) rfl ?_)
   refine dG (.pointer (some ⟨bb, bo + i * 9, none⟩)) rfl (ex_index rfl rfl rfl (run_idx (k := i) Tryz.underlying33 s8es33 (by omega))) ?_
   simp only [zP, po]
   refine dG (.pointer (some ⟨bb, bo + i * 9, none⟩)) rfl (ex_field rfl rfl (s8fa57_0 _ _ _)) (dL _ rfl (fun hv => ex_load rfl rfl (run_load1 s3na9 (hrdx _ _ _ (Base.Le.refl _) no_res hv 0 _ rfl))) ?_)
   refine dM (.slice (some ⟨bb2, bo2, none⟩) l.length c2) rfl ?_
   simp only [zP, po]
   refine dM (.int .i64 (i : Int)) rfl (dG (.pointer (some ⟨bb2, bo2 + i * 9, none⟩)) rfl (ex_index rfl rfl rfl (run_idx (k := i) Tryz.underlying33 s8es33 (by omega))) ?_)
   refine dG (.pointer (some ⟨bb2, bo2 + i * 9, none⟩)) rfl (ex_field rfl rfl (s8fa57_0 _ _ _)) ?_
   simp only [zP, po]
   refine dL _ rfl (fun hv => ex_load rfl rfl (run_load1 s3na9 (hrd2 _ _ _ (Base.Le.refl _) no_res hv 0 _ rfl))) (dG (.bool false) rfl (ex_sneq rfl rfl rfl (decide_eq_false (fun h => h rfl))) ?_)
   refine dM (.bool false) rfl ?_
   simp only [zP, po]
   refine dM (.slice (some ⟨bb, bo, none⟩) l.length c) rfl (dM (.int .i64 (i : Int)) rfl ?_)
   refine dG (.pointer (some ⟨bb, bo + i * 9, none⟩)) rfl (ex_index rfl rfl rfl (run_idx (k := i) Tryz.underlying33 s8es33 (by omega))) ?_
   simp only [zP, po]
   refine dG (.pointer (some ⟨bb, bo + i * 9 + 1, none⟩)) rfl (ex_field rfl rfl (s14fa57_1 _ _ _)) (dL (.agg #[.int .i64 x.ver.stamp, .bool x.ver.gone, .int .i64 x.ver.expire, .int .i64 x.ver.val.kind, .string ⟨x.ver.val.text.toArray⟩, xp, xt, xz]) rfl (fun hv => ex_load rfl rfl (run_loadR (cs := [.int .i64 x.ver.stamp, .bool x.ver.gone, .int .i64 x.ver.expire, .int .i64 x.ver.val.kind, .string ⟨x.ver.val.text.toArray⟩, xp, xt, xz]) s1wd55 (Reads.mid (pre := [.string ⟨x.key.toArray⟩]) (mid := [.int .i64 x.ver.stamp, .bool x.ver.gone, .int .i64 x.ver.expire, .int .i64 x.ver.val.kind, .string ⟨x.ver.val.text.toArray⟩, xp, xt, xz]) (post := []) hrdx _ _ _ (Base.Le.refl _) no_res hv))) ?_)
   refine dM (.slice (some ⟨bb2, bo2, none⟩) l.length c2) rfl ?_
   simp only [zP, po]
   refine dM (.int .i64 (i : Int)) rfl (dG (.pointer (some ⟨bb2, bo2 + i * 9, none⟩)) rfl (ex_index rfl rfl rfl (run_idx (k := i) Tryz.underlying33 s8es33 (by omega))) ?_)
   refine dG (.pointer (some ⟨bb2, bo2 + i * 9 + 1, none⟩)) rfl (ex_field rfl rfl (s14fa57_1 _ _ _)) ?_
   simp only [zP, po]
   refine dL (.agg #[.int .i64 x.ver.stamp, .bool x.ver.gone, .int .i64 x.ver.expire, .int .i64 x.ver.val.kind, .string ⟨x.ver.val.text.toArray⟩, q, u, y]) rfl (fun hv => ex_load rfl rfl (run_loadR (cs := [.int .i64 x.ver.stamp, .bool x.ver.gone, .int .i64 x.ver.expire, .int .i64 x.ver.val.kind, .string ⟨x.ver.val.text.toArray⟩, q, u, y]) s1wd55 (Reads.mid (pre := [.string ⟨x.key.toArray⟩]) (mid := [.int .i64 x.ver.stamp, .bool x.ver.gone, .int .i64 x.ver.expire, .int .i64 x.ver.val.kind, .string ⟨x.ver.val.text.toArray⟩, q, u, y]) (post := []) hrd2 _ _ _ (Base.Le.refl _) no_res hv))) (dS rfl fun w12 hv => ?_)
   refine mC s35callable40 rfl ((refSame1 B _ _ x.ver _ _ _ _ _ _ hvalx hval2 hv).mono ?_) rfl
   rintro e w13 ⟨rfl, hv⟩
   refine ⟨_, rfl, dW hv ?_⟩
   refine dG (.bool false) rfl (ex_not rfl rfl rfl) ?_
   simp only [zP, po]
   refine dK false (.bool false) rfl (dE fun w14 hv => ?_)
   simp only [zP, po]
   refine tK k11 (cF rfl ?_)
   refine kS (bN ?_)
   refine tK k10 (rL ?_)
   refine xM (.int .i64 (i : Int)) rfl (xG (.int .i64 ((i + 1 : Nat) : Int)) rfl (ex_add rfl rfl rfl (by rw [i64_in (by omega)]; omega)) ?_)
   refine xA (.int .i64 ((i + 1 : Nat) : Int)) rfl (wL ?_)
   simp only [zP, po]
   refine then_normal ?_
   go_roundw
   case rel => exact ⟨i + 1, rfl, by omega, hv⟩
   case measure => show l.length - (((i + 1 : Nat) : Int)).toNat < l.length - ((i : Int)).toNat; omega
  refine xG (.bool false) rfl (ex_lss rfl rfl rfl (decide_eq_false hb9)) ?_
  simp only [zP, po]
  refine wK k8 (cF rfl ?_)
  refine xE (tX ?_)
  refine tX (bH ?_)
  refine tK k4 (sK fun _ k15 => ?_)
  refine rL (xA (.bool true) rfl ?_)
  simp only [zP, po]
  refine wK k15 (rR ?_)
  refine bR rfl rfl (⟨rfl, hv⟩)
end Go.Proofs.YtffmbdagjpdieaaGreat
