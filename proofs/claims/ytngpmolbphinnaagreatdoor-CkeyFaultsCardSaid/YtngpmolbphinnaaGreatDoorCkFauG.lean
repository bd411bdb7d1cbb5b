/- The reference's view: Put, Names; Words. -/
import Derived.Test.YtngpmolbphinnaaGreatDoorCkFauC
import Derived.Test.YtngpmolbphinnaaGreatDoorCkFauF
import Derived.Test.YtngpmolbphinnaaGreatDoorCkFauB
import Derived.Test.YtngpmolbphinnaaGreatDoorRows
import Derived.Test.YtngpmolbphinnaaGreatDoorCkFauD
import Derived.Test.YtngpmolbphinnaaGreatDoorCkFauE
set_option maxRecDepth 100000
set_option maxHeartbeats 16000000
set_option synthInstance.maxSize 4096
set_option synthInstance.maxHeartbeats 400000
namespace Go.Proofs.YtngpmolbphinnaaGreatDoor
open Go.RowKit Go.Pm
def InsK (L : List KeyR) (k : KeyR) (K' : List KeyR) : Prop := ∃ j, j ≤ L.length ∧ K' = L.take j ++ k :: L.drop j ∧ (∀ x ∈ L.take j, Op.bytesLess x.name k.name = true) ∧ (∀ x, L[j]? = some x → Op.bytesLess x.name k.name = false)
def PutK (K : List KeyR) (clk : Int) (name : List UInt8) (v : Val) (exp : Int) (K' : List KeyR) : Prop := (¬ FullV v ∧ K' = delK K clk name) ∨ (FullV v ∧ InsK (others K name) ⟨name, v, exp⟩ K')
theorem take_all_next {L : List KeyR} {j : Nat} {x : KeyR} {p : KeyR → Prop} (hx : L[j]? = some x) (h : ∀ y ∈ L.take j, p y) (hp : p x) : ∀ y ∈ L.take (j + 1), p y := by
 intro y hy
 rw [take_next hx, List.mem_append, List.mem_singleton] at hy
 rcases hy with hy | rfl
 ·exact h y hy
 exact hp
theorem others_mem {K : List KeyR} {name : List UInt8} {x : KeyR} (h : x ∈ others K name) : x ∈ K := (List.mem_filter.1 h).1
theorem v3al28 : AL Tryz.prog 28 [vN, vI 0, vN] := fun w => by kernel_rfl
theorem v3callable47 : Callable Tryz.prog 47 := cb Tryz.func47 (by kernel_rfl)
theorem v3callable48 : Callable Tryz.prog 48 := cb Tryz.func48 (by kernel_rfl)
theorem v3callable50 : Callable Tryz.prog 50 := cb Tryz.func50 (by kernel_rfl)
theorem v3mk82 : (Tryz.prog.info? 82).map (fun i => (i.zero, i.size, i.bytes)) = some (some (.agg #[vS [], vI 0, vS [], vN, vN, vN, vI 0]), 7, 120) := by kernel_rfl
theorem v3el25 : Elem Tryz.prog 25 82 (.agg #[vS [], vI 0, vS [], vN, vN, vN, vI 0]) 7 120 := elem_of Tryz.underlying25 v3mk82 (by rfl) (by decide)
theorem refPut20 (B : Base) (H : List Res) (w : World) (K : List KeyR) (wl : List (List UInt8)) (ka wa : Option Addr) (kc wc : Nat) (xs : List Value) (clk : Int) (hR : RefV B K wl ka wa kc wc xs) (hm : K.length ≤ 10000) (hmw : wl.length ≤ 10000) (hkn : ∀ x ∈ K, x.name.length ≤ 1000) (name : List UInt8) (v : Val) (vp vt vz : Value) (exp : Int) (hval : ValAt B v vp vt vz) (hv : Inv B H w) :
  Calls Tryz.prog 27 #[.agg #[.slice ka K.length kc, vI clk, .slice wa wl.length wc], vS name, .agg #[vI v.kind, vS v.text, vp, vt, vz], vI exp] w fun e w' => ∃ C K' wl' ka' kc' wa' wc' xs', B.Le C ∧ e = .returned (.agg #[.slice ka' K'.length kc', vI clk, .slice wa' wl'.length wc']) ∧ RefV C K' wl' ka' wa' kc' wc' xs' ∧ PutK K clk name v exp K' ∧ wl'.length ≤ wl.length + 1 ∧ Inv C H w' := by
 refine cW Tryz.func27 rfl Tryz.ntmps27 ?_
 simp only [al]
 refine sK fun _ k1 => rL (sl_box (L := [.slice ka K.length kc, vI clk, .slice wa wl.length wc]) tV (wn rfl) rfl rfl hv (fun w => by kernel_rfl) (fun b2 w3 hv => ?_))
 refine sl_box (L := [vI v.kind, vS v.text, vp, vt, vz]) tV (wn rfl) rfl rfl hv (fun w => by kernel_rfl) (fun b4 w5 hv => ?_)
 refine sl_alloc tV (wn rfl) rfl hv v3al28 (fun b6 w7 hv => ?_)
 refine uW k1 (sK fun _ k8 => ?_)
 refine sK fun _ k9 => rL (uF (vP b4) rfl (s12fa43_0 _ _ _) ?_)
 refine uL _ rfl (run_load1 s2na3 (hv.load 1 0 rfl rfl)) ?_
 by_cases hb10 : v.kind ≠ 1
 ·refine uG (.bool true) rfl (ex_neq rfl rfl rfl (qT hb10)) (uM rfl ?_)
  refine uL (.agg #[vI v.kind, vS v.text, vp, vt, vz]) rfl (lM 1 s1wd43 hv rfl rfl rfl rfl) ?_
  refine xC v3callable47 rfl ((refSize B _ _ v vp vt vz hval hv).mono ?_) rfl
  rintro e w11 ⟨rfl, hv⟩
  refine ⟨_, rfl, ?_⟩
  simp only [zP, po]
  by_cases hb12 : (sizeV v : Int) = 0
  ·refine uG (.bool true) rfl (ex_eql rfl rfl rfl (qT hb12)) (uK rfl ?_)
   refine uW k9 (cT rfl ?_)
   refine sK fun _ k13 => rL (uL (.agg #[.slice ka K.length kc, vI clk, .slice wa wl.length wc]) rfl (lM 2 v2wd28 hv rfl rfl rfl rfl) ?_)
   refine uM rfl ?_
   refine xC v3callable48 rfl ((refDel20 B _ _ K wl ka wa kc wc xs clk hR hm hmw name hv).mono ?_) rfl
   rintro e w14 ⟨C, K', wl', ka', kc', wa', wc', xs', hC, rfl, hR', hK', hwl', hv⟩
   refine ⟨_, rfl, ?_⟩
   simp only [zP, po]
   refine xS 0 rfl hv v2sz28 rfl (by exact ⟨rfl, rfl, rfl, trivial⟩) (fun w15 hv => ?_)
   simp only [zO, sp] at hv
   refine uW k13 (rR ?_)
   refine tR (bC 0 v2wd28 hv rfl rfl rfl rfl ?_)
   have hnf : ¬ FullV v := fun h => h.elim (fun h => hb10 h) (fun h => by have h9 := hb12; unfold sizeV at h9; rw [if_neg (fun h8 => hb10 h8)] at h9; omega)
   exact ⟨_, K', wl', _, _, _, _, _, hC, rfl, hR', .inl ⟨hnf, hK'⟩, hwl', (hv.kp [] 0 3)⟩
  refine uG (.bool false) rfl (ex_eql rfl rfl rfl (qF hb12)) (uK rfl ?_)
  refine uW k9 (cF rfl ?_)
  refine kS (tK k8 ?_)
  refine sK fun _ k16 => rL (uL (.agg #[.slice ka K.length kc, vI clk, .slice wa wl.length wc]) rfl (lM 2 v2wd28 hv rfl rfl rfl rfl) ?_)
  refine uM rfl ?_
  refine xC v2callable49 rfl ((refWithout20 B _ _ K wl ka wa kc wc xs clk hR hm hmw name hv).mono ?_) rfl
  rintro e w17 ⟨C, la, lc, lys, hC, rfl, hlok, hlr, hlys, hv⟩
  refine ⟨_, rfl, ?_⟩
  obtain ⟨L, hL⟩ : ∃ L, L = others K name := ⟨_, rfl⟩
  have hLl := others_le K name
  have hLm : ∀ x ∈ L, x ∈ K := fun x hx => others_mem (by rw [← hL]; exact hx)
  rw [← hL] at hlok hlys hLl
  rw [show (others K name).length = L.length by rw [hL]]
  refine uA rfl (uW k16 ?_)
  refine sK fun _ k18 => rL (uA rfl ?_)
  refine uW k18 (sK fun _ k19 => ?_)
  refine rL (uA rfl ?_)
  refine uW k19 (sK fun _ k20 => ?_)
  refine bB ?_
  gi_loopw [10, 11] (fun x10 x11 wr => ∃ (j : Nat) (ra : Option Addr) (rc : Nat) (ys : List Value), x10 = .slice ra j rc ∧ x11 = vI j ∧ j ≤ L.length ∧ KeysAt C (L.take j) ys ∧ (∀ x ∈ L.take j, Op.bytesLess x.name name = true) ∧ Inv C (Res.row 82 7 (.slice ra j rc) j ys :: Res.cell b6 [vN, vI 0, vN] 28 :: Res.cell b4 [vI v.kind, vS v.text, vp, vt, vz] 43 :: Res.cell b2 [.slice ka K.length kc, vI clk, .slice wa wl.length wc] 28 :: H) wr) (fun x10 x11 _ => L.length - (intOf x11).toNat)
  case atStart => exact ⟨0, none, 0, [], rfl, rfl, Nat.zero_le _, rfl, fun x hx => (by cases hx), ((((hv.front 2 rfl).front 2 rfl).front 2 rfl)).rowNil 82 7⟩
  case round =>
   obtain ⟨j, ra, rc, ys, rfl, rfl, hj, hys, hpre, hv⟩ := hrel
   refine sK fun _ k22 => sK fun _ k23 => rL (uM rfl ?_)
   refine uM rfl ?_
   refine uG (vI (L.length : Int)) rfl (ex_len0 Tryz.underlying25 rfl rfl) ?_
   by_cases hb24 : (j : Int) < (L.length : Int)
   ·obtain ⟨x, hx⟩ : ∃ x, L[j]? = some x := ⟨_, List.getElem?_eq_getElem (show j < L.length by omega)⟩
    obtain ⟨bb, bo, xp, xt, xz, had, hvalx, hrdx⟩ := KeysAt.reads hlys hlr hx
    subst had
    have hxK := hkn x (hLm x (List.mem_of_getElem? hx))
    refine uG (.bool true) rfl (ex_lss rfl rfl rfl (qT hb24)) (uM rfl ?_)
    refine uM rfl ?_
    refine uM rfl ?_
    refine uG (.pointer (some ⟨bb, bo + j * 7, none⟩)) rfl (ex_index rfl rfl rfl (run_idx (k := j) Tryz.underlying25 v2es25 (by omega))) ?_
    refine uF (.pointer (some ⟨bb, bo + j * 7, none⟩)) rfl (v2fa82_0 _ _ _) ?_
    refine uL _ rfl (run_load1 s9na9 (hrdx _ _ _ (Base.Le.refl _) no_res hv 0 _ rfl)) ?_
    refine uM rfl ?_
    refine xC v3callable50 rfl ((refLess C _ _ x.name name (by omega) hv).mono ?_) rfl
    rintro e w25 ⟨rfl, hv⟩
    refine ⟨_, rfl, uK rfl ?_⟩
    refine uW k23 (wpIn_cond_split (t := (Op.bytesLess x.name name)) rfl (fun hc26 => ?_) (fun hc26 => ?_))
    ·refine kS (tK k22 ?_)
     refine bB (sK fun _ k27 => ?_)
     refine rL (uM rfl ?_)
     refine uM rfl (uM rfl ?_)
     refine uG (.pointer (some ⟨bb, bo + j * 7, none⟩)) rfl (ex_index rfl rfl rfl (run_idx (k := j) Tryz.underlying25 v2es25 (by omega))) ?_
     refine uL (.agg #[vS x.name, vI x.val.kind, vS x.val.text, xp, xt, xz, vI x.exp]) rfl (run_loadR (cs := [vS x.name, vI x.val.kind, vS x.val.text, xp, xt, xz, vI x.exp]) v2wd82 (Reads.mid (pre := []) (mid := [vS x.name, vI x.val.kind, vS x.val.text, xp, xt, xz, vI x.exp]) (post := []) hrdx _ _ _ (Base.Le.refl _) no_res hv)) ?_
     refine sl_rowAgg (L := [vS x.name, vI x.val.kind, vS x.val.text, xp, xt, xz, vI x.exp]) tV (wn rfl) rfl rfl hv v3el25 rfl (by decide) (fun b28 w29 hv => ?_)
     simp only [zP, po]
     replace hv := hv.front 1 rfl
     simp only [eS, eZ] at hv
     refine sl_append (news := [vS x.name, vI x.val.kind, vS x.val.text, xp, xt, xz, vI x.exp]) tV (wn rfl) rfl rfl rfl v3el25 hv (ok_full (by omega)) rfl (rd_all (hv.get 1 rfl)) (krCells_one (v := x) hvalx) (by unfold maxLen; omega) (by omega) (fun rv30 w33 hv => ?_)
     obtain ⟨ra31, rc32, rfl⟩ := row_slice hv.head
     refine uA rfl (uW k27 ?_)
     refine rL (uM rfl ?_)
     refine uG (vI ((j + 1 : Nat) : Int)) rfl (ex_add rfl rfl rfl (by rw [i64_in (by omega)]; omega)) (uA rfl ?_)
     refine uZ (bN ?_)
     refine then_normal ?_
     go_roundw
     case rel => exact ⟨j + 1, _, _, _, rfl, rfl, by omega, KeysAt.next hys hx hvalx, take_all_next hx hpre hc26, (hv.kp [4, 4, 4, 3] 4 1)⟩
     case measure => show L.length - (((j + 1 : Nat) : Int)).toNat < L.length - ((j : Int)).toNat; omega
    refine xE (tX ?_)
    refine tX (bH ?_)
    refine tK k20 (sK fun _ k34 => ?_)
    have hstop : ∀ x, L[j]? = some x → Op.bytesLess x.name name = false := by
     intro x9 hx9
     rw [hx] at hx9; cases hx9; exact hc26
    refine rL (uM rfl ?_)
    refine uM rfl ?_
    refine uL (.agg #[vI v.kind, vS v.text, vp, vt, vz]) rfl (lM 2 s1wd43 hv rfl rfl rfl rfl) (uM rfl ?_)
    refine uG (.agg #[vS name, vI v.kind, vS v.text, vp, vt, vz, vI exp]) rfl (ex_buildN (vs := #[(0, vS name), (1, .agg #[vI v.kind, vS v.text, vp, vt, vz]), (2, vI exp)]) rfl (by simp only [List.map_toArray, List.map_cons, List.map_nil]; rfl) (by kernel_rfl)) ?_
    refine sl_rowAgg (L := [vS name, vI v.kind, vS v.text, vp, vt, vz, vI exp]) tV (wn rfl) rfl rfl hv v3el25 rfl (by decide) (fun b35 w36 hv => ?_)
    simp only [zP, po]
    replace hv := hv.front 1 rfl
    simp only [eS, eZ] at hv
    refine sl_append (news := [vS name, vI v.kind, vS v.text, vp, vt, vz, vI exp]) tV (wn rfl) rfl rfl rfl v3el25 hv (ok_full (by omega)) rfl (rd_all (hv.get 1 rfl)) (krCells_one (v := ⟨name, v, exp⟩) hval) (by unfold maxLen; omega) (by omega) (fun rv37 w40 hv => ?_)
    obtain ⟨ra38, rc39, rfl⟩ := row_slice hv.head
    refine uA rfl (uW k34 ?_)
    refine sK fun _ k41 => ?_
    obtain ⟨a3, c3, ha3, ok3, hr3⟩ := sliced_fromV 7 hlok hlr hlys.len hj (by decide)
    refine rW mixed [4, 9, 11] [0,1,2,3,5,6,7,8,4,9,10,11] 66 rfl (by kernel_rfl) hv ?_
    simp only [qm, opAt]
    refine dM (.slice ra38 (j + 1) rc39) rfl (dM (.slice (some ⟨bb, bo, none⟩) L.length lc) rfl ?_)
    refine dM (vI j) rfl ?_
    simp only [zP, po]
    refine dG (.slice a3 (L.length - j) c3) rfl (ex_slice (lo' := some (vI j)) rfl rfl (congrArg some rfl) rfl rfl ((run_fromAny Tryz.underlying25 v2es25 (by omega)).trans (by rw [ha3]))) (dG (.pointer (some ⟨b2, 1, none⟩)) rfl (ex_field rfl rfl (v2fa28_1 _ _ _)) ?_)
    refine dF _ rfl (fun hv => ex_load rfl rfl (run_load1 s2na3 (hv.load 4 1 rfl rfl))) fun f42 hf42 => ?_
    simp only [zP, po]
    refine dF (.agg #[.slice ka K.length kc, vI clk, .slice wa wl.length wc]) rfl (fun hv => ex_load rfl rfl (lM 4 v2wd28 hv rfl rfl rfl rfl)) fun f43 hf43 => dM (vS name) rfl (dS rfl fun w44 hv => ?_)
    refine mem_append (news := lys.drop (j * 7)) rfl rfl rfl rfl v3el25 hv ok3 (by rw [List.length_drop, hlys.len, Nat.sub_mul]) ((hr3.more (Base.Le.refl _) (fun _ h => by cases h) : RdV C _ _ _).src hv) ((hlys.drop j).one) (by unfold maxLen; omega) (by omega) (fun rv45 w48 hv => ?_)
    obtain ⟨ra46, rc47, rfl⟩ := row_slice hv.head
    refine dV hv (fC (fun ww hv => hf43 ww ?_) (fC (fun ww hv => hf42 ww (ex_load rfl rfl (run_load1 s2na3 (hv.load 4 1 rfl rfl)))) fN)) ?_
    ·exact ex_load rfl rfl (lM 4 v2wd28 hv rfl rfl rfl rfl)
    simp only [zP, po]
    refine dS rfl fun w49 hv => mC v2callable51 rfl ((refWrote20 C _ _ K wl ka wa kc wc xs clk (hR.more hC) hm hmw name hv).mono ?_) rfl
    rintro e w50 ⟨D, ya, yc, hD, rfl, hyok, hyr, hv⟩
    refine ⟨_, rfl, dV hv (fK rfl (fC (fun ww hv => hf42 ww (ex_load rfl rfl (run_load1 s2na3 (hv.load 4 1 rfl rfl)))) fN)) ?_⟩
    refine dG (.agg #[.slice ra46 ((j + 1) + (L.length - j)) rc47, vI clk, .slice ya (wl.length + 1) yc]) rfl (ex_buildN (vs := #[(0, .slice ra46 ((j + 1) + (L.length - j)) rc47), (1, vI clk), (2, .slice ya (wl.length + 1) yc)]) rfl (by simp only [List.map_toArray, List.map_cons, List.map_nil]; rfl) (by kernel_rfl)) (dS rfl fun w51 hv => ?_)
    refine mS 2 rfl hv v2sz28 rfl (by exact ⟨rfl, rfl, rfl, trivial⟩) (fun w52 hv => ?_)
    simp only [zS, zO, sp] at hv
    refine dV hv (fK rfl (fK rfl fN)) (dE fun w53 hv => ?_)
    simp only [zP, po]
    refine tK k41 (rR ?_)
    refine bC 2 v2wd28 hv rfl rfl rfl rfl ?_
    have hf : FullV v := .inr (by have h9 := hb12; unfold sizeV at h9; rw [if_neg (fun h8 => hb10 h8)] at h9; omega)
    obtain ⟨E, hE, hv2, hr2, hok2, -⟩ := ((hv.sub (sC _ (sD _ (sD _ (sD _ (sD _ (sR _)))))))).rowBy
    have hkl : (L.take j ++ (⟨name, v, exp⟩ : KeyR) :: L.drop j).length = (j + 1) + (L.length - j) := by
     rw [List.length_append, List.length_cons, List.length_take, List.length_drop]; omega
    have hat : KeysAt E (L.take j ++ (⟨name, v, exp⟩ : KeyR) :: L.drop j) ((ys ++ [vS name, vI v.kind, vS v.text, vp, vt, vz, vI exp]) ++ (lys.drop (j * 7))) := by
     rw [show L.take j ++ (⟨name, v, exp⟩ : KeyR) :: L.drop j = (L.take j ++ [⟨name, v, exp⟩]) ++ L.drop j by simp]
     exact KeysAt.append ((hlys.drop j).more (hD.trans hE)) (KeysAt.append (KeysAt.single (hval.more ((hC.trans hD).trans hE))) (hys.more (hD.trans hE)))
    rw [← hkl] at hok2
    exact ⟨E, _, wl ++ [name], _, _, _, _, _, ((hC.trans hD).trans hE), by rw [hkl, List.length_append]; rfl, ⟨hok2, hr2, hat, by rw [List.length_append]; exact hyok, hyr.more hE (fun _ h => h)⟩, .inr ⟨hf, j, by rw [← hL]; exact hj, by rw [← hL], by rw [← hL]; exact hpre, by rw [← hL]; exact hstop⟩, by rw [List.length_append]; exact Nat.le_refl _, hv2⟩
   refine uG (.bool false) rfl (ex_lss rfl rfl rfl (qF hb24)) (uM rfl ?_)
   iterate 7 refine uP rfl ?_
   refine uK rfl (uW k23 ?_)
   refine cF rfl (xE ?_)
   refine tX (tX ?_)
   refine bH (tK k20 ?_)
   refine sK fun _ k54 => ?_
   have hstop : ∀ x, L[j]? = some x → Op.bytesLess x.name name = false := by
    intro x9 hx9
    have h9 := (List.getElem?_eq_some_iff.1 hx9).1; omega
   refine rL (uM rfl ?_)
   refine uM rfl ?_
   refine uL (.agg #[vI v.kind, vS v.text, vp, vt, vz]) rfl (lM 2 s1wd43 hv rfl rfl rfl rfl) (uM rfl ?_)
   refine uG (.agg #[vS name, vI v.kind, vS v.text, vp, vt, vz, vI exp]) rfl (ex_buildN (vs := #[(0, vS name), (1, .agg #[vI v.kind, vS v.text, vp, vt, vz]), (2, vI exp)]) rfl (by simp only [List.map_toArray, List.map_cons, List.map_nil]; rfl) (by kernel_rfl)) ?_
   refine sl_rowAgg (L := [vS name, vI v.kind, vS v.text, vp, vt, vz, vI exp]) tV (wn rfl) rfl rfl hv v3el25 rfl (by decide) (fun b55 w56 hv => ?_)
   simp only [zP, po]
   replace hv := hv.front 1 rfl
   simp only [eS, eZ] at hv
   refine sl_append (news := [vS name, vI v.kind, vS v.text, vp, vt, vz, vI exp]) tV (wn rfl) rfl rfl rfl v3el25 hv (ok_full (by omega)) rfl (rd_all (hv.get 1 rfl)) (krCells_one (v := ⟨name, v, exp⟩) hval) (by unfold maxLen; omega) (by omega) (fun rv57 w60 hv => ?_)
   obtain ⟨ra58, rc59, rfl⟩ := row_slice hv.head
   refine uA rfl (uW k54 ?_)
   refine sK fun _ k61 => ?_
   obtain ⟨a3, c3, ha3, ok3, hr3⟩ := sliced_fromV 7 hlok hlr hlys.len hj (by decide)
   refine rW mixed [4, 9, 11] [0,1,2,3,5,6,7,8,4,9,10,11] 66 rfl (by kernel_rfl) hv ?_
   simp only [qm, opAt]
   refine dM (.slice ra58 (j + 1) rc59) rfl (dM (.slice la L.length lc) rfl ?_)
   refine dM (vI j) rfl ?_
   simp only [zP, po]
   refine dG (.slice a3 (L.length - j) c3) rfl (ex_slice (lo' := some (vI j)) rfl rfl (congrArg some rfl) rfl rfl ((run_fromAny Tryz.underlying25 v2es25 (by omega)).trans (by rw [ha3]))) (dG (.pointer (some ⟨b2, 1, none⟩)) rfl (ex_field rfl rfl (v2fa28_1 _ _ _)) ?_)
   refine dF _ rfl (fun hv => ex_load rfl rfl (run_load1 s2na3 (hv.load 4 1 rfl rfl))) fun f62 hf62 => ?_
   simp only [zP, po]
   refine dF (.agg #[.slice ka K.length kc, vI clk, .slice wa wl.length wc]) rfl (fun hv => ex_load rfl rfl (lM 4 v2wd28 hv rfl rfl rfl rfl)) fun f63 hf63 => dM (vS name) rfl (dS rfl fun w64 hv => ?_)
   refine mem_append (news := lys.drop (j * 7)) rfl rfl rfl rfl v3el25 hv ok3 (by rw [List.length_drop, hlys.len, Nat.sub_mul]) ((hr3.more (Base.Le.refl _) (fun _ h => by cases h) : RdV C _ _ _).src hv) ((hlys.drop j).one) (by unfold maxLen; omega) (by omega) (fun rv65 w68 hv => ?_)
   obtain ⟨ra66, rc67, rfl⟩ := row_slice hv.head
   refine dV hv (fC (fun ww hv => hf63 ww ?_) (fC (fun ww hv => hf62 ww (ex_load rfl rfl (run_load1 s2na3 (hv.load 4 1 rfl rfl)))) fN)) ?_
   ·exact ex_load rfl rfl (lM 4 v2wd28 hv rfl rfl rfl rfl)
   simp only [zP, po]
   refine dS rfl fun w69 hv => mC v2callable51 rfl ((refWrote20 C _ _ K wl ka wa kc wc xs clk (hR.more hC) hm hmw name hv).mono ?_) rfl
   rintro e w70 ⟨D, ya, yc, hD, rfl, hyok, hyr, hv⟩
   refine ⟨_, rfl, dV hv (fK rfl (fC (fun ww hv => hf62 ww (ex_load rfl rfl (run_load1 s2na3 (hv.load 4 1 rfl rfl)))) fN)) ?_⟩
   refine dG (.agg #[.slice ra66 ((j + 1) + (L.length - j)) rc67, vI clk, .slice ya (wl.length + 1) yc]) rfl (ex_buildN (vs := #[(0, .slice ra66 ((j + 1) + (L.length - j)) rc67), (1, vI clk), (2, .slice ya (wl.length + 1) yc)]) rfl (by simp only [List.map_toArray, List.map_cons, List.map_nil]; rfl) (by kernel_rfl)) (dS rfl fun w71 hv => ?_)
   refine mS 2 rfl hv v2sz28 rfl (by exact ⟨rfl, rfl, rfl, trivial⟩) (fun w72 hv => ?_)
   simp only [zS, zO, sp] at hv
   refine dV hv (fK rfl (fK rfl fN)) (dE fun w73 hv => ?_)
   simp only [zP, po]
   refine tK k61 (rR ?_)
   refine bC 2 v2wd28 hv rfl rfl rfl rfl ?_
   have hf : FullV v := .inr (by have h9 := hb12; unfold sizeV at h9; rw [if_neg (fun h8 => hb10 h8)] at h9; omega)
   obtain ⟨E, hE, hv2, hr2, hok2, -⟩ := ((hv.sub (sC _ (sD _ (sD _ (sD _ (sD _ (sR _)))))))).rowBy
   have hkl : (L.take j ++ (⟨name, v, exp⟩ : KeyR) :: L.drop j).length = (j + 1) + (L.length - j) := by
    rw [List.length_append, List.length_cons, List.length_take, List.length_drop]; omega
   have hat : KeysAt E (L.take j ++ (⟨name, v, exp⟩ : KeyR) :: L.drop j) ((ys ++ [vS name, vI v.kind, vS v.text, vp, vt, vz, vI exp]) ++ (lys.drop (j * 7))) := by
    rw [show L.take j ++ (⟨name, v, exp⟩ : KeyR) :: L.drop j = (L.take j ++ [⟨name, v, exp⟩]) ++ L.drop j by simp]
    exact KeysAt.append ((hlys.drop j).more (hD.trans hE)) (KeysAt.append (KeysAt.single (hval.more ((hC.trans hD).trans hE))) (hys.more (hD.trans hE)))
   rw [← hkl] at hok2
   exact ⟨E, _, wl ++ [name], _, _, _, _, _, ((hC.trans hD).trans hE), by rw [hkl, List.length_append]; rfl, ⟨hok2, hr2, hat, by rw [List.length_append]; exact hyok, hyr.more hE (fun _ h => h)⟩, .inr ⟨hf, j, by rw [← hL]; exact hj, by rw [← hL], by rw [← hL]; exact hpre, by rw [← hL]; exact hstop⟩, by rw [List.length_append]; exact Nat.le_refl _, hv2⟩
 refine uG (.bool false) rfl (ex_neq rfl rfl rfl (qF hb10)) (uM rfl ?_)
 iterate 3 refine uP rfl ?_
 refine uK rfl (uW k9 ?_)
 refine cF rfl (kS ?_)
 refine tK k8 (sK fun _ k74 => ?_)
 refine rL (uL (.agg #[.slice ka K.length kc, vI clk, .slice wa wl.length wc]) rfl (lM 2 v2wd28 hv rfl rfl rfl rfl) ?_)
 refine uM rfl ?_
 refine xC v2callable49 rfl ((refWithout20 B _ _ K wl ka wa kc wc xs clk hR hm hmw name hv).mono ?_) rfl
 rintro e w75 ⟨C, la, lc, lys, hC, rfl, hlok, hlr, hlys, hv⟩
 refine ⟨_, rfl, ?_⟩
 obtain ⟨L, hL⟩ : ∃ L, L = others K name := ⟨_, rfl⟩
 have hLl := others_le K name
 have hLm : ∀ x ∈ L, x ∈ K := fun x hx => others_mem (by rw [← hL]; exact hx)
 rw [← hL] at hlok hlys hLl
 rw [show (others K name).length = L.length by rw [hL]]
 refine uA rfl (uW k74 ?_)
 refine sK fun _ k76 => rL (uA rfl ?_)
 refine uW k76 (sK fun _ k77 => ?_)
 refine rL (uA rfl ?_)
 refine uW k77 (sK fun _ k78 => ?_)
 refine bB ?_
 gi_loopw [10, 11] (fun x10 x11 wr => ∃ (j : Nat) (ra : Option Addr) (rc : Nat) (ys : List Value), x10 = .slice ra j rc ∧ x11 = vI j ∧ j ≤ L.length ∧ KeysAt C (L.take j) ys ∧ (∀ x ∈ L.take j, Op.bytesLess x.name name = true) ∧ Inv C (Res.row 82 7 (.slice ra j rc) j ys :: Res.cell b6 [vN, vI 0, vN] 28 :: Res.cell b4 [vI v.kind, vS v.text, vp, vt, vz] 43 :: Res.cell b2 [.slice ka K.length kc, vI clk, .slice wa wl.length wc] 28 :: H) wr) (fun x10 x11 _ => L.length - (intOf x11).toNat)
 case atStart => exact ⟨0, none, 0, [], rfl, rfl, Nat.zero_le _, rfl, fun x hx => (by cases hx), ((((hv.front 2 rfl).front 2 rfl).front 2 rfl)).rowNil 82 7⟩
 case round =>
  obtain ⟨j, ra, rc, ys, rfl, rfl, hj, hys, hpre, hv⟩ := hrel
  refine sK fun _ k80 => sK fun _ k81 => rL (uM rfl ?_)
  refine uM rfl ?_
  refine uG (vI (L.length : Int)) rfl (ex_len0 Tryz.underlying25 rfl rfl) ?_
  by_cases hb82 : (j : Int) < (L.length : Int)
  ·obtain ⟨x, hx⟩ : ∃ x, L[j]? = some x := ⟨_, List.getElem?_eq_getElem (show j < L.length by omega)⟩
   obtain ⟨bb, bo, xp, xt, xz, had, hvalx, hrdx⟩ := KeysAt.reads hlys hlr hx
   subst had
   have hxK := hkn x (hLm x (List.mem_of_getElem? hx))
   refine uG (.bool true) rfl (ex_lss rfl rfl rfl (qT hb82)) (uM rfl ?_)
   refine uM rfl ?_
   refine uM rfl ?_
   refine uG (.pointer (some ⟨bb, bo + j * 7, none⟩)) rfl (ex_index rfl rfl rfl (run_idx (k := j) Tryz.underlying25 v2es25 (by omega))) ?_
   refine uF (.pointer (some ⟨bb, bo + j * 7, none⟩)) rfl (v2fa82_0 _ _ _) ?_
   refine uL _ rfl (run_load1 s9na9 (hrdx _ _ _ (Base.Le.refl _) no_res hv 0 _ rfl)) ?_
   refine uM rfl ?_
   refine xC v3callable50 rfl ((refLess C _ _ x.name name (by omega) hv).mono ?_) rfl
   rintro e w83 ⟨rfl, hv⟩
   refine ⟨_, rfl, uK rfl ?_⟩
   refine uW k81 (wpIn_cond_split (t := (Op.bytesLess x.name name)) rfl (fun hc84 => ?_) (fun hc84 => ?_))
   ·refine kS (tK k80 ?_)
    refine bB (sK fun _ k85 => ?_)
    refine rL (uM rfl ?_)
    refine uM rfl (uM rfl ?_)
    refine uG (.pointer (some ⟨bb, bo + j * 7, none⟩)) rfl (ex_index rfl rfl rfl (run_idx (k := j) Tryz.underlying25 v2es25 (by omega))) ?_
    refine uL (.agg #[vS x.name, vI x.val.kind, vS x.val.text, xp, xt, xz, vI x.exp]) rfl (run_loadR (cs := [vS x.name, vI x.val.kind, vS x.val.text, xp, xt, xz, vI x.exp]) v2wd82 (Reads.mid (pre := []) (mid := [vS x.name, vI x.val.kind, vS x.val.text, xp, xt, xz, vI x.exp]) (post := []) hrdx _ _ _ (Base.Le.refl _) no_res hv)) ?_
    refine sl_rowAgg (L := [vS x.name, vI x.val.kind, vS x.val.text, xp, xt, xz, vI x.exp]) tV (wn rfl) rfl rfl hv v3el25 rfl (by decide) (fun b86 w87 hv => ?_)
    simp only [zP, po]
    replace hv := hv.front 1 rfl
    simp only [eS, eZ] at hv
    refine sl_append (news := [vS x.name, vI x.val.kind, vS x.val.text, xp, xt, xz, vI x.exp]) tV (wn rfl) rfl rfl rfl v3el25 hv (ok_full (by omega)) rfl (rd_all (hv.get 1 rfl)) (krCells_one (v := x) hvalx) (by unfold maxLen; omega) (by omega) (fun rv88 w91 hv => ?_)
    obtain ⟨ra89, rc90, rfl⟩ := row_slice hv.head
    refine uA rfl (uW k85 ?_)
    refine rL (uM rfl ?_)
    refine uG (vI ((j + 1 : Nat) : Int)) rfl (ex_add rfl rfl rfl (by rw [i64_in (by omega)]; omega)) (uA rfl ?_)
    refine uZ (bN ?_)
    refine then_normal ?_
    go_roundw
    case rel => exact ⟨j + 1, _, _, _, rfl, rfl, by omega, KeysAt.next hys hx hvalx, take_all_next hx hpre hc84, (hv.kp [4, 4, 4, 3] 4 1)⟩
    case measure => show L.length - (((j + 1 : Nat) : Int)).toNat < L.length - ((j : Int)).toNat; omega
   refine xE (tX ?_)
   refine tX (bH ?_)
   refine tK k78 (sK fun _ k92 => ?_)
   have hstop : ∀ x, L[j]? = some x → Op.bytesLess x.name name = false := by
    intro x9 hx9
    rw [hx] at hx9; cases hx9; exact hc84
   refine rL (uM rfl ?_)
   refine uM rfl ?_
   refine uL (.agg #[vI v.kind, vS v.text, vp, vt, vz]) rfl (lM 2 s1wd43 hv rfl rfl rfl rfl) (uM rfl ?_)
   refine uG (.agg #[vS name, vI v.kind, vS v.text, vp, vt, vz, vI exp]) rfl (ex_buildN (vs := #[(0, vS name), (1, .agg #[vI v.kind, vS v.text, vp, vt, vz]), (2, vI exp)]) rfl (by simp only [List.map_toArray, List.map_cons, List.map_nil]; rfl) (by kernel_rfl)) ?_
   refine sl_rowAgg (L := [vS name, vI v.kind, vS v.text, vp, vt, vz, vI exp]) tV (wn rfl) rfl rfl hv v3el25 rfl (by decide) (fun b93 w94 hv => ?_)
   simp only [zP, po]
   replace hv := hv.front 1 rfl
   simp only [eS, eZ] at hv
   refine sl_append (news := [vS name, vI v.kind, vS v.text, vp, vt, vz, vI exp]) tV (wn rfl) rfl rfl rfl v3el25 hv (ok_full (by omega)) rfl (rd_all (hv.get 1 rfl)) (krCells_one (v := ⟨name, v, exp⟩) hval) (by unfold maxLen; omega) (by omega) (fun rv95 w98 hv => ?_)
   obtain ⟨ra96, rc97, rfl⟩ := row_slice hv.head
   refine uA rfl (uW k92 ?_)
   refine sK fun _ k99 => ?_
   obtain ⟨a3, c3, ha3, ok3, hr3⟩ := sliced_fromV 7 hlok hlr hlys.len hj (by decide)
   refine rW mixed [4, 9, 11] [0,1,2,3,5,6,7,8,4,9,10,11] 66 rfl (by kernel_rfl) hv ?_
   simp only [qm, opAt]
   refine dM (.slice ra96 (j + 1) rc97) rfl (dM (.slice (some ⟨bb, bo, none⟩) L.length lc) rfl ?_)
   refine dM (vI j) rfl ?_
   simp only [zP, po]
   refine dG (.slice a3 (L.length - j) c3) rfl (ex_slice (lo' := some (vI j)) rfl rfl (congrArg some rfl) rfl rfl ((run_fromAny Tryz.underlying25 v2es25 (by omega)).trans (by rw [ha3]))) (dG (.pointer (some ⟨b2, 1, none⟩)) rfl (ex_field rfl rfl (v2fa28_1 _ _ _)) ?_)
   refine dF _ rfl (fun hv => ex_load rfl rfl (run_load1 s2na3 (hv.load 4 1 rfl rfl))) fun f100 hf100 => ?_
   simp only [zP, po]
   refine dF (.agg #[.slice ka K.length kc, vI clk, .slice wa wl.length wc]) rfl (fun hv => ex_load rfl rfl (lM 4 v2wd28 hv rfl rfl rfl rfl)) fun f101 hf101 => dM (vS name) rfl (dS rfl fun w102 hv => ?_)
   refine mem_append (news := lys.drop (j * 7)) rfl rfl rfl rfl v3el25 hv ok3 (by rw [List.length_drop, hlys.len, Nat.sub_mul]) ((hr3.more (Base.Le.refl _) (fun _ h => by cases h) : RdV C _ _ _).src hv) ((hlys.drop j).one) (by unfold maxLen; omega) (by omega) (fun rv103 w106 hv => ?_)
   obtain ⟨ra104, rc105, rfl⟩ := row_slice hv.head
   refine dV hv (fC (fun ww hv => hf101 ww ?_) (fC (fun ww hv => hf100 ww (ex_load rfl rfl (run_load1 s2na3 (hv.load 4 1 rfl rfl)))) fN)) ?_
   ·exact ex_load rfl rfl (lM 4 v2wd28 hv rfl rfl rfl rfl)
   simp only [zP, po]
   refine dS rfl fun w107 hv => mC v2callable51 rfl ((refWrote20 C _ _ K wl ka wa kc wc xs clk (hR.more hC) hm hmw name hv).mono ?_) rfl
   rintro e w108 ⟨D, ya, yc, hD, rfl, hyok, hyr, hv⟩
   refine ⟨_, rfl, dV hv (fK rfl (fC (fun ww hv => hf100 ww (ex_load rfl rfl (run_load1 s2na3 (hv.load 4 1 rfl rfl)))) fN)) ?_⟩
   refine dG (.agg #[.slice ra104 ((j + 1) + (L.length - j)) rc105, vI clk, .slice ya (wl.length + 1) yc]) rfl (ex_buildN (vs := #[(0, .slice ra104 ((j + 1) + (L.length - j)) rc105), (1, vI clk), (2, .slice ya (wl.length + 1) yc)]) rfl (by simp only [List.map_toArray, List.map_cons, List.map_nil]; rfl) (by kernel_rfl)) (dS rfl fun w109 hv => ?_)
   refine mS 2 rfl hv v2sz28 rfl (by exact ⟨rfl, rfl, rfl, trivial⟩) (fun w110 hv => ?_)
   simp only [zS, zO, sp] at hv
   refine dV hv (fK rfl (fK rfl fN)) (dE fun w111 hv => ?_)
   simp only [zP, po]
   refine tK k99 (rR ?_)
   refine bC 2 v2wd28 hv rfl rfl rfl rfl ?_
   have hf : FullV v := .inl (by omega)
   obtain ⟨E, hE, hv2, hr2, hok2, -⟩ := ((hv.sub (sC _ (sD _ (sD _ (sD _ (sD _ (sR _)))))))).rowBy
   have hkl : (L.take j ++ (⟨name, v, exp⟩ : KeyR) :: L.drop j).length = (j + 1) + (L.length - j) := by
    rw [List.length_append, List.length_cons, List.length_take, List.length_drop]; omega
   have hat : KeysAt E (L.take j ++ (⟨name, v, exp⟩ : KeyR) :: L.drop j) ((ys ++ [vS name, vI v.kind, vS v.text, vp, vt, vz, vI exp]) ++ (lys.drop (j * 7))) := by
    rw [show L.take j ++ (⟨name, v, exp⟩ : KeyR) :: L.drop j = (L.take j ++ [⟨name, v, exp⟩]) ++ L.drop j by simp]
    exact KeysAt.append ((hlys.drop j).more (hD.trans hE)) (KeysAt.append (KeysAt.single (hval.more ((hC.trans hD).trans hE))) (hys.more (hD.trans hE)))
   rw [← hkl] at hok2
   exact ⟨E, _, wl ++ [name], _, _, _, _, _, ((hC.trans hD).trans hE), by rw [hkl, List.length_append]; rfl, ⟨hok2, hr2, hat, by rw [List.length_append]; exact hyok, hyr.more hE (fun _ h => h)⟩, .inr ⟨hf, j, by rw [← hL]; exact hj, by rw [← hL], by rw [← hL]; exact hpre, by rw [← hL]; exact hstop⟩, by rw [List.length_append]; exact Nat.le_refl _, hv2⟩
  refine uG (.bool false) rfl (ex_lss rfl rfl rfl (qF hb82)) (uM rfl ?_)
  iterate 7 refine uP rfl ?_
  refine uK rfl (uW k81 ?_)
  refine cF rfl (xE ?_)
  refine tX (tX ?_)
  refine bH (tK k78 ?_)
  refine sK fun _ k112 => ?_
  have hstop : ∀ x, L[j]? = some x → Op.bytesLess x.name name = false := by
   intro x9 hx9
   have h9 := (List.getElem?_eq_some_iff.1 hx9).1; omega
  refine rL (uM rfl ?_)
  refine uM rfl ?_
  refine uL (.agg #[vI v.kind, vS v.text, vp, vt, vz]) rfl (lM 2 s1wd43 hv rfl rfl rfl rfl) (uM rfl ?_)
  refine uG (.agg #[vS name, vI v.kind, vS v.text, vp, vt, vz, vI exp]) rfl (ex_buildN (vs := #[(0, vS name), (1, .agg #[vI v.kind, vS v.text, vp, vt, vz]), (2, vI exp)]) rfl (by simp only [List.map_toArray, List.map_cons, List.map_nil]; rfl) (by kernel_rfl)) ?_
  refine sl_rowAgg (L := [vS name, vI v.kind, vS v.text, vp, vt, vz, vI exp]) tV (wn rfl) rfl rfl hv v3el25 rfl (by decide) (fun b113 w114 hv => ?_)
  simp only [zP, po]
  replace hv := hv.front 1 rfl
  simp only [eS, eZ] at hv
  refine sl_append (news := [vS name, vI v.kind, vS v.text, vp, vt, vz, vI exp]) tV (wn rfl) rfl rfl rfl v3el25 hv (ok_full (by omega)) rfl (rd_all (hv.get 1 rfl)) (krCells_one (v := ⟨name, v, exp⟩) hval) (by unfold maxLen; omega) (by omega) (fun rv115 w118 hv => ?_)
  obtain ⟨ra116, rc117, rfl⟩ := row_slice hv.head
  refine uA rfl (uW k112 ?_)
  refine sK fun _ k119 => ?_
  obtain ⟨a3, c3, ha3, ok3, hr3⟩ := sliced_fromV 7 hlok hlr hlys.len hj (by decide)
  refine rW mixed [4, 9, 11] [0,1,2,3,5,6,7,8,4,9,10,11] 66 rfl (by kernel_rfl) hv ?_
  simp only [qm, opAt]
  refine dM (.slice ra116 (j + 1) rc117) rfl (dM (.slice la L.length lc) rfl ?_)
  refine dM (vI j) rfl ?_
  simp only [zP, po]
  refine dG (.slice a3 (L.length - j) c3) rfl (ex_slice (lo' := some (vI j)) rfl rfl (congrArg some rfl) rfl rfl ((run_fromAny Tryz.underlying25 v2es25 (by omega)).trans (by rw [ha3]))) (dG (.pointer (some ⟨b2, 1, none⟩)) rfl (ex_field rfl rfl (v2fa28_1 _ _ _)) ?_)
  refine dF _ rfl (fun hv => ex_load rfl rfl (run_load1 s2na3 (hv.load 4 1 rfl rfl))) fun f120 hf120 => ?_
  simp only [zP, po]
  refine dF (.agg #[.slice ka K.length kc, vI clk, .slice wa wl.length wc]) rfl (fun hv => ex_load rfl rfl (lM 4 v2wd28 hv rfl rfl rfl rfl)) fun f121 hf121 => dM (vS name) rfl (dS rfl fun w122 hv => ?_)
  refine mem_append (news := lys.drop (j * 7)) rfl rfl rfl rfl v3el25 hv ok3 (by rw [List.length_drop, hlys.len, Nat.sub_mul]) ((hr3.more (Base.Le.refl _) (fun _ h => by cases h) : RdV C _ _ _).src hv) ((hlys.drop j).one) (by unfold maxLen; omega) (by omega) (fun rv123 w126 hv => ?_)
  obtain ⟨ra124, rc125, rfl⟩ := row_slice hv.head
  refine dV hv (fC (fun ww hv => hf121 ww ?_) (fC (fun ww hv => hf120 ww (ex_load rfl rfl (run_load1 s2na3 (hv.load 4 1 rfl rfl)))) fN)) ?_
  ·exact ex_load rfl rfl (lM 4 v2wd28 hv rfl rfl rfl rfl)
  simp only [zP, po]
  refine dS rfl fun w127 hv => mC v2callable51 rfl ((refWrote20 C _ _ K wl ka wa kc wc xs clk (hR.more hC) hm hmw name hv).mono ?_) rfl
  rintro e w128 ⟨D, ya, yc, hD, rfl, hyok, hyr, hv⟩
  refine ⟨_, rfl, dV hv (fK rfl (fC (fun ww hv => hf120 ww (ex_load rfl rfl (run_load1 s2na3 (hv.load 4 1 rfl rfl)))) fN)) ?_⟩
  refine dG (.agg #[.slice ra124 ((j + 1) + (L.length - j)) rc125, vI clk, .slice ya (wl.length + 1) yc]) rfl (ex_buildN (vs := #[(0, .slice ra124 ((j + 1) + (L.length - j)) rc125), (1, vI clk), (2, .slice ya (wl.length + 1) yc)]) rfl (by simp only [List.map_toArray, List.map_cons, List.map_nil]; rfl) (by kernel_rfl)) (dS rfl fun w129 hv => ?_)
  refine mS 2 rfl hv v2sz28 rfl (by exact ⟨rfl, rfl, rfl, trivial⟩) (fun w130 hv => ?_)
  simp only [zS, zO, sp] at hv
  refine dV hv (fK rfl (fK rfl fN)) (dE fun w131 hv => ?_)
  simp only [zP, po]
  refine tK k119 (rR ?_)
  refine bC 2 v2wd28 hv rfl rfl rfl rfl ?_
  have hf : FullV v := .inl (by omega)
  obtain ⟨E, hE, hv2, hr2, hok2, -⟩ := ((hv.sub (sC _ (sD _ (sD _ (sD _ (sD _ (sR _)))))))).rowBy
  have hkl : (L.take j ++ (⟨name, v, exp⟩ : KeyR) :: L.drop j).length = (j + 1) + (L.length - j) := by
   rw [List.length_append, List.length_cons, List.length_take, List.length_drop]; omega
  have hat : KeysAt E (L.take j ++ (⟨name, v, exp⟩ : KeyR) :: L.drop j) ((ys ++ [vS name, vI v.kind, vS v.text, vp, vt, vz, vI exp]) ++ (lys.drop (j * 7))) := by
   rw [show L.take j ++ (⟨name, v, exp⟩ : KeyR) :: L.drop j = (L.take j ++ [⟨name, v, exp⟩]) ++ L.drop j by simp]
   exact KeysAt.append ((hlys.drop j).more (hD.trans hE)) (KeysAt.append (KeysAt.single (hval.more ((hC.trans hD).trans hE))) (hys.more (hD.trans hE)))
  rw [← hkl] at hok2
  exact ⟨E, _, wl ++ [name], _, _, _, _, _, ((hC.trans hD).trans hE), by rw [hkl, List.length_append]; rfl, ⟨hok2, hr2, hat, by rw [List.length_append]; exact hyok, hyr.more hE (fun _ h => h)⟩, .inr ⟨hf, j, by rw [← hL]; exact hj, by rw [← hL], by rw [← hL]; exact hpre, by rw [← hL]; exact hstop⟩, by rw [List.length_append]; exact Nat.le_refl _, hv2⟩
theorem key_inj {K : List KeyR} (hd : (K.map (·.name)).Nodup) {i j : Nat} {x y : KeyR} (hx : K[i]? = some x) (hy : K[j]? = some y) (h : y.name = x.name) : j = i := by
 have h1 : (K.map (·.name))[i]? = some x.name := by rw [List.getElem?_map, hx]; rfl
 have h2 : (K.map (·.name))[j]? = some x.name := by rw [List.getElem?_map, hy, Option.map_some, h]
 exact ((List.getElem?_inj (by rw [List.length_map]; exact (List.getElem?_eq_some_iff.1 hx).1) hd).1 (h1.trans h2.symm)).symm
theorem getK_at {K : List KeyR} {clk : Int} (hd : (K.map (·.name)).Nodup) {i : Nat} {x : KeyR} (hx : K[i]? = some x) (hl : liveK clk x = true) : getK K clk x.name = some x :=
 getK_some hx rfl hl fun j y hj hy h => by have := key_inj hd hx hy h.1; omega
theorem getK_dead {K : List KeyR} {clk : Int} (hd : (K.map (·.name)).Nodup) {i : Nat} {x : KeyR} (hx : K[i]? = some x) (hl : liveK clk x = false) : getK K clk x.name = none :=
 getK_none fun j y hy h => by
  obtain rfl := key_inj hd hx hy h.1
  rw [hx] at hy; cases hy
  rw [hl] at h; cases h.2
theorem getLive (w : World) (K : List KeyR) (wl : List (List UInt8)) (ka wa : Option Addr) (kc wc : Nat) (xs : List Value) (clk : Int) (hR : RefV (Base.of w) K wl ka wa kc wc xs) (hm : K.length ≤ 10000) (hmw : wl.length ≤ 10000) (hdis : (K.map (·.name)).Nodup)
  (i : Nat) (x : KeyR) (xp xt xz : Value) (hx : K[i]? = some x) (hlv : liveK clk x = true) (hcs : (xs.drop (i * 7)).take 7 = krCells x xp xt xz) :
  Calls Tryz.prog 32 #[.agg #[.slice ka K.length kc, vI clk, .slice wa wl.length wc], vS x.name] w fun e w' => e = .returned (.tuple #[.agg (krCells x xp xt xz).toArray, .bool true]) ∧ Ext w w' := by
 have hg := getK_at hdis hx hlv
 refine (refGet20 (Base.of w) [] w K wl ka wa kc wc xs clk hR hm hmw x.name (Inv.start w)).mono ?_
 rintro e w' ⟨x2, p9, t9, z9, ok9, rfl, hor, -, hi9⟩
 rcases hor with ⟨rfl, h1, i9, hi8, hc⟩ | ⟨-, -, h1, -⟩
 ·rw [hg] at h1
  cases h1
  obtain rfl := key_inj hdis hx hi8 rfl
  rw [hcs] at hc
  simp only [krCells, List.cons.injEq, and_true, true_and] at hc
  obtain ⟨rfl, rfl, rfl⟩ := hc
  exact ⟨rfl, ext_of hi9⟩
 rw [hg] at h1; cases h1
theorem getDead (w : World) (K : List KeyR) (wl : List (List UInt8)) (ka wa : Option Addr) (kc wc : Nat) (xs : List Value) (clk : Int) (hR : RefV (Base.of w) K wl ka wa kc wc xs) (hm : K.length ≤ 10000) (hmw : wl.length ≤ 10000) (hdis : (K.map (·.name)).Nodup)
  (i : Nat) (x : KeyR) (hx : K[i]? = some x) (hlv : liveK clk x = false) :
  Calls Tryz.prog 32 #[.agg #[.slice ka K.length kc, vI clk, .slice wa wl.length wc], vS x.name] w fun e w' => e = .returned (.tuple #[.agg (krCells zkey (vN) (vN) (vN)).toArray, .bool false]) ∧ Ext w w' := by
 have hg := getK_dead hdis hx hlv
 refine (refGet20 (Base.of w) [] w K wl ka wa kc wc xs clk hR hm hmw x.name (Inv.start w)).mono ?_
 rintro e w' ⟨x2, p9, t9, z9, ok9, rfl, hor, -, hi9⟩
 rcases hor with ⟨-, h1, -⟩ | ⟨rfl, rfl, -, rfl, rfl, rfl⟩
 ·rw [hg] at h1; cases h1
 exact ⟨rfl, ext_of hi9⟩
def namesR (K : List KeyR) (clk : Int) : List (List UInt8) := (K.filter (liveK clk)).map (·.name)
theorem namesR_yes {K : List KeyR} {clk : Int} {i : Nat} {x : KeyR} (hx : K[i]? = some x) (h : liveK clk x = true) : namesR (K.take (i + 1)) clk = namesR (K.take i) clk ++ [x.name] := by
 unfold namesR; rw [take_next hx, List.filter_append, List.map_append]; simp [h]
theorem namesR_no {K : List KeyR} {clk : Int} {i : Nat} {x : KeyR} (hx : K[i]? = some x) (h : liveK clk x = false) : namesR (K.take (i + 1)) clk = namesR (K.take i) clk := by
 unfold namesR; rw [take_next hx, List.filter_append, List.map_append]; simp [h]
theorem namesR_le (K : List KeyR) (clk : Int) : (namesR K clk).length ≤ K.length := by
 unfold namesR; rw [List.length_map]; exact List.length_filter_le _ _
theorem v4al82 : AL Tryz.prog 82 [vS [], vI 0, vS [], vN, vN, vN, vI 0] := fun w => by kernel_rfl
theorem v4mk9 : (Tryz.prog.info? 9).map (fun i => (i.zero, i.size, i.bytes)) = some (some (vS []), 1, 16) := by kernel_rfl
theorem v4el26 : Elem Tryz.prog 26 9 (vS []) 1 16 := elem_of Tryz.underlying26 v4mk9 (by rfl) (by decide)
theorem refNames20 (B : Base) (H : List Res) (w : World) (K : List KeyR) (wl : List (List UInt8)) (ka wa : Option Addr) (kc wc : Nat) (xs : List Value) (clk : Int) (hR : RefV B K wl ka wa kc wc xs) (hm : K.length ≤ 10000) (hmw : wl.length ≤ 10000) (hdis : (K.map (·.name)).Nodup) (hv : Inv B H w) :
  Calls Tryz.prog 12 #[.agg #[.slice ka K.length kc, vI clk, .slice wa wl.length wc]] w fun e w' => ∃ C a c, B.Le C ∧ e = .returned (.slice a (namesR K clk).length c) ∧ RdV C [] a (textCells (namesR K clk)) ∧ Inv C H w' := by
 refine cW Tryz.func12 rfl Tryz.ntmps12 ?_
 simp only [al]
 refine sK fun _ k1 => rL (sl_box (L := [.slice ka K.length kc, vI clk, .slice wa wl.length wc]) tV (wn rfl) rfl rfl hv (fun w => by kernel_rfl) (fun b2 w3 hv => ?_))
 refine uA rfl (uW k1 ?_)
 refine sK fun _ k4 => rL (uA rfl ?_)
 refine uW k4 (sK fun _ k5 => ?_)
 refine sK fun _ k6 => rL (uA rfl ?_)
 refine uW k6 (bB ?_)
 gi_loopw [3, 4] (fun x3 x4 wr => ∃ (i n1 : Nat) (ra : Option Addr) (rc : Nat), x3 = .slice ra n1 rc ∧ x4 = vI i ∧ i ≤ K.length ∧ n1 = (namesR (K.take i) clk).length ∧ Inv B (Res.row 9 1 (.slice ra n1 rc) n1 (textCells (namesR (K.take i) clk)) :: Res.cell b2 [.slice ka K.length kc, vI clk, .slice wa wl.length wc] 28 :: H) wr) (fun x3 x4 _ => K.length - (intOf x4).toNat)
 case atStart => exact ⟨0, 0, none, 0, rfl, rfl, Nat.zero_le _, rfl, (hv).rowNil 9 1⟩
 case round =>
  obtain ⟨i, n1, ra, rc, rfl, rfl, hi, hn1, hv⟩ := hrel
  have hn1b := namesR_le (K.take i) clk
  rw [List.length_take] at hn1b
  refine sK fun _ k8 => sK fun _ k9 => rL (uM rfl ?_)
  refine uF (vP b2) rfl (v2fa28_0 _ _ _) ?_
  refine uL _ rfl (run_load1 v2na25 (hv.load 1 0 rfl rfl)) ?_
  refine uG (vI (K.length : Int)) rfl (ex_len0 Tryz.underlying25 rfl rfl) ?_
  by_cases hb10 : (i : Int) < (K.length : Int)
  ·refine uG (.bool true) rfl (ex_lss rfl rfl rfl (qT hb10)) (uW k9 ?_)
   refine cT rfl (kS ?_)
   refine tK k8 (sK fun _ k11 => ?_)
   refine bB (sK fun _ k12 => ?_)
   obtain ⟨x, hx⟩ : ∃ x, K[i]? = some x := ⟨_, List.getElem?_eq_getElem (show i < K.length by omega)⟩
   obtain ⟨bb, bo, xp, xt, xz, had, hvalx, hrdx, hcsx⟩ := KeysAt.reads2 hR.at_ hR.keys hx
   subst had
   cases hlv : liveK clk x
   ·refine rW mixed [11, 12] [0,1,2,3,4,5,6,7,8,9,10,11,12,13] 36 rfl (by kernel_rfl) hv ?_
    simp only [qm, opAt]
    refine dF (.agg #[.slice (some ⟨bb, bo, none⟩) K.length kc, vI clk, .slice wa wl.length wc]) rfl (fun hv => ex_load rfl rfl (lM 1 v2wd28 hv rfl rfl rfl rfl)) fun f13 hf13 => dG (vP b2) rfl (ex_field rfl rfl (v2fa28_0 _ _ _)) (dF _ rfl (fun hv => ex_load rfl rfl (run_load1 v2na25 (hv.load 1 0 rfl rfl))) fun f14 hf14 => ?_)
    simp only [zP, po]
    refine dM (vI i) rfl (dG (.pointer (some ⟨bb, bo + i * 7, none⟩)) rfl (ex_index rfl rfl rfl (run_idx (k := i) Tryz.underlying25 v2es25 (by omega))) ?_)
    refine dG (.pointer (some ⟨bb, bo + i * 7, none⟩)) rfl (ex_field rfl rfl (v2fa82_0 _ _ _)) ?_
    simp only [zP, po]
    refine dF _ rfl (fun hv => ex_load rfl rfl (run_load1 s9na9 (hrdx _ _ _ (Base.Le.refl _) no_res hv 0 _ rfl))) fun f15 hf15 => dD (.tuple #[.agg #[vS [], vI 0, vS [], vN, vN, vN, vI 0], .bool false]) v2callable32 rfl rfl (l := [.agg #[.slice (some ⟨bb, bo, none⟩) K.length kc, vI clk, .slice wa wl.length wc], vS x.name]) rfl (fun {ww} hv => getDead ww K wl (some ⟨bb, bo, none⟩) wa kc wc xs clk (hR.more (le_of hv)) hm hmw hdis i x hx hlv) fun f16 hf16 => dM (.tuple #[.agg #[vS [], vI 0, vS [], vN, vN, vN, vI 0], .bool false]) rfl ?_
    simp only [zP, po]
    refine dG (.agg #[vS [], vI 0, vS [], vN, vN, vN, vI 0]) rfl (ex_extract rfl rfl rfl) (dG (.bool false) rfl (ex_extract rfl rfl rfl) ?_)
    refine dS rfl fun w17 hv => mem_alloc rfl rfl hv v4al82 (fun b18 w19 hv => ?_)
    refine dV hv (fC (fun ww hv => hf16 ww (getDead ww K wl (some ⟨bb, bo, none⟩) wa kc wc xs clk (hR.more (le_of hv)) hm hmw hdis i x hx hlv)) (fC (fun ww hv => hf15 ww (ex_load rfl rfl (run_load1 s9na9 (hrdx _ _ _ (Base.Le.refl _) no_res hv 0 _ rfl)))) (fC (fun ww hv => hf14 ww (ex_load rfl rfl (run_load1 v2na25 (hv.load 2 0 rfl rfl)))) (fC (fun ww hv => hf13 ww ?_) fN)))) ?_
    ·exact ex_load rfl rfl (lM 2 v2wd28 hv rfl rfl rfl rfl)
    simp only [zP, po]
    refine dS rfl fun w20 hv => mS 0 rfl hv v2sz82 rfl (by exact ⟨rfl, rfl, rfl, rfl, rfl, rfl, rfl, trivial⟩) (fun w21 hv => ?_)
    simp only [zO, sp] at hv
    refine dV hv (fK rfl (fK rfl (fK rfl (fK rfl fN)))) (dA (.bool false) rfl ?_)
    refine dE fun w22 hv => ?_
    simp only [zP, po]
    refine tK k12 (sK fun _ k23 => ?_)
    refine rL (uM rfl ?_)
    refine uW k23 (cF rfl ?_)
    refine kS (bN ?_)
    refine tK k11 (rL ?_)
    refine uM rfl ?_
    refine uG (vI ((i + 1 : Nat) : Int)) rfl (ex_add rfl rfl rfl (by rw [i64_in (by omega)]; omega)) (uA rfl ?_)
    refine uZ (then_normal ?_)
    go_roundw
    case rel => exact ⟨i + 1, n1, _, _, rfl, rfl, by omega, by rw [namesR_no hx hlv, ← hn1], by rw [namesR_no hx hlv]; exact (hv.kp [2, 2] 2 1)⟩
    case measure => show K.length - (((i + 1 : Nat) : Int)).toNat < K.length - ((i : Int)).toNat; omega
   refine rW mixed [11, 12] [0,1,2,3,4,5,6,7,8,9,10,11,12,13] 36 rfl (by kernel_rfl) hv ?_
   simp only [qm, opAt]
   refine dF (.agg #[.slice (some ⟨bb, bo, none⟩) K.length kc, vI clk, .slice wa wl.length wc]) rfl (fun hv => ex_load rfl rfl (lM 1 v2wd28 hv rfl rfl rfl rfl)) fun f24 hf24 => dG (vP b2) rfl (ex_field rfl rfl (v2fa28_0 _ _ _)) (dF _ rfl (fun hv => ex_load rfl rfl (run_load1 v2na25 (hv.load 1 0 rfl rfl))) fun f25 hf25 => ?_)
   simp only [zP, po]
   refine dM (vI i) rfl (dG (.pointer (some ⟨bb, bo + i * 7, none⟩)) rfl (ex_index rfl rfl rfl (run_idx (k := i) Tryz.underlying25 v2es25 (by omega))) ?_)
   refine dG (.pointer (some ⟨bb, bo + i * 7, none⟩)) rfl (ex_field rfl rfl (v2fa82_0 _ _ _)) ?_
   simp only [zP, po]
   refine dF _ rfl (fun hv => ex_load rfl rfl (run_load1 s9na9 (hrdx _ _ _ (Base.Le.refl _) no_res hv 0 _ rfl))) fun f26 hf26 => dD (.tuple #[.agg #[vS x.name, vI x.val.kind, vS x.val.text, xp, xt, xz, vI x.exp], .bool true]) v2callable32 rfl rfl (l := [.agg #[.slice (some ⟨bb, bo, none⟩) K.length kc, vI clk, .slice wa wl.length wc], vS x.name]) rfl (fun {ww} hv => getLive ww K wl (some ⟨bb, bo, none⟩) wa kc wc xs clk (hR.more (le_of hv)) hm hmw hdis i x xp xt xz hx hlv hcsx) fun f27 hf27 => dM (.tuple #[.agg #[vS x.name, vI x.val.kind, vS x.val.text, xp, xt, xz, vI x.exp], .bool true]) rfl ?_
   simp only [zP, po]
   refine dG (.agg #[vS x.name, vI x.val.kind, vS x.val.text, xp, xt, xz, vI x.exp]) rfl (ex_extract rfl rfl rfl) (dG (.bool true) rfl (ex_extract rfl rfl rfl) ?_)
   refine dS rfl fun w28 hv => mem_alloc rfl rfl hv v4al82 (fun b29 w30 hv => ?_)
   refine dV hv (fC (fun ww hv => hf27 ww (getLive ww K wl (some ⟨bb, bo, none⟩) wa kc wc xs clk (hR.more (le_of hv)) hm hmw hdis i x xp xt xz hx hlv hcsx)) (fC (fun ww hv => hf26 ww (ex_load rfl rfl (run_load1 s9na9 (hrdx _ _ _ (Base.Le.refl _) no_res hv 0 _ rfl)))) (fC (fun ww hv => hf25 ww (ex_load rfl rfl (run_load1 v2na25 (hv.load 2 0 rfl rfl)))) (fC (fun ww hv => hf24 ww ?_) fN)))) ?_
   ·exact ex_load rfl rfl (lM 2 v2wd28 hv rfl rfl rfl rfl)
   simp only [zP, po]
   refine dS rfl fun w31 hv => mS 0 rfl hv v2sz82 rfl (by exact ⟨rfl, rfl, rfl, hvalx.p.one, hvalx.t.one, hvalx.z.one, rfl, trivial⟩) (fun w32 hv => ?_)
   simp only [zO, sp] at hv
   refine dV hv (fK rfl (fK rfl (fK rfl (fK rfl fN)))) (dA (.bool true) rfl ?_)
   refine dE fun w33 hv => ?_
   simp only [zP, po]
   refine tK k12 (sK fun _ k34 => ?_)
   refine rL (uM rfl ?_)
   refine uW k34 (cT rfl ?_)
   refine rL (uM rfl ?_)
   refine uF (vP b2) rfl (v2fa28_0 _ _ _) ?_
   refine uL _ rfl (run_load1 v2na25 (hv.load 2 0 rfl rfl)) (uM rfl ?_)
   refine uG (.pointer (some ⟨bb, bo + i * 7, none⟩)) rfl (ex_index rfl rfl rfl (run_idx (k := i) Tryz.underlying25 v2es25 (by omega))) ?_
   refine uF (.pointer (some ⟨bb, bo + i * 7, none⟩)) rfl (v2fa82_0 _ _ _) ?_
   refine uL _ rfl (run_load1 s9na9 (hrdx _ _ _ (Base.Le.refl _) no_res hv 0 _ rfl)) ?_
   refine sl_rowOne (v := vS x.name) tV (wn rfl) rfl rfl hv v4el26 rfl (fun b35 w36 hv => ?_)
   replace hv := hv.front 2 rfl
   simp only [eS, eZ] at hv
   refine sl_append (news := [vS x.name]) tV (wn rfl) rfl rfl rfl v4el26 hv (ok_full (by omega)) rfl (rd_all (hv.get 1 rfl)) (by intro u hu; simp only [List.mem_cons, List.not_mem_nil, or_false] at hu; rcases hu with rfl <;> rfl) (by unfold maxLen; omega) (by omega) (fun rv37 w40 hv => ?_)
   obtain ⟨ra38, rc39, rfl⟩ := row_slice hv.head
   refine uA rfl (uZ ?_)
   refine bN (tK k11 ?_)
   refine rL (uM rfl ?_)
   refine uG (vI ((i + 1 : Nat) : Int)) rfl (ex_add rfl rfl rfl (by rw [i64_in (by omega)]; omega)) (uA rfl ?_)
   refine uZ (then_normal ?_)
   go_roundw
   case rel => exact ⟨i + 1, n1 + 1, _, _, rfl, rfl, by omega, by rw [namesR_yes hx hlv, List.length_append, ← hn1]; rfl, by rw [namesR_yes hx hlv, textCells_app]; exact (hv.kp [3, 1] 2 2)⟩
   case measure => show K.length - (((i + 1 : Nat) : Int)).toNat < K.length - ((i : Int)).toNat; omega
  refine uG (.bool false) rfl (ex_lss rfl rfl rfl (qF hb10)) (uW k9 ?_)
  refine cF rfl (xE ?_)
  refine tX (tX ?_)
  refine bH (tK k5 ?_)
  refine sK fun _ k41 => rL (uM rfl ?_)
  refine uA rfl (uW k41 ?_)
  refine rR (bR rfl rfl ?_)
  obtain rfl : i = K.length := by omega
  rw [List.take_length] at hv hn1
  subst hn1
  obtain ⟨C, hB, hv2, hr2, hok2, -⟩ := ((hv.sub (sC _ (sD _ (sR _))))).rowBy
  exact ⟨C, _, _, hB, rfl, hr2, hv2⟩
theorem txnNamesB (B : Base) (H : List Res) (w : World) (t m s p wb : Nat) (va : Option Addr) (vc : Nat) (sv : Value) (clk : Int) (es : List (List UInt8 × Value)) (M : List (List UInt8 × Ver)) (hM : VM B es M) (hkl : ∀ k ∈ M.map (·.1), k.length ≤ 256) (hMl : M.length ≤ 1000000) (hv : Inv B (txR t m s p wb va vc sv clk es :: H) w) :
  Calls Tryz.prog 216 #[vP t] w fun e w' => ∃ C a c, B.Le C ∧ e = .returned (.slice a (namesT M clk).length c) ∧ RdV C [] a (textCells (namesT M clk)) ∧ Inv C (txR t m s p wb va vc sv clk es :: H) w' := by
 refine (txnNames B H w t m s p wb va vc sv clk es M hM hkl hMl hv).mono ?_
 rintro e w' ⟨ra, rc, rfl, hv⟩
 obtain ⟨C, hB, hv2, hr2, -, -⟩ := hv.rowBy
 exact ⟨C, ra, rc, hB, rfl, hr2, hv2⟩
def lowZ (n : Int) : Int := if 65 ≤ n ∧ n ≤ 90 then n + 32 else n
def SameC (x arg : List UInt8) : Prop := x.length = arg.length ∧ ∀ (k : Nat) (a b : UInt8), x[k]? = some a → arg[k]? = some b → lowZ (a.toNat : Int) = lowZ (b.toNat : Int)
def IsI (arg : List UInt8) (ws : List (List UInt8)) (r : Int) : Prop := (r = -1 ∧ ∀ x ∈ ws, ¬ SameC x arg) ∨ ∃ (i : Nat) (x : List UInt8), r = (i : Int) ∧ ws[i]? = some x ∧ SameC x arg ∧ ∀ (j : Nat) y, j < i → ws[j]? = some y → ¬ SameC y arg
theorem viewLow (B : Base) (H : List Res) (w : World) (n : Int) (h0 : 0 ≤ n) (h1 : n ≤ 255) (hv : Inv B H w) :
  Calls Tryz.prog 95 #[.int .u8 n] w fun e w' => e = .returned (.int .u8 (lowZ n)) ∧ Inv B H w' := by
 refine cW Tryz.func95 rfl Tryz.ntmps95 ?_
 simp only [al]
 refine sK fun _ k1 => rL (uA rfl ?_)
 refine uW k1 (sK fun _ k2 => ?_)
 refine sK fun _ k3 => rL (uM rfl ?_)
 by_cases hb4 : 65 ≤ n
 ·refine uG (.bool true) rfl (ex_leq rfl rfl rfl (qT hb4)) (uM rfl ?_)
  refine uM rfl ?_
  by_cases hb5 : n ≤ 90
  ·refine uG (.bool true) rfl (ex_leq rfl rfl rfl (qT hb5)) (uK rfl ?_)
   refine uW k3 (cT rfl ?_)
   refine sK fun _ k6 => rL (uM rfl ?_)
   refine uG (.int .u8 (n + 97)) rfl (ex_add rfl rfl rfl (u8_in (by omega))) ?_
   refine uG (.int .u8 (n + 32)) rfl (ex_sub rfl rfl rfl (by rw [u8_in (by omega)]; omega)) (uA rfl ?_)
   refine uW k6 (rR ?_)
   refine tR (bR rfl rfl ?_)
   exact ⟨congrArg (fun n : Int => Ending.returned (Value.int .u8 n)) (by unfold lowZ; split <;> omega), hv⟩
  refine uG (.bool false) rfl (ex_leq rfl rfl rfl (qF hb5)) (uK rfl ?_)
  refine uW k3 (cF rfl ?_)
  refine kS (tK k2 ?_)
  refine sK fun _ k7 => rL (uM rfl ?_)
  refine uA rfl (uW k7 ?_)
  refine rR (bR rfl rfl ?_)
  exact ⟨congrArg (fun n : Int => Ending.returned (Value.int .u8 n)) (by unfold lowZ; split <;> omega), hv⟩
 refine uG (.bool false) rfl (ex_leq rfl rfl rfl (qF hb4)) (uM rfl ?_)
 refine uP rfl ?_
 refine uP rfl (uK rfl ?_)
 refine uW k3 (cF rfl ?_)
 refine kS (tK k2 ?_)
 refine sK fun _ k8 => rL (uM rfl ?_)
 refine uA rfl (uW k8 ?_)
 refine rR (bR rfl rfl ?_)
 exact ⟨congrArg (fun n : Int => Ending.returned (Value.int .u8 n)) (by unfold lowZ; split <;> omega), hv⟩
theorem v5callable95 : Callable Tryz.prog 95 := cb Tryz.func95 (by kernel_rfl)
theorem viewIs (B : Base) (H : List Res) (w : World) (arg : List UInt8) (ka : Option Addr) (kc : Nat) (ws : List (List UInt8)) (hr : RdV B [] ka (textCells ws)) (hm : ws.length ≤ 1000000) (hma : arg.length ≤ 9223372036854775807) (hv : Inv B H w) :
  Calls Tryz.prog 75 #[vS arg, .slice ka ws.length kc] w fun e w' => ∃ r : Int, e = .returned (vI r) ∧ IsI arg ws r ∧ Inv B H w' := by
 refine cW Tryz.func75 rfl Tryz.ntmps75 ?_
 simp only [al]
 refine sK fun _ k1 => rL (uA rfl ?_)
 refine uW k1 (wpIn_scopeW ?_)
 refine sK fun _ k2 => wpIn_label (tK k2 ?_)
 refine sK fun _ k3 => sK fun _ k4 => rL (uM rfl ?_)
 refine uG (vI (ws.length : Int)) rfl (ex_len0 Tryz.underlying26 rfl rfl) (uM rfl ?_)
 refine uW k4 (bB ?_)
 gi_loopw [10] (fun x10 wr => ∃ (i : Nat), x10 = vI i ∧ i ≤ ws.length ∧ (∀ (j : Nat) y, j < i → ws[j]? = some y → ¬ SameC y arg) ∧ Inv B H wr) (fun x10 _ => ws.length - (intOf x10).toNat)
 case atStart => exact ⟨0, rfl, Nat.zero_le _, fun j y h => by omega, hv⟩
 case round =>
  obtain ⟨i, rfl, hi, hno, hv⟩ := hrel
  refine sK fun _ k6 => rL ?_
  by_cases hb7 : (i : Int) < (ws.length : Int)
  ·refine uG (.bool true) rfl (ex_lss rfl rfl rfl (qT hb7)) (uW k6 ?_)
   refine sK fun _ k8 => cT rfl (kS ?_)
   refine tK k8 (sK fun _ k9 => ?_)
   refine bB (sK fun _ k10 => ?_)
   obtain ⟨x, hx⟩ : ∃ x, ws[i]? = some x := ⟨_, List.getElem?_eq_getElem (show i < ws.length by omega)⟩
   obtain ⟨bb, bo, had, hrdx⟩ := text_reads hr hx
   subst had
   refine rL (uM rfl ?_)
   refine uG (.pointer (some ⟨bb, bo + i, none⟩)) rfl (ex_index rfl rfl rfl (run_idx1 (k := i) Tryz.underlying26 s9es26 (by omega))) ?_
   refine uL _ rfl (run_load1 s9na9 (hrdx _ _ _ (Base.Le.refl _) no_res hv 0 _ rfl)) (uA rfl ?_)
   refine uA rfl (uW k10 ?_)
   refine sK fun _ k11 => sK fun _ k12 => rL (uM rfl ?_)
   refine uG (vI (x.length : Int)) rfl (ex_lenStr Tryz.underlying9 rfl rfl) (uM rfl ?_)
   refine uG (vI (arg.length : Int)) rfl (ex_lenStr Tryz.underlying9 rfl rfl) ?_
   by_cases hb13 : (x.length : Int) ≠ (arg.length : Int)
   ·refine uG (.bool true) rfl (ex_neq rfl rfl rfl (qT hb13)) (uW k12 ?_)
    refine cT rfl (xE ?_)
    refine tX (bH ?_)
    refine tK k9 (rL ?_)
    refine uG (vI ((i + 1 : Nat) : Int)) rfl (ex_add rfl rfl rfl (by rw [i64_in (by omega)]; omega)) (uM rfl ?_)
    refine uZ (then_normal ?_)
    go_roundw
    case rel => exact ⟨i + 1, rfl, by omega, fun j9 y9 hj9 hy9 => (by
       rcases Nat.lt_or_ge j9 i with h | h
       ·exact hno j9 y9 h hy9
       obtain rfl : j9 = i := by omega
       rw [hx] at hy9; cases hy9
       exact fun h => by have h9 := h.1; omega), hv⟩
    case measure => show ws.length - (((i + 1 : Nat) : Int)).toNat < ws.length - ((i : Int)).toNat; omega
   refine uG (.bool false) rfl (ex_neq rfl rfl rfl (qF hb13)) (uW k12 ?_)
   refine cF rfl (kS ?_)
   refine tK k11 (sK fun _ k14 => ?_)
   refine sK fun _ k15 => rL (uM rfl ?_)
   refine uG (vI (x.length : Int)) rfl (ex_lenStr Tryz.underlying9 rfl rfl) (uM rfl ?_)
   refine uW k15 (bB ?_)
   gi_loopw [22] (fun x22 wr => ∃ (j : Nat), x22 = vI j ∧ j ≤ x.length ∧ (∀ (k : Nat) (a b : UInt8), k < j → x[k]? = some a → arg[k]? = some b → lowZ (a.toNat : Int) = lowZ (b.toNat : Int)) ∧ Inv B H wr) (fun x22 _ => x.length - (intOf x22).toNat)
   case atStart => exact ⟨0, rfl, Nat.zero_le _, fun k a b h => by omega, hv⟩
   case round =>
    obtain ⟨j, rfl, hj, heq, hv⟩ := hrel
    refine sK fun _ k17 => rL ?_
    by_cases hb18 : (j : Int) < (x.length : Int)
    ·refine uG (.bool true) rfl (ex_lss rfl rfl rfl (qT hb18)) (uW k17 ?_)
     refine sK fun _ k19 => cT rfl (kS ?_)
     refine tK k19 (sK fun _ k20 => ?_)
     refine bB (sK fun _ k21 => ?_)
     refine rL (uM rfl ?_)
     refine uA rfl (uW k21 ?_)
     refine sK fun _ k22 => ?_
     obtain ⟨a, ha⟩ : ∃ y, x[j]? = some y := ⟨_, List.getElem?_eq_getElem (show j < x.length by omega)⟩
     obtain ⟨b, hb⟩ : ∃ y, arg[j]? = some y := ⟨_, List.getElem?_eq_getElem (show j < arg.length by omega)⟩
     refine rW mixed [3, 7] [0,1,2,4,5,6,3,7,8] 37 rfl (by kernel_rfl) hv ?_
     simp only [qm, opAt]
     refine dM (vS x) rfl (dM (vI j) rfl ?_)
     refine dG (.int .u8 (a.toNat : Int)) rfl (ex_sidx0 Tryz.underlying9 rfl rfl rfl ha) ?_
     simp only [zP, po]
     refine dM (vS arg) rfl (dM (vI j) rfl ?_)
     refine dG (.int .u8 (b.toNat : Int)) rfl (ex_sidx0 Tryz.underlying9 rfl rfl rfl hb) ?_
     simp only [zP, po]
     refine dS rfl fun w23 hv => mC v5callable95 rfl ((viewLow B _ _ (a.toNat : Int) (by omega) (by have := a.toNat_lt; omega) hv).mono ?_) rfl
     rintro e w24 ⟨rfl, hv⟩
     refine ⟨_, rfl, dW hv ?_⟩
     refine dS rfl fun w25 hv => mC v5callable95 rfl ((viewLow B _ _ (b.toNat : Int) (by omega) (by have := b.toNat_lt; omega) hv).mono ?_) rfl
     rintro e w26 ⟨rfl, hv⟩
     refine ⟨_, rfl, dW hv ?_⟩
     by_cases hb27 : (lowZ (a.toNat : Int)) ≠ (lowZ (b.toNat : Int))
     ·refine dG (.bool true) rfl (ex_neq rfl rfl rfl (qT hb27)) (dE fun w28 hv => ?_)
      simp only [zP, po]
      refine tK k22 (cT rfl ?_)
      refine xE (bM rfl ?_)
      refine tX (tX ?_)
      refine bM rfl (tX ?_)
      refine bH (tK k9 ?_)
      refine rL (uG (vI ((i + 1 : Nat) : Int)) rfl (ex_add rfl rfl rfl (by rw [i64_in (by omega)]; omega)) ?_)
      refine uM rfl (uZ ?_)
      refine then_normal ?_
      go_roundw
      case rel => exact ⟨i + 1, rfl, by omega, fun j9 y9 hj9 hy9 => (by
         rcases Nat.lt_or_ge j9 i with h | h
         ·exact hno j9 y9 h hy9
         obtain rfl : j9 = i := by omega
         rw [hx] at hy9; cases hy9
         exact fun h => hb27 (h.2 j a b ha hb)), hv⟩
      case measure => show ws.length - (((i + 1 : Nat) : Int)).toNat < ws.length - ((i : Int)).toNat; omega
     refine dG (.bool false) rfl (ex_neq rfl rfl rfl (qF hb27)) (dE fun w29 hv => ?_)
     simp only [zP, po]
     refine tK k22 (cF rfl ?_)
     refine kS (bN ?_)
     refine tK k20 (rL ?_)
     refine uG (vI ((j + 1 : Nat) : Int)) rfl (ex_add rfl rfl rfl (by rw [i64_in (by omega)]; omega)) (uM rfl ?_)
     refine uZ (then_normal ?_)
     go_roundw
     case rel => exact ⟨j + 1, rfl, by omega, fun k9 a9 b9 hk9 ha9 hb9 => (by
        rcases Nat.lt_or_ge k9 j with h | h
        ·exact heq k9 a9 b9 h ha9 hb9
        obtain rfl : k9 = j := by omega
        rw [ha] at ha9; cases ha9
        rw [hb] at hb9; cases hb9
        omega), hv⟩
     case measure => show x.length - (((j + 1 : Nat) : Int)).toNat < x.length - ((j : Int)).toNat; omega
    refine uG (.bool false) rfl (ex_lss rfl rfl rfl (qF hb18)) (uW k17 ?_)
    refine sK fun _ k30 => cF rfl (xE ?_)
    refine tX (tX ?_)
    refine bH (tK k14 ?_)
    refine sK fun _ k31 => rL (uM rfl ?_)
    refine uA rfl (uW k31 ?_)
    refine rR (bZ ?_)
    refine tR (tR ?_)
    refine bZ (tR ?_)
    refine scope_ret (bR rfl rfl ?_)
    exact ⟨_, rfl, .inr ⟨i, x, rfl, hx, ⟨by omega, fun k9 a9 b9 ha9 hb9 => heq k9 a9 b9 (by have := (List.getElem?_eq_some_iff.1 ha9).1; omega) ha9 hb9⟩, hno⟩, hv⟩
  refine uG (.bool false) rfl (ex_lss rfl rfl rfl (qF hb7)) (uW k6 ?_)
  refine sK fun _ k32 => cF rfl (xE ?_)
  refine tX (tX ?_)
  refine bH (tK k3 ?_)
  refine sK fun _ k33 => rL (uA rfl ?_)
  refine uW k33 (rR ?_)
  refine scope_ret (bR rfl rfl ?_)
  obtain rfl : i = ws.length := by omega
  exact ⟨_, rfl, .inl ⟨rfl, fun y hy => (by obtain ⟨j9, hj9⟩ := List.mem_iff_getElem?.1 hy; exact hno j9 y (List.getElem?_eq_some_iff.1 hj9).1 hj9)⟩, hv⟩
end Go.Proofs.YtngpmolbphinnaaGreatDoor
namespace Go.Pm
open Go.RowKit
section
variable {P : Program} {t e : TypeId} {w : World}
end
section
variable {P : Program} {ops : Array Oper} {Q : Exit → Act → World → Prop} {a : Act} {w : World} {o : Oper} {B : Base} {H : List Res} {t e u : TypeId} {x y : Operand} {size : Nat} {J : List Value → World → Prop} {vals : List Value}
end
end Go.Pm
namespace Go.Proofs.YtngpmolbphinnaaGreatDoor
open Go.RowKit Go.Pm
theorem viewNew (B : Base) (H : List Res) (w : World) (t : Nat) (hv : Inv B H w) :
  Calls Tryz.prog 40 #[.iface 100 (vP t)] w fun e w' => ∃ v, e = .returned (.tuple #[vP v, vI 0]) ∧ Inv B (Res.cell v [.iface 100 (vP t)] 56 :: H) w' := by
 refine cW Tryz.func40 rfl Tryz.ntmps40 ?_
 simp only [al]
 refine sK fun _ k1 => rL (uA rfl ?_)
 refine uA rfl (uW k1 ?_)
 refine sK fun _ k2 => sK fun _ k3 => rL (uM rfl ?_)
 refine uG (.bool false) rfl (ex_ifnil Tryz.underlying54 rfl rfl rfl) (uW k3 ?_)
 refine cF rfl (kS ?_)
 refine tK k2 (sK fun _ k4 => ?_)
 refine rL (uM rfl ?_)
 refine uG (.agg #[.iface 100 (vP t)]) rfl (ex_buildN (vs := #[(0, .iface 100 (vP t))]) rfl (by simp only [List.map_toArray, List.map_cons, List.map_nil]; rfl) (by kernel_rfl)) ?_
 refine sl_box (L := [.iface 100 (vP t)]) tV (wn rfl) rfl rfl hv (fun w => by kernel_rfl) (fun b5 w6 hv => ?_)
 refine uA rfl (uA rfl ?_)
 refine uW k4 (rR ?_)
 refine bodyPost_ret (results_tmp2 rfl _ _ _) rfl (⟨_, rfl, hv⟩)
theorem k0callable37 : Callable Tryz.prog 37 := cb Tryz.func37 (by kernel_rfl)
theorem k0callable36 : Callable Tryz.prog 36 := cb Tryz.func36 (by kernel_rfl)
theorem k0callable38 : Callable Tryz.prog 38 := cb Tryz.func38 (by kernel_rfl)
theorem k0callable39 : Callable Tryz.prog 39 := cb Tryz.func39 (by kernel_rfl)
theorem k0callable40 : Callable Tryz.prog 40 := cb Tryz.func40 (by kernel_rfl)
theorem lawOpened26 (B : Base) (H : List Res) (w : World) (now : Int) (h0 : 0 ≤ now) (h1 : now ≤ 1099511627776) (hv : Inv B H w) :
  Calls Tryz.prog 15 #[vI now] w fun e w' => ∃ v t m s p wb va vc sv, e = .returned (vP v) ∧ Inv B (Res.cell v [.iface 100 (vP t)] 56 :: txR t m s p wb va vc sv now [] :: H) w' := by
 refine cW Tryz.func15 rfl Tryz.ntmps15 ?_
 simp only [al]
 refine sK fun _ k1 => rL (uA rfl ?_)
 refine uW k1 (sK fun _ k2 => ?_)
 refine rL (xC k0callable37 rfl ((storeNew0 B _ _ hv).mono ?_) rfl)
 rintro e w3 ⟨s, p, rfl, hv⟩
 refine ⟨_, rfl, uG (.agg #[]) rfl (ex_buildN (vs := #[]) rfl (by simp only [List.map_toArray, List.map_nil]) (by kernel_rfl)) ?_⟩
 refine uG (.iface 98 (.agg #[])) rfl (ex_iface Tryz.underlying98 (fun _ h => by cases h) rfl rfl) ?_
 refine xC k0callable36 rfl ((txnNew0 B _ _ s 98 (.agg #[]) hv).mono ?_) rfl
 rintro e w4 ⟨m, rfl, hv⟩
 refine ⟨_, rfl, ?_⟩
 obtain ⟨sv, hsv⟩ : ∃ sv, sv = Value.iface 98 (.agg #[]) := ⟨_, rfl⟩
 rw [← hsv] at hv
 refine uM rfl (uE rfl ?_)
 refine uE rfl (uA rfl ?_)
 refine uA rfl (uW k2 ?_)
 refine sK fun _ k5 => sK fun _ k6 => rL (uM rfl ?_)
 refine uG (.bool false) rfl (ex_pisnil Tryz.underlying92 rfl rfl rfl rfl) (uW k6 ?_)
 refine cF rfl (kS ?_)
 refine tK k5 (sK fun _ k7 => ?_)
 refine rL (uM rfl ?_)
 refine uM rfl ?_
 refine xC k0callable38 rfl ((txnTick0 B _ _ m s sv now h0 h1 hv).mono ?_) rfl
 rintro e w8 ⟨r9, rfl, hv⟩
 refine ⟨_, rfl, uW k7 ?_⟩
 refine sK fun _ k9 => rL (uM rfl ?_)
 replace hv := hv.front 2 rfl
 simp only [eS, eZ] at hv
 replace hv := hv.front 2 rfl
 simp only [eS, eZ] at hv
 replace hv := hv.front 2 rfl
 simp only [eS, eZ] at hv
 refine xC k0callable39 rfl ((txnBegin B _ _ m s p sv now hv).mono ?_) rfl
 rintro e w10 ⟨t, wb, va, vc, rfl, hv⟩
 refine ⟨_, rfl, uM rfl ?_⟩
 refine uE rfl (uE rfl ?_)
 refine uA rfl (uA rfl ?_)
 refine uW k9 (sK fun _ k11 => ?_)
 refine sK fun _ k12 => rL (uM rfl ?_)
 refine uG (.bool false) rfl (ex_pisnil Tryz.underlying100 rfl rfl rfl rfl) (uW k12 ?_)
 refine cF rfl (kS ?_)
 refine tK k11 (sK fun _ k13 => ?_)
 refine rL (uM rfl ?_)
 refine uG (.iface 100 (vP t)) rfl (ex_iface Tryz.underlying100 (fun _ h => by cases h) rfl rfl) ?_
 refine xC k0callable40 rfl ((viewNew B _ _ t hv).mono ?_) rfl
 rintro e w14 ⟨v, rfl, hv⟩
 refine ⟨_, rfl, uM rfl ?_⟩
 refine uE rfl (uE rfl ?_)
 refine uA rfl (uA rfl ?_)
 refine uW k13 (sK fun _ k15 => ?_)
 refine rL (uM rfl ?_)
 refine uA rfl (uW k15 ?_)
 refine rR (bR rfl rfl ?_)
 exact ⟨v, t, m, s, p, wb, va, vc, sv, rfl, ((hv.front 1 rfl).front 1 rfl)⟩
theorem k0al34 : AL Tryz.prog 34 [vI 0, vS [], vI 0, vN] := fun w => by kernel_rfl
theorem ref20Str (B : Base) (H : List Res) (w : World) (s : List UInt8) (hv : Inv B H w) :
  Calls Tryz.prog 46 #[vS s] w fun e w' => e = .returned (.agg #[vI 3, vS s, vI 0, vN]) ∧ Inv B H w' := by
 refine cW Tryz.func46 rfl Tryz.ntmps46 ?_
 simp only [al]
 refine sK fun _ k1 => rL (sl_alloc tV (wn rfl) rfl hv k0al34 (fun b2 w3 hv => ?_))
 refine uW k1 (sK fun _ k4 => ?_)
 refine rL (uM rfl ?_)
 refine uG (.agg #[vI 3, vS s, vI 0, vN]) rfl (ex_buildN (vs := #[(0, vI 3), (1, vS s)]) rfl (by simp only [List.map_toArray, List.map_cons, List.map_nil]; rfl) (by kernel_rfl)) ?_
 refine xS 0 rfl hv rssz34 rfl (by exact ⟨rfl, rfl, rfl, rfl, trivial⟩) (fun w5 hv => ?_)
 simp only [zO, sp] at hv
 refine uW k4 (rR ?_)
 refine bC 0 rswd34 hv rfl rfl rfl rfl (⟨rfl, (hv.kp [] 0 1)⟩)
theorem k0callable46 : Callable Tryz.prog 46 := cb Tryz.func46 (by kernel_rfl)
theorem k0mk34 : (Tryz.prog.info? 34).map (fun i => (i.zero, i.size, i.bytes)) = some (some (.agg #[vI 0, vS [], vI 0, vN]), 4, 56) := by kernel_rfl
theorem k0el32 : Elem Tryz.prog 32 34 (.agg #[vI 0, vS [], vI 0, vN]) 4 56 := elem_of Tryz.underlying32 k0mk34 (by rfl) (by decide)
theorem ref20Strs (B : Base) (H : List Res) (w : World) (sa : Option Addr) (sc : Nat) (ss : List (List UInt8)) (hr : RdV B [] sa (textCells ss)) (hm : ss.length ≤ 1000000) (hv : Inv B H w) :
  Calls Tryz.prog 26 #[.slice sa ss.length sc] w fun e w' => ∃ C v, B.Le C ∧ e = .returned (.agg #[vI 5, vS (([] : List UInt8)), vI 0, v]) ∧ RpAt C (rStrs ss) (rpCells 5 [] 0 v) ∧ Inv C H w' := by
 refine cW Tryz.func26 rfl Tryz.ntmps26 ?_
 simp only [al]
 refine sK fun _ k1 => rL (sl_alloc tV (wn rfl) rfl hv k0al34 (fun b2 w3 hv => ?_))
 refine uW k1 (sK fun _ k4 => ?_)
 refine rL (uG (.agg #[vI 5, vS [], vI 0, vN]) rfl (ex_buildN (vs := #[(0, vI 5)]) rfl (by simp only [List.map_toArray, List.map_cons, List.map_nil]; rfl) (by kernel_rfl)) ?_)
 refine sl_alloc tV (wn rfl) rfl hv k0al34 (fun b5 w6 hv => ?_)
 refine xS 0 rfl hv rssz34 rfl (by exact ⟨rfl, rfl, rfl, rfl, trivial⟩) (fun w7 hv => ?_)
 simp only [zO, sp] at hv
 refine uW k4 (sK fun _ k8 => ?_)
 refine sK fun _ k9 => rL (uA rfl ?_)
 refine uW k9 (bB ?_)
 gi_loopw [4] (fun x4 wr => ∃ (i : Nat) (ra : Option Addr) (rc : Nat), x4 = vI i ∧ i ≤ ss.length ∧ Inv B (Res.row 34 4 (.slice ra i rc) i (strsCells (ss.take i)) :: Res.cell b5 [vI 5, vS [], vI 0, .slice ra i rc] 34 :: Res.cell b2 [vI 0, vS [], vI 0, vN] 34 :: H) wr) (fun x4 _ => ss.length - (intOf x4).toNat)
 case atStart => exact ⟨0, none, 0, rfl, Nat.zero_le _, (((hv.front 1 rfl).front 1 rfl)).rowNil 34 4⟩
 case round =>
  obtain ⟨i, ra, rc, rfl, hi, hv⟩ := hrel
  refine sK fun _ k11 => sK fun _ k12 => rL (uM rfl ?_)
  refine uM rfl ?_
  refine uG (vI (ss.length : Int)) rfl (ex_len0 Tryz.underlying26 rfl rfl) ?_
  by_cases hb13 : (i : Int) < (ss.length : Int)
  ·refine uG (.bool true) rfl (ex_lss rfl rfl rfl (qT hb13)) (uW k12 ?_)
   refine cT rfl (kS ?_)
   refine tK k11 (sK fun _ k14 => ?_)
   refine bB ?_
   obtain ⟨x, hx⟩ : ∃ x, ss[i]? = some x := ⟨_, List.getElem?_eq_getElem (show i < ss.length by omega)⟩
   obtain ⟨bb, bo, had, hrdx⟩ := text_reads hr hx
   subst had
   refine rW mixed [6, 7, 8, 10] [0,1,2,3,4,5,6,7,8,9,10] 23 rfl (by kernel_rfl) hv ?_
   simp only [qm, opAt]
   refine dG (.pointer (some ⟨b5, 3, none⟩)) rfl (ex_field rfl rfl (rtfa34_3 _ _ _)) (dF _ rfl (fun hv => ex_load rfl rfl (run_load1 rtna32 (hv.load 1 3 rfl rfl))) fun f15 hf15 => ?_)
   refine dM (.slice (some ⟨bb, bo, none⟩) ss.length sc) rfl ?_
   simp only [zP, po]
   refine dM (vI i) rfl (dG (.pointer (some ⟨bb, bo + i, none⟩)) rfl (ex_index rfl rfl rfl (run_idx1 (k := i) Tryz.underlying26 s9es26 (by omega))) ?_)
   refine dL _ rfl (fun hv => ex_load rfl rfl (run_load1 s9na9 (hrdx _ _ _ (Base.Le.refl _) no_res hv 0 _ rfl))) ?_
   simp only [zP, po]
   refine dS rfl fun w16 hv => mC k0callable46 rfl ((ref20Str B _ _ x hv).mono ?_) rfl
   rintro e w17 ⟨rfl, hv⟩
   refine ⟨_, rfl, dV hv (fC (fun ww hv => hf15 ww (ex_load rfl rfl (run_load1 rtna32 (hv.load 1 3 rfl rfl)))) fN) ?_⟩
   refine dS rfl fun w18 hv => mem_rowAgg (L := [vI 3, vS x, vI 0, vN]) rfl rfl rfl hv k0el32 rfl (by decide) (fun b19 w20 hv => ?_)
   refine dV hv (fC (fun ww hv => hf15 ww (ex_load rfl rfl (run_load1 rtna32 (hv.load 2 3 rfl rfl)))) fN) (dS rfl fun w21 hv => ?_)
   replace hv := hv.front 1 rfl
   simp only [eS, eZ] at hv
   refine mem_append (news := [vI 3, vS x, vI 0, vN]) rfl rfl rfl rfl k0el32 hv (ok_full (by omega)) rfl (rd_all (hv.get 1 rfl)) (by intro u hu; simp only [List.mem_cons, List.not_mem_nil, or_false] at hu; rcases hu with rfl | rfl | rfl | rfl <;> rfl) (by unfold maxLen; omega) (by omega) (fun rv22 w25 hv => ?_)
   obtain ⟨ra23, rc24, rfl⟩ := row_slice hv.head
   refine dV hv (fK rfl fN) ?_
   simp only [zP, po]
   refine dG (.pointer (some ⟨b5, 3, none⟩)) rfl (ex_field rfl rfl (rtfa34_3 _ _ _)) (dS rfl fun w26 hv => ?_)
   refine mV 2 (.slice ra23 (i + 1) rc24) rfl hv rtsz32 rfl rfl (fun w27 hv => ?_)
   simp only [zS, zO, sp] at hv
   refine dV hv (fK rfl fN) (dE fun w28 hv => ?_)
   simp only [zP, po]
   refine bN (tK k14 ?_)
   refine rL (uM rfl ?_)
   refine uG (vI ((i + 1 : Nat) : Int)) rfl (ex_add rfl rfl rfl (by rw [i64_in (by omega)]; omega)) (uA rfl ?_)
   refine uZ (then_normal ?_)
   go_roundw
   case rel => exact ⟨i + 1, _, _, rfl, by omega, by rw [strsCells_next hx]; exact (hv.kp [3, 3, 2] 3 1)⟩
   case measure => show ss.length - (((i + 1 : Nat) : Int)).toNat < ss.length - ((i : Int)).toNat; omega
  refine uG (.bool false) rfl (ex_lss rfl rfl rfl (qF hb13)) (uW k12 ?_)
  refine cF rfl (xE ?_)
  refine tX (tX ?_)
  refine bH (tK k8 ?_)
  refine sK fun _ k29 => rL (uL (.agg #[vI 5, vS [], vI 0, .slice ra i rc]) rfl (lM 1 rswd34 hv rfl rfl rfl rfl) ?_)
  refine xS 2 rfl hv rssz34 rfl (by exact ⟨rfl, rfl, rfl, rfl, trivial⟩) (fun w30 hv => ?_)
  simp only [zS, zO, sp] at hv
  refine uW k29 (rR ?_)
  refine bC 2 rswd34 hv rfl rfl rfl rfl ?_
  obtain rfl : i = ss.length := by omega
  obtain ⟨C, hC, hv, hro, hoko, -⟩ := ((hv.sub (sC _ (sD _ (sD _ (sR _)))))).rowBy
  rw [List.take_length] at hro
  exact ⟨C, _, hC, rfl, rpAt_of (l := ss.map rStr) ⟨ra, rc, by rw [List.length_map], by rw [List.length_map]; exact hoko, hro⟩ (strsCells_at ss), hv⟩
def SameR (B : Base) (r : Rp) : Prop := ∀ (H : List Res) (w : World) (cs cs' : List Value), RpAt B r cs → RpAt B r cs' → Inv B H w → Calls Tryz.prog 22 #[.agg cs.toArray, .agg cs'.toArray] w fun e w' => e = .returned (.bool true) ∧ Inv B H w'
theorem k0fa34_0 : FA Tryz.prog 34 0 0 := fun w b o => by kernel_rfl
theorem k0fa34_1 : FA Tryz.prog 34 1 1 := fun w b o => by kernel_rfl
theorem k0fa34_2 : FA Tryz.prog 34 2 2 := fun w b o => by kernel_rfl
theorem k0es32 (w : World) : (sizeOf (Tryz.prog.elem 32)).run Tryz.prog w = .ok 4 w := by kernel_rfl
theorem k0callable22 : Callable Tryz.prog 22 := cb Tryz.func22 (by kernel_rfl)
theorem refSameRp0 (B : Base) (H : List Res) (w : World) (k : Int) (s : List UInt8) (n : Int) (l : List Rp) (a a' : Option Addr) (c c' : Nat) (xs xs' : List Value) (hrd : RdV B [] a xs) (hrd' : RdV B [] a' xs') (hat : RpsAt B l xs) (hat' : RpsAt B l xs') (hl : l.length ≤ 1000000) (hIH : ∀ x ∈ l, SameR B x) (hv : Inv B H w) :
  Calls Tryz.prog 22 #[.agg #[vI k, vS s, vI n, .slice a l.length c], .agg #[vI k, vS s, vI n, .slice a' l.length c']] w fun e w' => e = .returned (.bool true) ∧ Inv B H w' := by
 refine cW Tryz.func22 rfl Tryz.ntmps22 ?_
 simp only [al]
 refine sK fun _ k1 => rL (sl_box (L := [vI k, vS s, vI n, .slice a l.length c]) tV (wn rfl) rfl rfl hv (fun w => by kernel_rfl) (fun b2 w3 hv => ?_))
 refine sl_box (L := [vI k, vS s, vI n, .slice a' l.length c']) tV (wn rfl) rfl rfl hv (fun w => by kernel_rfl) (fun b4 w5 hv => ?_)
 refine uA rfl (uW k1 ?_)
 refine sK fun _ k6 => sK fun _ k7 => rL (uF (vP b2) rfl (k0fa34_0 _ _ _) ?_)
 refine uL _ rfl (run_load1 s2na3 (hv.load 1 0 rfl rfl)) ?_
 refine uF (vP b4) rfl (k0fa34_0 _ _ _) ?_
 refine uL _ rfl (run_load1 s2na3 (hv.load 0 0 rfl rfl)) ?_
 refine uG (.bool false) rfl (ex_neq rfl rfl rfl (qF (fun h => h rfl))) (uM rfl ?_)
 refine uF (.pointer (some ⟨b2, 1, none⟩)) rfl (k0fa34_1 _ _ _) ?_
 refine uL _ rfl (run_load1 s9na9 (hv.load 1 1 rfl rfl)) ?_
 refine uF (.pointer (some ⟨b4, 1, none⟩)) rfl (k0fa34_1 _ _ _) ?_
 refine uL _ rfl (run_load1 s9na9 (hv.load 0 1 rfl rfl)) ?_
 refine uG (.bool false) rfl (ex_sneq rfl rfl rfl (qF (fun h => h rfl))) (uK rfl ?_)
 refine uM rfl ?_
 refine uF (.pointer (some ⟨b2, 2, none⟩)) rfl (k0fa34_2 _ _ _) ?_
 refine uL _ rfl (run_load1 s2na3 (hv.load 1 2 rfl rfl)) ?_
 refine uF (.pointer (some ⟨b4, 2, none⟩)) rfl (k0fa34_2 _ _ _) ?_
 refine uL _ rfl (run_load1 s2na3 (hv.load 0 2 rfl rfl)) ?_
 refine uG (.bool false) rfl (ex_neq rfl rfl rfl (qF (fun h => h rfl))) (uK rfl ?_)
 refine uM rfl ?_
 refine uF (.pointer (some ⟨b2, 3, none⟩)) rfl (rtfa34_3 _ _ _) ?_
 refine uL _ rfl (run_load1 rtna32 (hv.load 1 3 rfl rfl)) ?_
 refine uG (vI (l.length : Int)) rfl (ex_len0 Tryz.underlying32 rfl rfl) ?_
 refine uF (.pointer (some ⟨b4, 3, none⟩)) rfl (rtfa34_3 _ _ _) ?_
 refine uL _ rfl (run_load1 rtna32 (hv.load 0 3 rfl rfl)) ?_
 refine uG (vI (l.length : Int)) rfl (ex_len0 Tryz.underlying32 rfl rfl) ?_
 refine uG (.bool false) rfl (ex_neq rfl rfl rfl (qF (fun h => h rfl))) (uK rfl ?_)
 refine uW k7 (cF rfl ?_)
 refine kS (tK k6 ?_)
 refine sK fun _ k8 => sK fun _ k9 => rL (uA rfl ?_)
 refine uW k9 (bB ?_)
 gi_loopw [5] (fun x5 wr => ∃ (i : Nat), x5 = vI i ∧ i ≤ l.length ∧ Inv B (Res.cell b4 [vI k, vS s, vI n, .slice a' l.length c'] 34 :: Res.cell b2 [vI k, vS s, vI n, .slice a l.length c] 34 :: H) wr) (fun x5 _ => l.length - (intOf x5).toNat)
 case atStart => exact ⟨0, rfl, Nat.zero_le _, hv⟩
 case round =>
  obtain ⟨i, rfl, hi, hv⟩ := hrel
  refine sK fun _ k11 => sK fun _ k12 => rL (uM rfl ?_)
  refine uF (.pointer (some ⟨b2, 3, none⟩)) rfl (rtfa34_3 _ _ _) ?_
  refine uL _ rfl (run_load1 rtna32 (hv.load 1 3 rfl rfl)) ?_
  refine uG (vI (l.length : Int)) rfl (ex_len0 Tryz.underlying32 rfl rfl) ?_
  by_cases hb13 : (i : Int) < (l.length : Int)
  ·refine uG (.bool true) rfl (ex_lss rfl rfl rfl (qT hb13)) (uW k12 ?_)
   refine cT rfl (kS ?_)
   refine tK k11 (sK fun _ k14 => ?_)
   refine bB (sK fun _ k15 => ?_)
   obtain ⟨x, hx⟩ : ∃ x, l[i]? = some x := ⟨_, List.getElem?_eq_getElem (show i < l.length by omega)⟩
   obtain ⟨xk, xs, xn, xq⟩ := x
   obtain ⟨q1, o1, v1, y1, h1a, h1b, h1c, h1d⟩ := hat.reads hrd hx
   obtain ⟨q2, o2, v2, y2, h2a, h2b, h2c, h2d⟩ := hat'.reads hrd' hx
   subst h1a
   subst h2a
   have hq1 := rpAt_of (k := xk) (s := xs) (n := xn) h1b h1c
   have hq2 := rpAt_of (k := xk) (s := xs) (n := xn) h2b h2c
   refine rW mixed [10] [0,1,2,3,4,5,6,7,8,9,10,11] 53 rfl (by kernel_rfl) hv ?_
   simp only [qm, opAt]
   refine dG (.pointer (some ⟨b2, 3, none⟩)) rfl (ex_field rfl rfl (rtfa34_3 _ _ _)) (dL _ rfl (fun hv => ex_load rfl rfl (run_load1 rtna32 (hv.load 1 3 rfl rfl))) ?_)
   refine dM (vI i) rfl ?_
   simp only [zP, po]
   refine dG (.pointer (some ⟨q1, o1 + i * 4, none⟩)) rfl (ex_index rfl rfl rfl (run_idx (k := i) Tryz.underlying32 k0es32 (by omega))) (dL (.agg #[vI xk, vS xs, vI xn, v1]) rfl (fun hv => ex_load rfl rfl (run_loadR (cs := [vI xk, vS xs, vI xn, v1]) rswd34 (Reads.mid (pre := []) (mid := [vI xk, vS xs, vI xn, v1]) (post := []) h1d _ _ _ (Base.Le.refl _) no_res hv))) ?_)
   refine dG (.pointer (some ⟨b4, 3, none⟩)) rfl (ex_field rfl rfl (rtfa34_3 _ _ _)) ?_
   simp only [zP, po]
   refine dL _ rfl (fun hv => ex_load rfl rfl (run_load1 rtna32 (hv.load 0 3 rfl rfl))) (dM (vI i) rfl ?_)
   refine dG (.pointer (some ⟨q2, o2 + i * 4, none⟩)) rfl (ex_index rfl rfl rfl (run_idx (k := i) Tryz.underlying32 k0es32 (by omega))) ?_
   simp only [zP, po]
   refine dL (.agg #[vI xk, vS xs, vI xn, v2]) rfl (fun hv => ex_load rfl rfl (run_loadR (cs := [vI xk, vS xs, vI xn, v2]) rswd34 (Reads.mid (pre := []) (mid := [vI xk, vS xs, vI xn, v2]) (post := []) h2d _ _ _ (Base.Le.refl _) no_res hv))) (dS rfl fun w16 hv => ?_)
   refine mC k0callable22 rfl ((hIH _ (List.mem_of_getElem? hx) _ _ (rpCells xk xs xn v1) (rpCells xk xs xn v2) hq1 hq2 hv).mono ?_) rfl
   rintro e w17 ⟨rfl, hv⟩
   refine ⟨_, rfl, dW hv ?_⟩
   refine dG (.bool false) rfl (ex_not rfl rfl rfl) (dE fun w18 hv => ?_)
   simp only [zP, po]
   refine tK k15 (cF rfl ?_)
   refine kS (bN ?_)
   refine tK k14 (rL ?_)
   refine uM rfl ?_
   refine uG (vI ((i + 1 : Nat) : Int)) rfl (ex_add rfl rfl rfl (by rw [i64_in (by omega)]; omega)) (uA rfl ?_)
   refine uZ (then_normal ?_)
   go_roundw
   case rel => exact ⟨i + 1, rfl, by omega, hv⟩
   case measure => show l.length - (((i + 1 : Nat) : Int)).toNat < l.length - ((i : Int)).toNat; omega
  refine uG (.bool false) rfl (ex_lss rfl rfl rfl (qF hb13)) (uW k12 ?_)
  refine cF rfl (xE ?_)
  refine tX (tX ?_)
  refine bH (tK k8 ?_)
  refine sK fun _ k19 => rL (uA rfl ?_)
  refine uW k19 (rR ?_)
  refine bR rfl rfl (⟨rfl, (hv.kp [] 0 2)⟩)
theorem sameR_of {B : Base} {k : Int} {s : List UInt8} {n : Int} {l : List Rp} (hl : l.length ≤ 1000000) (h : ∀ x ∈ l, SameR B x) : SameR B (.mk k s n l) := fun H w cs cs' h1 h2 hv => by
 simp only [RpAt] at h1 h2
 obtain ⟨v, xs, rfl, ⟨a, c, rfl, -, hr⟩, hx⟩ := h1
 obtain ⟨v', xs', rfl, ⟨a', c', rfl, -, hr'⟩, hx'⟩ := h2
 exact refSameRp0 B H w k s n l a a' c c' xs xs' hr hr' hx hx' hl h hv
theorem sameR_leaf {B : Base} {k : Int} {s : List UInt8} {n : Int} : SameR B (.mk k s n []) := sameR_of (Nat.zero_le _) fun x h => by cases h
theorem sameR_strs {B : Base} {l : List (List UInt8)} (hl : l.length ≤ 1000000) : SameR B (rStrs l) := sameR_of (by rw [List.length_map]; exact hl) fun x h => by
 obtain ⟨y, -, rfl⟩ := List.mem_map.1 h
 exact sameR_leaf
theorem rp_parts {B : Base} {r : Rp} {cs : List Value} (h : RpAt B r cs) : ∃ k s n v, cs = rpCells k s n v := by
 cases r; simp only [RpAt] at h
 obtain ⟨v, xs, h1, -⟩ := h
 exact ⟨_, _, _, v, h1⟩
theorem vmNil (B : Base) : VM B [] [] := trivial
theorem all0 {p : List UInt8 → Prop} : ∀ x ∈ ([] : List (List UInt8)), p x := fun _ h => by cases h
theorem all1 {p : List UInt8 → Prop} {a : List UInt8} {l : List (List UInt8)} (h : p a) (t : ∀ x ∈ l, p x) : ∀ x ∈ a :: l, p x := fun x hx => (List.mem_cons.1 hx).elim (fun e => e ▸ h) (t x)
theorem txnNamesC (B : Base) (H : List Res) (w : World) (t m s p wb : Nat) (va : Option Addr) (vc : Nat) (sv : Value) (clk : Int) (es : List (List UInt8 × Value)) (M : List (List UInt8 × Ver)) (hM : VM B es M) (hkl : ∀ k ∈ M.map (·.1), k.length ≤ 256) (hMl : M.length ≤ 1000000) (hv : Inv B (txR t m s p wb va vc sv clk es :: H) w) :
  Calls Tryz.prog 216 #[vP t] w fun e w' => ∃ C a c, B.Le C ∧ e = .returned (.slice a (namesT M clk).length c) ∧ RdV C [] a (textCells (namesT M clk)) ∧ SliceOk a (namesT M clk).length c ∧ Inv C (txR t m s p wb va vc sv clk es :: H) w' := by
 refine (txnNames B H w t m s p wb va vc sv clk es M hM hkl hMl hv).mono ?_
 rintro e w' ⟨ra, rc, rfl, hv⟩
 obtain ⟨C, hB, hv2, hr2, hok, -⟩ := hv.rowBy
 exact ⟨C, ra, rc, hB, rfl, hr2, hok, hv2⟩
end Go.Proofs.YtngpmolbphinnaaGreatDoor
namespace Go.Pm
open Go.RowKit
structure Leaf where
 k : Int
 s : List UInt8
 n : Int
abbrev nilS : Value := .slice none 0 0
abbrev leafC (x : Leaf) (v : Value) : List Value := rpCells x.k x.s x.n v
def leafR (x : Leaf) : Rp := .mk x.k x.s x.n []
abbrev leafN (x : Leaf) : List Value := leafC x nilS
def lvC (pre : List Leaf) : Option (Leaf × Value) → List Value
 | none => pre.flatMap leafN
 | some (x, v) => pre.flatMap leafN ++ leafC x v
theorem leafs_len (l : List Leaf) : (l.flatMap leafN).length = l.length * 4 := rowk_len (k := 4) (fun _ => rfl) l
theorem lvC_len0 (l : List Leaf) : (lvC l none).length = l.length * 4 := leafs_len l
theorem lvC_len1 (l : List Leaf) (x : Leaf) (v : Value) : (lvC l (some (x, v))).length = (l.length + 1) * 4 := by
 show (l.flatMap leafN ++ leafC x v).length = _
 rw [List.length_append, leafs_len, Nat.succ_mul]; rfl
theorem lvC_pre {l : List Leaf} {o : Option (Leaf × Value)} {i j : Nat} {x : Leaf} (hx : l[i]? = some x) (hj : j < 4) : (lvC l o)[i * 4 + j]? = (leafN x)[j]? := by
 have h := rowk_get (f := leafN) (k := 4) (fun _ => rfl) hx hj
 cases o with
 | none => exact h
 | some p =>
  show (l.flatMap leafN ++ _)[_]? = _
  have hi := (List.getElem?_eq_some_iff.1 hx).1
  have := Nat.mul_le_mul_right 4 (show i + 1 ≤ l.length by omega)
  rw [Nat.succ_mul] at this
  rw [List.getElem?_append_left (by rw [leafs_len]; omega)]
  exact h
theorem lvC_last {l : List Leaf} {x : Leaf} {v : Value} {j : Nat} : (lvC l (some (x, v)))[l.length * 4 + j]? = (leafC x v)[j]? := by
 show (l.flatMap leafN ++ _)[_]? = _
 rw [List.getElem?_append_right (by rw [leafs_len]; omega), leafs_len, Nat.add_sub_cancel_left]
theorem lvSet_same {α : Type} {l : List α} {i : Nat} {v : α} (h : l[i]? = some v) : l.set i v = l := by
 refine List.ext_getElem? fun j => ?_
 rw [List.getElem?_set]
 split
 ·rename_i e; subst e
  have := (List.getElem?_eq_some_iff.1 h).1
  rw [if_pos this, h]
 rfl
theorem lvC_set {l : List Leaf} {o : Option (Leaf × Value)} {i : Nat} {x : Leaf} (hx : l[i]? = some x) : (lvC l o).set (i * 4 + 3) nilS = lvC l o := lvSet_same (by rw [lvC_pre hx (by decide)]; rfl)
theorem lvC_setl {l : List Leaf} {x : Leaf} {v u : Value} : (lvC l (some (x, v))).set (l.length * 4 + 3) u = lvC l (some (x, u)) := by
 show (l.flatMap leafN ++ _).set _ _ = l.flatMap leafN ++ _
 rw [List.set_append_right _ _ (by rw [leafs_len]; omega), leafs_len, Nat.add_sub_cancel_left]; rfl
theorem lvC_one {l : List Leaf} {o : Option (Leaf × Value)} (ho : ∀ p, o = some p → p.2.oneCell' = true) : ∀ u ∈ lvC l o, u.oneCell' = true := by
 have h0 : ∀ u ∈ l.flatMap leafN, u.oneCell' = true := by
  intro u hu
  obtain ⟨x, -, hu⟩ := List.mem_flatMap.1 hu
  simp only [List.mem_cons, List.not_mem_nil, or_false] at hu
  rcases hu with rfl | rfl | rfl | rfl <;> rfl
 cases o with
 | none => exact h0
 | some p =>
  intro u hu
  rcases List.mem_append.1 (show u ∈ l.flatMap leafN ++ leafC p.1 p.2 from hu) with hu | hu
  ·exact h0 u hu
  simp only [List.mem_cons, List.not_mem_nil, or_false] at hu
  rcases hu with rfl | rfl | rfl | rfl
  ·rfl
  ·rfl
  ·rfl
  exact ho p rfl
theorem lvC_at0 {B : Base} : ∀ (l : List Leaf), RpsAt B (l.map leafR) (l.flatMap leafN)
 | [] => RpsAt.nil
 | x :: l => RpsAt.cons (rpAt_leaf (k := x.k) (s := x.s) (n := x.n)) (lvC_at0 l)
theorem lvC_at1 {B : Base} {pre l : List Leaf} {x : Leaf} {v : Value} (h : RowB B v l.length (l.flatMap leafN)) : RpsAt B (pre.map leafR ++ [.mk x.k x.s x.n (l.map leafR)]) (lvC pre (some (x, v))) :=
 RpsAt.append (RpsAt.single (rpAt_of (l := l.map leafR) (by rw [List.length_map]; exact h) (lvC_at0 l))) (lvC_at0 pre)
theorem row_loads {w : World} {e : TypeId} {size n c b k off : Nat} {xs cs : List Value} (h : w.ownsRow 0 e size (.slice (some ⟨b, 0, none⟩) n c) n xs) (ho : off = k) (hcs : ∀ j, j < cs.length → cs[j]? = xs[k + j]?) : ∀ j v, cs[j]? = some v → w.cell? ⟨b, off + j, none⟩ = some v := by
 subst ho
 intro j v hj
 have := row_load h (j := off + j) (v := v) (by rw [← hcs j (List.getElem?_eq_some_iff.1 hj).1, hj])
 rw [Nat.zero_add] at this
 exact this
theorem Inv.rowLess {B : Base} {n m c size b : Nat} {e : TypeId} {xs : List Value} {H : List Res} {w : World} (hv : Inv B (Res.row e size (.slice (some ⟨b, 0, none⟩) n c) n xs :: H) w) (hm : m ≤ n) : Inv B (Res.row e size (.slice (some ⟨b, 0, none⟩) m c) m (xs.take (m * size)) :: H) w := by
 obtain ⟨L, h1, h2, h3, h4, hc⟩ := hv.rowCell
 have h9 := hc.cellRow (n := m) (c := c) (size := size) h1 (by omega) h4
 have hle : m * size ≤ n * size := Nat.mul_le_mul_right _ hm
 rw [← h2, List.take_take, Nat.min_eq_left hle]
 exact h9
def ListIn (B : Base) (m : Nat) (xs : List Value) (r : Rp) : Prop :=
 (∃ ls : List Leaf, m = ls.length ∧ xs = lvC ls none ∧ r = rList (ls.map leafR)) ∨
 (∃ (pre l : List Leaf) (x : Leaf) (la : Option Addr) (lc : Nat), m = pre.length + 1 ∧ xs = lvC pre (some (x, .slice la l.length lc)) ∧ SliceOk la l.length lc ∧ RdV B [] la (lvC l none) ∧ l.length ≤ 1000000 ∧ r = rList (pre.map leafR ++ [.mk x.k x.s x.n (l.map leafR)]))
theorem ListIn.len {B : Base} {m : Nat} {xs : List Value} {r : Rp} (h : ListIn B m xs r) : xs.length = m * 4 := by
 rcases h with ⟨ls, rfl, rfl, -⟩ | ⟨pre, l, x, la, lc, rfl, rfl, -⟩
 ·exact lvC_len0 ls
 exact lvC_len1 pre x _
theorem ListIn.one {B : Base} {m : Nat} {xs : List Value} {r : Rp} (h : ListIn B m xs r) : ∀ u ∈ xs, u.oneCell' = true := by
 rcases h with ⟨ls, rfl, rfl, -⟩ | ⟨pre, l, x, la, lc, rfl, rfl, -⟩
 ·exact lvC_one fun p h => by cases h
 exact lvC_one fun p h => by cases h; rfl
theorem rlist_at {B : Base} {l : List Rp} {v : Value} {xs : List Value} (h1 : RowB B v l.length xs) (h2 : RpsAt B l xs) : RpAt B (rList l) (rpCells 5 [] 0 v) := rpAt_of h1 h2
end Go.Pm
