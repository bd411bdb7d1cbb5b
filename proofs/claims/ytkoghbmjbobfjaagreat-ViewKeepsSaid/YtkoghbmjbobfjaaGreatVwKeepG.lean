/- The reference's view: Put, Names; Words. -/
import Derived.Test.YtkoghbmjbobfjaaGreatVwKeepB
import Derived.Test.YtkoghbmjbobfjaaGreatVwKeepF
import Derived.Test.YtkoghbmjbobfjaaGreatRows
import Derived.Shelf.SlIter.Collect
import Derived.Shelf.Sort.Plain
import Derived.Shelf.Slices.In.CompactS
import Derived.Shelf.Slices.In.SortNone
import Derived.Ground.NamesProg
import Derived.Ground.GgzProg
import Derived.Sort.KeysCollected
import Derived.Sort.OwnSorted
import Derived.Test.YtkoghbmjbobfjaaGreatVwKeepE
set_option maxRecDepth 100000
namespace Go.Proofs.YtkoghbmjbobfjaaGreat
open Go.RowKit Go.Pm
def InsK (L : List KeyR) (k : KeyR) (K' : List KeyR) : Prop := ∃ j, j ≤ L.length ∧ K' = L.take j ++ k :: L.drop j ∧ (∀ x ∈ L.take j, Op.bytesLess x.name k.name = true) ∧ (∀ x, L[j]? = some x → Op.bytesLess x.name k.name = false)
def PutK (K : List KeyR) (clk : Int) (name : List UInt8) (v : Val) (exp : Int) (K' : List KeyR) : Prop := (¬ FullV v ∧ K' = delK K clk name) ∨ (FullV v ∧ InsK (others K name) ⟨name, v, exp⟩ K')
theorem take_all_next {L : List KeyR} {j : Nat} {x : KeyR} {p : KeyR → Prop} (hx : L[j]? = some x) (h : ∀ y ∈ L.take j, p y) (hp : p x) : ∀ y ∈ L.take (j + 1), p y := by
 intro y hy
 rw [take_next hx, List.mem_append, List.mem_singleton] at hy
 rcases hy with hy | rfl
 ·exact h y hy
 exact hp
theorem others_mem {K : List KeyR} {name : List UInt8} {x : KeyR} (h : x ∈ others K name) : x ∈ K := (List.mem_filter.1 h).1
theorem v3al31 (w : World) : (Instr.alloc 31 true (.tuple #[])).run Tryz.prog w = .ok (.pointer (some ⟨w.heap.size, 0, none⟩)) (w.alloc (.cells ([.slice none 0 0, .int .i64 0, .slice none 0 0] : List Value).toArray 31)) := by kernel_rfl
theorem v3callable9 : Callable Tryz.prog 9 := ⟨_, Tryz.func9, by kernel_rfl, by kernel_rfl⟩
theorem v3callable41 : Callable Tryz.prog 41 := ⟨_, Tryz.func41, by kernel_rfl, by kernel_rfl⟩
theorem v3callable43 : Callable Tryz.prog 43 := ⟨_, Tryz.func43, by kernel_rfl, by kernel_rfl⟩
theorem v3mk49 : (Tryz.prog.info? 49).map (fun i => (i.zero, i.size, i.bytes)) = some (some (.agg #[.string ⟨([] : List UInt8).toArray⟩, .int .i64 0, .string ⟨([] : List UInt8).toArray⟩, .slice none 0 0, .slice none 0 0, .slice none 0 0, .int .i64 0]), 7, 120) := by kernel_rfl
theorem v3el28 : Elem Tryz.prog 28 49 (.agg #[.string ⟨([] : List UInt8).toArray⟩, .int .i64 0, .string ⟨([] : List UInt8).toArray⟩, .slice none 0 0, .slice none 0 0, .slice none 0 0, .int .i64 0]) 7 120 := elem_of Tryz.underlying28 v3mk49 (by rfl) (by decide)
set_option maxHeartbeats 8000000 in
theorem refPut20 (B : Base) (H : List Res) (w : World) (K : List KeyR) (wl : List (List UInt8)) (ka wa : Option Addr) (kc wc : Nat) (xs : List Value) (clk : Int) (hR : RefV B K wl ka wa kc wc xs) (hm : K.length ≤ 10000) (hmw : wl.length ≤ 10000) (hkn : ∀ x ∈ K, x.name.length ≤ 1000) (name : List UInt8) (v : Val) (vp vt vz : Value) (exp : Int) (hval : ValAt B v vp vt vz) (hv : Inv B H w) :
  Calls Tryz.prog 12 #[.agg #[.slice ka K.length kc, .int .i64 clk, .slice wa wl.length wc], .string ⟨name.toArray⟩, .agg #[.int .i64 v.kind, .string ⟨v.text.toArray⟩, vp, vt, vz], .int .i64 exp] w fun e w' => ∃ C K' wl' ka' kc' wa' wc' xs', B.Le C ∧ e = .returned (.agg #[.slice ka' K'.length kc', .int .i64 clk, .slice wa' wl'.length wc']) ∧ RefV C K' wl' ka' wa' kc' wc' xs' ∧ PutK K clk name v exp K' ∧ wl'.length ≤ wl.length + 1 ∧ Inv C H w' := by
 refine cW Tryz.func12 rfl Tryz.ntmps12 ?_
 simp only [al]
 refine sK fun _ k1 => rL (sl_box (L := [.slice ka K.length kc, .int .i64 clk, .slice wa wl.length wc]) tV (wn rfl) rfl rfl hv (fun w => by kernel_rfl) (fun b2 w3 hv => ?_))
 refine sl_box (L := [.int .i64 v.kind, .string ⟨v.text.toArray⟩, vp, vt, vz]) tV (wn rfl) rfl rfl hv (fun w => by kernel_rfl) (fun b4 w5 hv => ?_)
 refine sl_alloc tV (wn rfl) rfl hv v3al31 (fun b6 w7 hv => ?_)
 simp only [zP, po]
 refine wK k1 (sK fun _ k8 => ?_)
 refine sK fun _ k9 => rL (xF (.pointer (some ⟨b4, 0, none⟩)) rfl (s12fa35_0 _ _ _) ?_)
 refine xL _ rfl (run_load1 s2na3 (hv.load 1 0 rfl rfl)) ?_
 by_cases hb10 : v.kind ≠ 1
 ·refine xG (.bool true) rfl (ex_neq rfl rfl rfl (decide_eq_true hb10)) ?_
  simp only [zP, po]
  refine xM (.bool true) rfl (xL (.agg #[.int .i64 v.kind, .string ⟨v.text.toArray⟩, vp, vt, vz]) rfl (run_load_mid (pre := []) (mid := [.int .i64 v.kind, .string ⟨v.text.toArray⟩, vp, vt, vz]) (post := []) s1wd35 (show Blk _ b4 ([] ++ [.int .i64 v.kind, .string ⟨v.text.toArray⟩, vp, vt, vz] ++ []) _ from hv.get 1 rfl) rfl) ?_)
  refine xC v3callable9 rfl ((refSize B _ _ v vp vt vz hval hv).mono ?_) rfl
  rintro e w11 ⟨rfl, hv⟩
  refine ⟨_, rfl, ?_⟩
  simp only [zP, po]
  by_cases hb12 : (sizeV v : Int) = 0
  ·refine xG (.bool true) rfl (ex_eql rfl rfl rfl (decide_eq_true hb12)) (xK true (.bool true) rfl ?_)
   simp only [zP, po]
   refine wK k9 (cT rfl ?_)
   refine sK fun _ k13 => rL (xL (.agg #[.slice ka K.length kc, .int .i64 clk, .slice wa wl.length wc]) rfl (run_load_mid (pre := []) (mid := [.slice ka K.length kc, .int .i64 clk, .slice wa wl.length wc]) (post := []) v2wd31 (show Blk _ b2 ([] ++ [.slice ka K.length kc, .int .i64 clk, .slice wa wl.length wc] ++ []) _ from hv.get 2 rfl) rfl) ?_)
   refine xM (.string ⟨name.toArray⟩) rfl (xC v3callable41 rfl ((refDel20 B _ _ K wl ka wa kc wc xs clk hR hm hmw name hv).mono ?_) rfl)
   rintro e w14 ⟨C, K', wl', ka', kc', wa', wc', xs', hC, rfl, hR', hK', hwl', hv⟩
   refine ⟨_, rfl, ?_⟩
   simp only [zP, po]
   refine xS 0 rfl hv v2sz31 rfl (by exact ⟨rfl, rfl, rfl, trivial⟩) (fun w15 hv => ?_)
   simp only [zO, sp] at hv
   simp only [zP, po]
   refine wK k13 (rR ?_)
   refine tR (bodyPost_ret (res_cell1 rfl rfl (run_load_mid (pre := []) (mid := [.slice ka' K'.length kc', .int .i64 clk, .slice wa' wl'.length wc']) (post := []) v2wd31 (show Blk _ b6 ([] ++ [.slice ka' K'.length kc', .int .i64 clk, .slice wa' wl'.length wc'] ++ []) _ from hv.get 0 rfl) rfl)) rfl ?_)
   have hnf : ¬ FullV v := fun h => h.elim (fun h => hb10 h) (fun h => by have h9 := hb12; unfold sizeV at h9; rw [if_neg (fun h8 => hb10 h8)] at h9; omega)
   exact ⟨_, K', wl', _, _, _, _, _, hC, rfl, hR', .inl ⟨hnf, hK'⟩, hwl', (hv.sub (List.Sublist.cons _ (List.Sublist.cons _ (List.Sublist.cons _ (List.Sublist.refl _)))))⟩
  refine xG (.bool false) rfl (ex_eql rfl rfl rfl (decide_eq_false hb12)) (xK true (.bool false) rfl ?_)
  simp only [zP, po]
  refine wK k9 (cF rfl ?_)
  refine kS (tK k8 ?_)
  refine sK fun _ k16 => rL (xL (.agg #[.slice ka K.length kc, .int .i64 clk, .slice wa wl.length wc]) rfl (run_load_mid (pre := []) (mid := [.slice ka K.length kc, .int .i64 clk, .slice wa wl.length wc]) (post := []) v2wd31 (show Blk _ b2 ([] ++ [.slice ka K.length kc, .int .i64 clk, .slice wa wl.length wc] ++ []) _ from hv.get 2 rfl) rfl) ?_)
  refine xM (.string ⟨name.toArray⟩) rfl (xC v2callable42 rfl ((refWithout20 B _ _ K wl ka wa kc wc xs clk hR hm hmw name hv).mono ?_) rfl)
  rintro e w17 ⟨C, la, lc, lys, hC, rfl, hlok, hlr, hlys, hv⟩
  refine ⟨_, rfl, ?_⟩
  obtain ⟨L, hL⟩ : ∃ L, L = others K name := ⟨_, rfl⟩
  have hLl := others_le K name
  have hLm : ∀ x ∈ L, x ∈ K := fun x hx => others_mem (by rw [← hL]; exact hx)
  rw [← hL] at hlok hlys hLl
  rw [show (others K name).length = L.length by rw [hL]]
  simp only [zP, po]
  refine xA (.slice la L.length lc) rfl ?_
  simp only [zP, po]
  refine wK k16 (sK fun _ k18 => ?_)
  refine rL (xA (.slice none 0 0) rfl ?_)
  simp only [zP, po]
  refine wK k18 (sK fun _ k19 => ?_)
  refine rL (xA (.int .i64 0) rfl ?_)
  simp only [zP, po]
  refine wK k19 (sK fun _ k20 => ?_)
  refine bB ?_
  gi_loopw [10, 11] (fun x10 x11 wr => ∃ (j : Nat) (ra : Option Addr) (rc : Nat) (ys : List Value), x10 = .slice ra j rc ∧ x11 = .int .i64 (j : Int) ∧ j ≤ L.length ∧ KeysAt C (L.take j) ys ∧ (∀ x ∈ L.take j, Op.bytesLess x.name name = true) ∧ Inv C (Res.row 49 7 (.slice ra j rc) j ys :: Res.cell b6 [.slice none 0 0, .int .i64 0, .slice none 0 0] 31 :: Res.cell b4 [.int .i64 v.kind, .string ⟨v.text.toArray⟩, vp, vt, vz] 35 :: Res.cell b2 [.slice ka K.length kc, .int .i64 clk, .slice wa wl.length wc] 31 :: H) wr) (fun x10 x11 _ => L.length - (intOf x11).toNat)
  case atStart => exact ⟨0, none, 0, [], rfl, rfl, Nat.zero_le _, rfl, fun x hx => (by cases hx), ((((hv.front 2 rfl).front 2 rfl).front 2 rfl)).rowNil 49 7⟩
  case round =>
   obtain ⟨j, ra, rc, ys, rfl, rfl, hj, hys, hpre, hv⟩ := hrel
   refine sK fun _ k22 => sK fun _ k23 => rL (xM (.int .i64 (j : Int)) rfl ?_)
   refine xM (.slice la L.length lc) rfl (xG (.int .i64 (L.length : Int)) rfl (ex_len0 Tryz.underlying28 rfl rfl) ?_)
   simp only [zP, po]
   by_cases hb24 : (j : Int) < (L.length : Int)
   ·obtain ⟨x, hx⟩ : ∃ x, L[j]? = some x := ⟨_, List.getElem?_eq_getElem (show j < L.length by omega)⟩
    obtain ⟨bb, bo, xp, xt, xz, had, hvalx, hrdx⟩ := KeysAt.reads hlys hlr hx
    subst had
    have hxK := hkn x (hLm x (List.mem_of_getElem? hx))
    refine xG (.bool true) rfl (ex_lss rfl rfl rfl (decide_eq_true hb24)) (xM (.bool true) rfl ?_)
    refine xM (.slice (some ⟨bb, bo, none⟩) L.length lc) rfl ?_
    simp only [zP, po]
    refine xM (.int .i64 (j : Int)) rfl (xG (.pointer (some ⟨bb, bo + j * 7, none⟩)) rfl (ex_index rfl rfl rfl (run_idx (k := j) Tryz.underlying28 v2es28 (by omega))) ?_)
    refine xF (.pointer (some ⟨bb, bo + j * 7, none⟩)) rfl (v2fa49_0 _ _ _) ?_
    simp only [zP, po]
    refine xL _ rfl (run_load1 s9na9 (hrdx _ _ _ (Base.Le.refl _) no_res hv 0 _ rfl)) (xM (.string ⟨name.toArray⟩) rfl ?_)
    refine xC v3callable43 rfl ((refLess C _ _ x.name name (by omega) hv).mono ?_) rfl
    rintro e w25 ⟨rfl, hv⟩
    refine ⟨_, rfl, ?_⟩
    simp only [zP, po]
    refine xK true (.bool (Op.bytesLess x.name name)) rfl ?_
    simp only [zP, po]
    refine wK k23 (wpIn_cond_split (t := (Op.bytesLess x.name name)) rfl (fun hc26 => ?_) (fun hc26 => ?_))
    ·refine kS (tK k22 ?_)
     refine bB (sK fun _ k27 => ?_)
     refine rL (xM (.slice ra j rc) rfl ?_)
     refine xM (.slice (some ⟨bb, bo, none⟩) L.length lc) rfl (xM (.int .i64 (j : Int)) rfl ?_)
     simp only [zP, po]
     refine xG (.pointer (some ⟨bb, bo + j * 7, none⟩)) rfl (ex_index rfl rfl rfl (run_idx (k := j) Tryz.underlying28 v2es28 (by omega))) (xL (.agg #[.string ⟨x.name.toArray⟩, .int .i64 x.val.kind, .string ⟨x.val.text.toArray⟩, xp, xt, xz, .int .i64 x.exp]) rfl (run_loadR (cs := [.string ⟨x.name.toArray⟩, .int .i64 x.val.kind, .string ⟨x.val.text.toArray⟩, xp, xt, xz, .int .i64 x.exp]) v2wd49 (Reads.mid (pre := []) (mid := [.string ⟨x.name.toArray⟩, .int .i64 x.val.kind, .string ⟨x.val.text.toArray⟩, xp, xt, xz, .int .i64 x.exp]) (post := []) hrdx _ _ _ (Base.Le.refl _) no_res hv)) ?_)
     refine sl_rowAgg (L := [.string ⟨x.name.toArray⟩, .int .i64 x.val.kind, .string ⟨x.val.text.toArray⟩, xp, xt, xz, .int .i64 x.exp]) tV (wn rfl) rfl rfl hv v3el28 rfl (by decide) (fun b28 w29 hv => ?_)
     simp only [zP, po]
     replace hv := hv.front 1 rfl
     simp only [List.eraseIdx_cons_succ, List.eraseIdx_cons_zero] at hv
     refine sl_append (news := [.string ⟨x.name.toArray⟩, .int .i64 x.val.kind, .string ⟨x.val.text.toArray⟩, xp, xt, xz, .int .i64 x.exp]) tV (wn rfl) rfl rfl rfl v3el28 hv (ok_full (by omega)) rfl (rd_all (hv.get 1 rfl)) (krCells_one (v := x) hvalx) (by unfold maxLen; omega) (by omega) (fun rv30 w33 hv => ?_)
     obtain ⟨ra31, rc32, rfl⟩ := row_slice hv.head
     refine xA (.slice ra31 (j + 1) rc32) rfl ?_
     simp only [zP, po]
     refine wK k27 (rL ?_)
     refine xM (.int .i64 (j : Int)) rfl (xG (.int .i64 ((j + 1 : Nat) : Int)) rfl (ex_add rfl rfl rfl (by rw [i64_in (by omega)]; omega)) ?_)
     refine xA (.int .i64 ((j + 1 : Nat) : Int)) rfl (wL ?_)
     simp only [zP, po]
     refine bN (then_normal ?_)
     go_roundw
     case rel => exact ⟨j + 1, _, _, _, rfl, rfl, by omega, KeysAt.next hys hx hvalx, take_all_next hx hpre hc26, (((((hv.front 4 rfl).front 4 rfl).front 4 rfl).front 3 rfl).sub (List.Sublist.cons_cons _ (List.Sublist.cons_cons _ (List.Sublist.cons_cons _ (List.Sublist.cons_cons _ (List.Sublist.cons _ (List.Sublist.refl _)))))))⟩
     case measure => show L.length - (((j + 1 : Nat) : Int)).toNat < L.length - ((j : Int)).toNat; omega
    refine xE (tX ?_)
    refine tX (bH ?_)
    refine tK k20 (sK fun _ k34 => ?_)
    have hstop : ∀ x, L[j]? = some x → Op.bytesLess x.name name = false := by
     intro x9 hx9
     rw [hx] at hx9; cases hx9; exact hc26
    refine rL (xM (.slice ra j rc) rfl ?_)
    refine xM (.string ⟨name.toArray⟩) rfl (xL (.agg #[.int .i64 v.kind, .string ⟨v.text.toArray⟩, vp, vt, vz]) rfl (run_load_mid (pre := []) (mid := [.int .i64 v.kind, .string ⟨v.text.toArray⟩, vp, vt, vz]) (post := []) s1wd35 (show Blk _ b4 ([] ++ [.int .i64 v.kind, .string ⟨v.text.toArray⟩, vp, vt, vz] ++ []) _ from hv.get 2 rfl) rfl) ?_)
    simp only [zP, po]
    refine xM (.int .i64 exp) rfl (xG (.agg #[.string ⟨name.toArray⟩, .int .i64 v.kind, .string ⟨v.text.toArray⟩, vp, vt, vz, .int .i64 exp]) rfl (ex_buildN (vs := #[(0, .string ⟨name.toArray⟩), (1, .agg #[.int .i64 v.kind, .string ⟨v.text.toArray⟩, vp, vt, vz]), (2, .int .i64 exp)]) rfl (by simp only [List.map_toArray, List.map_cons, List.map_nil]; rfl) (by kernel_rfl)) ?_)
    refine sl_rowAgg (L := [.string ⟨name.toArray⟩, .int .i64 v.kind, .string ⟨v.text.toArray⟩, vp, vt, vz, .int .i64 exp]) tV (wn rfl) rfl rfl hv v3el28 rfl (by decide) (fun b35 w36 hv => ?_)
    simp only [zP, po]
    replace hv := hv.front 1 rfl
    simp only [List.eraseIdx_cons_succ, List.eraseIdx_cons_zero] at hv
    refine sl_append (news := [.string ⟨name.toArray⟩, .int .i64 v.kind, .string ⟨v.text.toArray⟩, vp, vt, vz, .int .i64 exp]) tV (wn rfl) rfl rfl rfl v3el28 hv (ok_full (by omega)) rfl (rd_all (hv.get 1 rfl)) (krCells_one (v := ⟨name, v, exp⟩) hval) (by unfold maxLen; omega) (by omega) (fun rv37 w40 hv => ?_)
    obtain ⟨ra38, rc39, rfl⟩ := row_slice hv.head
    refine xA (.slice ra38 (j + 1) rc39) rfl ?_
    simp only [zP, po]
    refine wK k34 (sK fun _ k41 => ?_)
    obtain ⟨a3, c3, ha3, ok3, hr3⟩ := sliced_fromV 7 hlok hlr hlys.len hj (by decide)
    refine rW mixed [4, 9, 11] [0,1,2,3,5,6,7,8,4,9,10,11] 66 rfl (by kernel_rfl) hv ?_
    simp only [qm, opAt]
    refine dM (.slice ra38 (j + 1) rc39) rfl (dM (.slice (some ⟨bb, bo, none⟩) L.length lc) rfl ?_)
    refine dM (.int .i64 (j : Int)) rfl ?_
    simp only [zP, po]
    refine dG (.slice a3 (L.length - j) c3) rfl (ex_slice (lo' := some (.int .i64 (j : Int))) rfl rfl (congrArg some rfl) rfl rfl ((run_fromAny Tryz.underlying28 v2es28 (by omega)).trans (by rw [ha3]))) (dG (.pointer (some ⟨b2, 1, none⟩)) rfl (ex_field rfl rfl (v2fa31_1 _ _ _)) ?_)
    refine dF _ rfl (fun hv => ex_load rfl rfl (run_load1 s2na3 (hv.load 4 1 rfl rfl))) fun f42 hf42 => ?_
    simp only [zP, po]
    refine dF (.agg #[.slice ka K.length kc, .int .i64 clk, .slice wa wl.length wc]) rfl (fun hv => ex_load rfl rfl (run_load_mid (pre := []) (mid := [.slice ka K.length kc, .int .i64 clk, .slice wa wl.length wc]) (post := []) v2wd31 (show Blk _ b2 ([] ++ [.slice ka K.length kc, .int .i64 clk, .slice wa wl.length wc] ++ []) _ from hv.get 4 rfl) rfl)) fun f43 hf43 => dM (.string ⟨name.toArray⟩) rfl (dS rfl fun w44 hv => ?_)
    refine mem_append (news := lys.drop (j * 7)) rfl rfl rfl rfl v3el28 hv ok3 (by rw [List.length_drop, hlys.len, Nat.sub_mul]) ((hr3.more (Base.Le.refl _) (fun _ h => by cases h) : RdV C _ _ _).src hv) ((hlys.drop j).one) (by unfold maxLen; omega) (by omega) (fun rv45 w48 hv => ?_)
    obtain ⟨ra46, rc47, rfl⟩ := row_slice hv.head
    refine dV hv (fC (fun ww hv => hf43 ww (ex_load rfl rfl (run_load_mid (pre := []) (mid := [.slice ka K.length kc, .int .i64 clk, .slice wa wl.length wc]) (post := []) v2wd31 (show Blk _ b2 ([] ++ [.slice ka K.length kc, .int .i64 clk, .slice wa wl.length wc] ++ []) _ from hv.get 4 rfl) rfl))) (fC (fun ww hv => hf42 ww (ex_load rfl rfl (run_load1 s2na3 (hv.load 4 1 rfl rfl)))) fN)) ?_
    simp only [zP, po]
    refine dS rfl fun w49 hv => mC v2callable44 rfl ((refWrote20 C _ _ K wl ka wa kc wc xs clk (hR.more hC) hm hmw name hv).mono ?_) rfl
    rintro e w50 ⟨D, ya, yc, hD, rfl, hyok, hyr, hv⟩
    refine ⟨_, rfl, dV hv (fK rfl (fC (fun ww hv => hf42 ww (ex_load rfl rfl (run_load1 s2na3 (hv.load 4 1 rfl rfl)))) fN)) ?_⟩
    refine dG (.agg #[.slice ra46 ((j + 1) + (L.length - j)) rc47, .int .i64 clk, .slice ya (wl.length + 1) yc]) rfl (ex_buildN (vs := #[(0, .slice ra46 ((j + 1) + (L.length - j)) rc47), (1, .int .i64 clk), (2, .slice ya (wl.length + 1) yc)]) rfl (by simp only [List.map_toArray, List.map_cons, List.map_nil]; rfl) (by kernel_rfl)) (dS rfl fun w51 hv => ?_)
    refine mS 2 rfl hv v2sz31 rfl (by exact ⟨rfl, rfl, rfl, trivial⟩) (fun w52 hv => ?_)
    simp only [zS, zO, sp] at hv
    refine dV hv (fK rfl (fK rfl fN)) (dE fun w53 hv => ?_)
    simp only [zP, po]
    refine tK k41 (rR ?_)
    refine bodyPost_ret (res_cell1 rfl rfl (run_load_mid (pre := []) (mid := [.slice ra46 ((j + 1) + (L.length - j)) rc47, .int .i64 clk, .slice ya (wl.length + 1) yc]) (post := []) v2wd31 (show Blk _ b6 ([] ++ [.slice ra46 ((j + 1) + (L.length - j)) rc47, .int .i64 clk, .slice ya (wl.length + 1) yc] ++ []) _ from hv.get 2 rfl) rfl)) rfl ?_
    have hf : FullV v := .inr (by have h9 := hb12; unfold sizeV at h9; rw [if_neg (fun h8 => hb10 h8)] at h9; omega)
    obtain ⟨E, hE, hv2, hr2, hok2, -⟩ := ((hv.sub (List.Sublist.cons_cons _ (List.Sublist.cons _ (List.Sublist.cons _ (List.Sublist.cons _ (List.Sublist.cons _ (List.Sublist.refl _)))))))).rowBy
    have hkl : (L.take j ++ (⟨name, v, exp⟩ : KeyR) :: L.drop j).length = (j + 1) + (L.length - j) := by
     rw [List.length_append, List.length_cons, List.length_take, List.length_drop]; omega
    have hat : KeysAt E (L.take j ++ (⟨name, v, exp⟩ : KeyR) :: L.drop j) ((ys ++ [.string ⟨name.toArray⟩, .int .i64 v.kind, .string ⟨v.text.toArray⟩, vp, vt, vz, .int .i64 exp]) ++ (lys.drop (j * 7))) := by
     rw [show L.take j ++ (⟨name, v, exp⟩ : KeyR) :: L.drop j = (L.take j ++ [⟨name, v, exp⟩]) ++ L.drop j by simp]
     exact KeysAt.append ((hlys.drop j).more (hD.trans hE)) (KeysAt.append (KeysAt.single (hval.more ((hC.trans hD).trans hE))) (hys.more (hD.trans hE)))
    rw [← hkl] at hok2
    exact ⟨E, _, wl ++ [name], _, _, _, _, _, ((hC.trans hD).trans hE), by rw [hkl, List.length_append]; rfl, ⟨hok2, hr2, hat, by rw [List.length_append]; exact hyok, hyr.more hE (fun _ h => h)⟩, .inr ⟨hf, j, by rw [← hL]; exact hj, by rw [← hL], by rw [← hL]; exact hpre, by rw [← hL]; exact hstop⟩, by rw [List.length_append]; exact Nat.le_refl _, hv2⟩
   refine xG (.bool false) rfl (ex_lss rfl rfl rfl (decide_eq_false hb24)) (xM (.bool false) rfl ?_)
   refine yP rfl ?_
   simp only [zP, po]
   refine yP rfl (yP rfl ?_)
   refine yP rfl ?_
   simp only [zP, po]
   refine yP rfl (yP rfl ?_)
   refine yP rfl ?_
   simp only [zP, po]
   refine xK false (.bool false) rfl ?_
   simp only [zP, po]
   refine wK k23 (cF rfl ?_)
   refine xE (tX ?_)
   refine tX (bH ?_)
   refine tK k20 (sK fun _ k54 => ?_)
   have hstop : ∀ x, L[j]? = some x → Op.bytesLess x.name name = false := by
    intro x9 hx9
    have h9 := (List.getElem?_eq_some_iff.1 hx9).1; omega
   refine rL (xM (.slice ra j rc) rfl ?_)
   refine xM (.string ⟨name.toArray⟩) rfl (xL (.agg #[.int .i64 v.kind, .string ⟨v.text.toArray⟩, vp, vt, vz]) rfl (run_load_mid (pre := []) (mid := [.int .i64 v.kind, .string ⟨v.text.toArray⟩, vp, vt, vz]) (post := []) s1wd35 (show Blk _ b4 ([] ++ [.int .i64 v.kind, .string ⟨v.text.toArray⟩, vp, vt, vz] ++ []) _ from hv.get 2 rfl) rfl) ?_)
   simp only [zP, po]
   refine xM (.int .i64 exp) rfl (xG (.agg #[.string ⟨name.toArray⟩, .int .i64 v.kind, .string ⟨v.text.toArray⟩, vp, vt, vz, .int .i64 exp]) rfl (ex_buildN (vs := #[(0, .string ⟨name.toArray⟩), (1, .agg #[.int .i64 v.kind, .string ⟨v.text.toArray⟩, vp, vt, vz]), (2, .int .i64 exp)]) rfl (by simp only [List.map_toArray, List.map_cons, List.map_nil]; rfl) (by kernel_rfl)) ?_)
   refine sl_rowAgg (L := [.string ⟨name.toArray⟩, .int .i64 v.kind, .string ⟨v.text.toArray⟩, vp, vt, vz, .int .i64 exp]) tV (wn rfl) rfl rfl hv v3el28 rfl (by decide) (fun b55 w56 hv => ?_)
   simp only [zP, po]
   replace hv := hv.front 1 rfl
   simp only [List.eraseIdx_cons_succ, List.eraseIdx_cons_zero] at hv
   refine sl_append (news := [.string ⟨name.toArray⟩, .int .i64 v.kind, .string ⟨v.text.toArray⟩, vp, vt, vz, .int .i64 exp]) tV (wn rfl) rfl rfl rfl v3el28 hv (ok_full (by omega)) rfl (rd_all (hv.get 1 rfl)) (krCells_one (v := ⟨name, v, exp⟩) hval) (by unfold maxLen; omega) (by omega) (fun rv57 w60 hv => ?_)
   obtain ⟨ra58, rc59, rfl⟩ := row_slice hv.head
   refine xA (.slice ra58 (j + 1) rc59) rfl ?_
   simp only [zP, po]
   refine wK k54 (sK fun _ k61 => ?_)
   obtain ⟨a3, c3, ha3, ok3, hr3⟩ := sliced_fromV 7 hlok hlr hlys.len hj (by decide)
   refine rW mixed [4, 9, 11] [0,1,2,3,5,6,7,8,4,9,10,11] 66 rfl (by kernel_rfl) hv ?_
   simp only [qm, opAt]
   refine dM (.slice ra58 (j + 1) rc59) rfl (dM (.slice la L.length lc) rfl ?_)
   refine dM (.int .i64 (j : Int)) rfl ?_
   simp only [zP, po]
   refine dG (.slice a3 (L.length - j) c3) rfl (ex_slice (lo' := some (.int .i64 (j : Int))) rfl rfl (congrArg some rfl) rfl rfl ((run_fromAny Tryz.underlying28 v2es28 (by omega)).trans (by rw [ha3]))) (dG (.pointer (some ⟨b2, 1, none⟩)) rfl (ex_field rfl rfl (v2fa31_1 _ _ _)) ?_)
   refine dF _ rfl (fun hv => ex_load rfl rfl (run_load1 s2na3 (hv.load 4 1 rfl rfl))) fun f62 hf62 => ?_
   simp only [zP, po]
   refine dF (.agg #[.slice ka K.length kc, .int .i64 clk, .slice wa wl.length wc]) rfl (fun hv => ex_load rfl rfl (run_load_mid (pre := []) (mid := [.slice ka K.length kc, .int .i64 clk, .slice wa wl.length wc]) (post := []) v2wd31 (show Blk _ b2 ([] ++ [.slice ka K.length kc, .int .i64 clk, .slice wa wl.length wc] ++ []) _ from hv.get 4 rfl) rfl)) fun f63 hf63 => dM (.string ⟨name.toArray⟩) rfl (dS rfl fun w64 hv => ?_)
   refine mem_append (news := lys.drop (j * 7)) rfl rfl rfl rfl v3el28 hv ok3 (by rw [List.length_drop, hlys.len, Nat.sub_mul]) ((hr3.more (Base.Le.refl _) (fun _ h => by cases h) : RdV C _ _ _).src hv) ((hlys.drop j).one) (by unfold maxLen; omega) (by omega) (fun rv65 w68 hv => ?_)
   obtain ⟨ra66, rc67, rfl⟩ := row_slice hv.head
   refine dV hv (fC (fun ww hv => hf63 ww (ex_load rfl rfl (run_load_mid (pre := []) (mid := [.slice ka K.length kc, .int .i64 clk, .slice wa wl.length wc]) (post := []) v2wd31 (show Blk _ b2 ([] ++ [.slice ka K.length kc, .int .i64 clk, .slice wa wl.length wc] ++ []) _ from hv.get 4 rfl) rfl))) (fC (fun ww hv => hf62 ww (ex_load rfl rfl (run_load1 s2na3 (hv.load 4 1 rfl rfl)))) fN)) ?_
   simp only [zP, po]
   refine dS rfl fun w69 hv => mC v2callable44 rfl ((refWrote20 C _ _ K wl ka wa kc wc xs clk (hR.more hC) hm hmw name hv).mono ?_) rfl
   rintro e w70 ⟨D, ya, yc, hD, rfl, hyok, hyr, hv⟩
   refine ⟨_, rfl, dV hv (fK rfl (fC (fun ww hv => hf62 ww (ex_load rfl rfl (run_load1 s2na3 (hv.load 4 1 rfl rfl)))) fN)) ?_⟩
   refine dG (.agg #[.slice ra66 ((j + 1) + (L.length - j)) rc67, .int .i64 clk, .slice ya (wl.length + 1) yc]) rfl (ex_buildN (vs := #[(0, .slice ra66 ((j + 1) + (L.length - j)) rc67), (1, .int .i64 clk), (2, .slice ya (wl.length + 1) yc)]) rfl (by simp only [List.map_toArray, List.map_cons, List.map_nil]; rfl) (by kernel_rfl)) (dS rfl fun w71 hv => ?_)
   refine mS 2 rfl hv v2sz31 rfl (by exact ⟨rfl, rfl, rfl, trivial⟩) (fun w72 hv => ?_)
   simp only [zS, zO, sp] at hv
   refine dV hv (fK rfl (fK rfl fN)) (dE fun w73 hv => ?_)
   simp only [zP, po]
   refine tK k61 (rR ?_)
   refine bodyPost_ret (res_cell1 rfl rfl (run_load_mid (pre := []) (mid := [.slice ra66 ((j + 1) + (L.length - j)) rc67, .int .i64 clk, .slice ya (wl.length + 1) yc]) (post := []) v2wd31 (show Blk _ b6 ([] ++ [.slice ra66 ((j + 1) + (L.length - j)) rc67, .int .i64 clk, .slice ya (wl.length + 1) yc] ++ []) _ from hv.get 2 rfl) rfl)) rfl ?_
   have hf : FullV v := .inr (by have h9 := hb12; unfold sizeV at h9; rw [if_neg (fun h8 => hb10 h8)] at h9; omega)
   obtain ⟨E, hE, hv2, hr2, hok2, -⟩ := ((hv.sub (List.Sublist.cons_cons _ (List.Sublist.cons _ (List.Sublist.cons _ (List.Sublist.cons _ (List.Sublist.cons _ (List.Sublist.refl _)))))))).rowBy
   have hkl : (L.take j ++ (⟨name, v, exp⟩ : KeyR) :: L.drop j).length = (j + 1) + (L.length - j) := by
    rw [List.length_append, List.length_cons, List.length_take, List.length_drop]; omega
   have hat : KeysAt E (L.take j ++ (⟨name, v, exp⟩ : KeyR) :: L.drop j) ((ys ++ [.string ⟨name.toArray⟩, .int .i64 v.kind, .string ⟨v.text.toArray⟩, vp, vt, vz, .int .i64 exp]) ++ (lys.drop (j * 7))) := by
    rw [show L.take j ++ (⟨name, v, exp⟩ : KeyR) :: L.drop j = (L.take j ++ [⟨name, v, exp⟩]) ++ L.drop j by simp]
    exact KeysAt.append ((hlys.drop j).more (hD.trans hE)) (KeysAt.append (KeysAt.single (hval.more ((hC.trans hD).trans hE))) (hys.more (hD.trans hE)))
   rw [← hkl] at hok2
   exact ⟨E, _, wl ++ [name], _, _, _, _, _, ((hC.trans hD).trans hE), by rw [hkl, List.length_append]; rfl, ⟨hok2, hr2, hat, by rw [List.length_append]; exact hyok, hyr.more hE (fun _ h => h)⟩, .inr ⟨hf, j, by rw [← hL]; exact hj, by rw [← hL], by rw [← hL]; exact hpre, by rw [← hL]; exact hstop⟩, by rw [List.length_append]; exact Nat.le_refl _, hv2⟩
 refine xG (.bool false) rfl (ex_neq rfl rfl rfl (decide_eq_false hb10)) ?_
 simp only [zP, po]
 refine xM (.bool false) rfl ?_
 iterate 3 refine yN rfl ?_
 refine xK false (.bool false) rfl ?_
 simp only [zP, po]
 refine wK k9 (cF rfl ?_)
 refine kS (tK k8 ?_)
 refine sK fun _ k74 => rL (xL (.agg #[.slice ka K.length kc, .int .i64 clk, .slice wa wl.length wc]) rfl (run_load_mid (pre := []) (mid := [.slice ka K.length kc, .int .i64 clk, .slice wa wl.length wc]) (post := []) v2wd31 (show Blk _ b2 ([] ++ [.slice ka K.length kc, .int .i64 clk, .slice wa wl.length wc] ++ []) _ from hv.get 2 rfl) rfl) ?_)
 refine xM (.string ⟨name.toArray⟩) rfl (xC v2callable42 rfl ((refWithout20 B _ _ K wl ka wa kc wc xs clk hR hm hmw name hv).mono ?_) rfl)
 rintro e w75 ⟨C, la, lc, lys, hC, rfl, hlok, hlr, hlys, hv⟩
 refine ⟨_, rfl, ?_⟩
 obtain ⟨L, hL⟩ : ∃ L, L = others K name := ⟨_, rfl⟩
 have hLl := others_le K name
 have hLm : ∀ x ∈ L, x ∈ K := fun x hx => others_mem (by rw [← hL]; exact hx)
 rw [← hL] at hlok hlys hLl
 rw [show (others K name).length = L.length by rw [hL]]
 simp only [zP, po]
 refine xA (.slice la L.length lc) rfl ?_
 simp only [zP, po]
 refine wK k74 (sK fun _ k76 => ?_)
 refine rL (xA (.slice none 0 0) rfl ?_)
 simp only [zP, po]
 refine wK k76 (sK fun _ k77 => ?_)
 refine rL (xA (.int .i64 0) rfl ?_)
 simp only [zP, po]
 refine wK k77 (sK fun _ k78 => ?_)
 refine bB ?_
 gi_loopw [10, 11] (fun x10 x11 wr => ∃ (j : Nat) (ra : Option Addr) (rc : Nat) (ys : List Value), x10 = .slice ra j rc ∧ x11 = .int .i64 (j : Int) ∧ j ≤ L.length ∧ KeysAt C (L.take j) ys ∧ (∀ x ∈ L.take j, Op.bytesLess x.name name = true) ∧ Inv C (Res.row 49 7 (.slice ra j rc) j ys :: Res.cell b6 [.slice none 0 0, .int .i64 0, .slice none 0 0] 31 :: Res.cell b4 [.int .i64 v.kind, .string ⟨v.text.toArray⟩, vp, vt, vz] 35 :: Res.cell b2 [.slice ka K.length kc, .int .i64 clk, .slice wa wl.length wc] 31 :: H) wr) (fun x10 x11 _ => L.length - (intOf x11).toNat)
 case atStart => exact ⟨0, none, 0, [], rfl, rfl, Nat.zero_le _, rfl, fun x hx => (by cases hx), ((((hv.front 2 rfl).front 2 rfl).front 2 rfl)).rowNil 49 7⟩
 case round =>
  obtain ⟨j, ra, rc, ys, rfl, rfl, hj, hys, hpre, hv⟩ := hrel
  refine sK fun _ k80 => sK fun _ k81 => rL (xM (.int .i64 (j : Int)) rfl ?_)
  refine xM (.slice la L.length lc) rfl (xG (.int .i64 (L.length : Int)) rfl (ex_len0 Tryz.underlying28 rfl rfl) ?_)
  simp only [zP, po]
  by_cases hb82 : (j : Int) < (L.length : Int)
  ·obtain ⟨x, hx⟩ : ∃ x, L[j]? = some x := ⟨_, List.getElem?_eq_getElem (show j < L.length by omega)⟩
   obtain ⟨bb, bo, xp, xt, xz, had, hvalx, hrdx⟩ := KeysAt.reads hlys hlr hx
   subst had
   have hxK := hkn x (hLm x (List.mem_of_getElem? hx))
   refine xG (.bool true) rfl (ex_lss rfl rfl rfl (decide_eq_true hb82)) (xM (.bool true) rfl ?_)
   refine xM (.slice (some ⟨bb, bo, none⟩) L.length lc) rfl ?_
   simp only [zP, po]
   refine xM (.int .i64 (j : Int)) rfl (xG (.pointer (some ⟨bb, bo + j * 7, none⟩)) rfl (ex_index rfl rfl rfl (run_idx (k := j) Tryz.underlying28 v2es28 (by omega))) ?_)
   refine xF (.pointer (some ⟨bb, bo + j * 7, none⟩)) rfl (v2fa49_0 _ _ _) ?_
   simp only [zP, po]
   refine xL _ rfl (run_load1 s9na9 (hrdx _ _ _ (Base.Le.refl _) no_res hv 0 _ rfl)) (xM (.string ⟨name.toArray⟩) rfl ?_)
   refine xC v3callable43 rfl ((refLess C _ _ x.name name (by omega) hv).mono ?_) rfl
   rintro e w83 ⟨rfl, hv⟩
   refine ⟨_, rfl, ?_⟩
   simp only [zP, po]
   refine xK true (.bool (Op.bytesLess x.name name)) rfl ?_
   simp only [zP, po]
   refine wK k81 (wpIn_cond_split (t := (Op.bytesLess x.name name)) rfl (fun hc84 => ?_) (fun hc84 => ?_))
   ·refine kS (tK k80 ?_)
    refine bB (sK fun _ k85 => ?_)
    refine rL (xM (.slice ra j rc) rfl ?_)
    refine xM (.slice (some ⟨bb, bo, none⟩) L.length lc) rfl (xM (.int .i64 (j : Int)) rfl ?_)
    simp only [zP, po]
    refine xG (.pointer (some ⟨bb, bo + j * 7, none⟩)) rfl (ex_index rfl rfl rfl (run_idx (k := j) Tryz.underlying28 v2es28 (by omega))) (xL (.agg #[.string ⟨x.name.toArray⟩, .int .i64 x.val.kind, .string ⟨x.val.text.toArray⟩, xp, xt, xz, .int .i64 x.exp]) rfl (run_loadR (cs := [.string ⟨x.name.toArray⟩, .int .i64 x.val.kind, .string ⟨x.val.text.toArray⟩, xp, xt, xz, .int .i64 x.exp]) v2wd49 (Reads.mid (pre := []) (mid := [.string ⟨x.name.toArray⟩, .int .i64 x.val.kind, .string ⟨x.val.text.toArray⟩, xp, xt, xz, .int .i64 x.exp]) (post := []) hrdx _ _ _ (Base.Le.refl _) no_res hv)) ?_)
    refine sl_rowAgg (L := [.string ⟨x.name.toArray⟩, .int .i64 x.val.kind, .string ⟨x.val.text.toArray⟩, xp, xt, xz, .int .i64 x.exp]) tV (wn rfl) rfl rfl hv v3el28 rfl (by decide) (fun b86 w87 hv => ?_)
    simp only [zP, po]
    replace hv := hv.front 1 rfl
    simp only [List.eraseIdx_cons_succ, List.eraseIdx_cons_zero] at hv
    refine sl_append (news := [.string ⟨x.name.toArray⟩, .int .i64 x.val.kind, .string ⟨x.val.text.toArray⟩, xp, xt, xz, .int .i64 x.exp]) tV (wn rfl) rfl rfl rfl v3el28 hv (ok_full (by omega)) rfl (rd_all (hv.get 1 rfl)) (krCells_one (v := x) hvalx) (by unfold maxLen; omega) (by omega) (fun rv88 w91 hv => ?_)
    obtain ⟨ra89, rc90, rfl⟩ := row_slice hv.head
    refine xA (.slice ra89 (j + 1) rc90) rfl ?_
    simp only [zP, po]
    refine wK k85 (rL ?_)
    refine xM (.int .i64 (j : Int)) rfl (xG (.int .i64 ((j + 1 : Nat) : Int)) rfl (ex_add rfl rfl rfl (by rw [i64_in (by omega)]; omega)) ?_)
    refine xA (.int .i64 ((j + 1 : Nat) : Int)) rfl (wL ?_)
    simp only [zP, po]
    refine bN (then_normal ?_)
    go_roundw
    case rel => exact ⟨j + 1, _, _, _, rfl, rfl, by omega, KeysAt.next hys hx hvalx, take_all_next hx hpre hc84, (((((hv.front 4 rfl).front 4 rfl).front 4 rfl).front 3 rfl).sub (List.Sublist.cons_cons _ (List.Sublist.cons_cons _ (List.Sublist.cons_cons _ (List.Sublist.cons_cons _ (List.Sublist.cons _ (List.Sublist.refl _)))))))⟩
    case measure => show L.length - (((j + 1 : Nat) : Int)).toNat < L.length - ((j : Int)).toNat; omega
   refine xE (tX ?_)
   refine tX (bH ?_)
   refine tK k78 (sK fun _ k92 => ?_)
   have hstop : ∀ x, L[j]? = some x → Op.bytesLess x.name name = false := by
    intro x9 hx9
    rw [hx] at hx9; cases hx9; exact hc84
   refine rL (xM (.slice ra j rc) rfl ?_)
   refine xM (.string ⟨name.toArray⟩) rfl (xL (.agg #[.int .i64 v.kind, .string ⟨v.text.toArray⟩, vp, vt, vz]) rfl (run_load_mid (pre := []) (mid := [.int .i64 v.kind, .string ⟨v.text.toArray⟩, vp, vt, vz]) (post := []) s1wd35 (show Blk _ b4 ([] ++ [.int .i64 v.kind, .string ⟨v.text.toArray⟩, vp, vt, vz] ++ []) _ from hv.get 2 rfl) rfl) ?_)
   simp only [zP, po]
   refine xM (.int .i64 exp) rfl (xG (.agg #[.string ⟨name.toArray⟩, .int .i64 v.kind, .string ⟨v.text.toArray⟩, vp, vt, vz, .int .i64 exp]) rfl (ex_buildN (vs := #[(0, .string ⟨name.toArray⟩), (1, .agg #[.int .i64 v.kind, .string ⟨v.text.toArray⟩, vp, vt, vz]), (2, .int .i64 exp)]) rfl (by simp only [List.map_toArray, List.map_cons, List.map_nil]; rfl) (by kernel_rfl)) ?_)
   refine sl_rowAgg (L := [.string ⟨name.toArray⟩, .int .i64 v.kind, .string ⟨v.text.toArray⟩, vp, vt, vz, .int .i64 exp]) tV (wn rfl) rfl rfl hv v3el28 rfl (by decide) (fun b93 w94 hv => ?_)
   simp only [zP, po]
   replace hv := hv.front 1 rfl
   simp only [List.eraseIdx_cons_succ, List.eraseIdx_cons_zero] at hv
   refine sl_append (news := [.string ⟨name.toArray⟩, .int .i64 v.kind, .string ⟨v.text.toArray⟩, vp, vt, vz, .int .i64 exp]) tV (wn rfl) rfl rfl rfl v3el28 hv (ok_full (by omega)) rfl (rd_all (hv.get 1 rfl)) (krCells_one (v := ⟨name, v, exp⟩) hval) (by unfold maxLen; omega) (by omega) (fun rv95 w98 hv => ?_)
   obtain ⟨ra96, rc97, rfl⟩ := row_slice hv.head
   refine xA (.slice ra96 (j + 1) rc97) rfl ?_
   simp only [zP, po]
   refine wK k92 (sK fun _ k99 => ?_)
   obtain ⟨a3, c3, ha3, ok3, hr3⟩ := sliced_fromV 7 hlok hlr hlys.len hj (by decide)
   refine rW mixed [4, 9, 11] [0,1,2,3,5,6,7,8,4,9,10,11] 66 rfl (by kernel_rfl) hv ?_
   simp only [qm, opAt]
   refine dM (.slice ra96 (j + 1) rc97) rfl (dM (.slice (some ⟨bb, bo, none⟩) L.length lc) rfl ?_)
   refine dM (.int .i64 (j : Int)) rfl ?_
   simp only [zP, po]
   refine dG (.slice a3 (L.length - j) c3) rfl (ex_slice (lo' := some (.int .i64 (j : Int))) rfl rfl (congrArg some rfl) rfl rfl ((run_fromAny Tryz.underlying28 v2es28 (by omega)).trans (by rw [ha3]))) (dG (.pointer (some ⟨b2, 1, none⟩)) rfl (ex_field rfl rfl (v2fa31_1 _ _ _)) ?_)
   refine dF _ rfl (fun hv => ex_load rfl rfl (run_load1 s2na3 (hv.load 4 1 rfl rfl))) fun f100 hf100 => ?_
   simp only [zP, po]
   refine dF (.agg #[.slice ka K.length kc, .int .i64 clk, .slice wa wl.length wc]) rfl (fun hv => ex_load rfl rfl (run_load_mid (pre := []) (mid := [.slice ka K.length kc, .int .i64 clk, .slice wa wl.length wc]) (post := []) v2wd31 (show Blk _ b2 ([] ++ [.slice ka K.length kc, .int .i64 clk, .slice wa wl.length wc] ++ []) _ from hv.get 4 rfl) rfl)) fun f101 hf101 => dM (.string ⟨name.toArray⟩) rfl (dS rfl fun w102 hv => ?_)
   refine mem_append (news := lys.drop (j * 7)) rfl rfl rfl rfl v3el28 hv ok3 (by rw [List.length_drop, hlys.len, Nat.sub_mul]) ((hr3.more (Base.Le.refl _) (fun _ h => by cases h) : RdV C _ _ _).src hv) ((hlys.drop j).one) (by unfold maxLen; omega) (by omega) (fun rv103 w106 hv => ?_)
   obtain ⟨ra104, rc105, rfl⟩ := row_slice hv.head
   refine dV hv (fC (fun ww hv => hf101 ww (ex_load rfl rfl (run_load_mid (pre := []) (mid := [.slice ka K.length kc, .int .i64 clk, .slice wa wl.length wc]) (post := []) v2wd31 (show Blk _ b2 ([] ++ [.slice ka K.length kc, .int .i64 clk, .slice wa wl.length wc] ++ []) _ from hv.get 4 rfl) rfl))) (fC (fun ww hv => hf100 ww (ex_load rfl rfl (run_load1 s2na3 (hv.load 4 1 rfl rfl)))) fN)) ?_
   simp only [zP, po]
   refine dS rfl fun w107 hv => mC v2callable44 rfl ((refWrote20 C _ _ K wl ka wa kc wc xs clk (hR.more hC) hm hmw name hv).mono ?_) rfl
   rintro e w108 ⟨D, ya, yc, hD, rfl, hyok, hyr, hv⟩
   refine ⟨_, rfl, dV hv (fK rfl (fC (fun ww hv => hf100 ww (ex_load rfl rfl (run_load1 s2na3 (hv.load 4 1 rfl rfl)))) fN)) ?_⟩
   refine dG (.agg #[.slice ra104 ((j + 1) + (L.length - j)) rc105, .int .i64 clk, .slice ya (wl.length + 1) yc]) rfl (ex_buildN (vs := #[(0, .slice ra104 ((j + 1) + (L.length - j)) rc105), (1, .int .i64 clk), (2, .slice ya (wl.length + 1) yc)]) rfl (by simp only [List.map_toArray, List.map_cons, List.map_nil]; rfl) (by kernel_rfl)) (dS rfl fun w109 hv => ?_)
   refine mS 2 rfl hv v2sz31 rfl (by exact ⟨rfl, rfl, rfl, trivial⟩) (fun w110 hv => ?_)
   simp only [zS, zO, sp] at hv
   refine dV hv (fK rfl (fK rfl fN)) (dE fun w111 hv => ?_)
   simp only [zP, po]
   refine tK k99 (rR ?_)
   refine bodyPost_ret (res_cell1 rfl rfl (run_load_mid (pre := []) (mid := [.slice ra104 ((j + 1) + (L.length - j)) rc105, .int .i64 clk, .slice ya (wl.length + 1) yc]) (post := []) v2wd31 (show Blk _ b6 ([] ++ [.slice ra104 ((j + 1) + (L.length - j)) rc105, .int .i64 clk, .slice ya (wl.length + 1) yc] ++ []) _ from hv.get 2 rfl) rfl)) rfl ?_
   have hf : FullV v := .inl (by omega)
   obtain ⟨E, hE, hv2, hr2, hok2, -⟩ := ((hv.sub (List.Sublist.cons_cons _ (List.Sublist.cons _ (List.Sublist.cons _ (List.Sublist.cons _ (List.Sublist.cons _ (List.Sublist.refl _)))))))).rowBy
   have hkl : (L.take j ++ (⟨name, v, exp⟩ : KeyR) :: L.drop j).length = (j + 1) + (L.length - j) := by
    rw [List.length_append, List.length_cons, List.length_take, List.length_drop]; omega
   have hat : KeysAt E (L.take j ++ (⟨name, v, exp⟩ : KeyR) :: L.drop j) ((ys ++ [.string ⟨name.toArray⟩, .int .i64 v.kind, .string ⟨v.text.toArray⟩, vp, vt, vz, .int .i64 exp]) ++ (lys.drop (j * 7))) := by
    rw [show L.take j ++ (⟨name, v, exp⟩ : KeyR) :: L.drop j = (L.take j ++ [⟨name, v, exp⟩]) ++ L.drop j by simp]
    exact KeysAt.append ((hlys.drop j).more (hD.trans hE)) (KeysAt.append (KeysAt.single (hval.more ((hC.trans hD).trans hE))) (hys.more (hD.trans hE)))
   rw [← hkl] at hok2
   exact ⟨E, _, wl ++ [name], _, _, _, _, _, ((hC.trans hD).trans hE), by rw [hkl, List.length_append]; rfl, ⟨hok2, hr2, hat, by rw [List.length_append]; exact hyok, hyr.more hE (fun _ h => h)⟩, .inr ⟨hf, j, by rw [← hL]; exact hj, by rw [← hL], by rw [← hL]; exact hpre, by rw [← hL]; exact hstop⟩, by rw [List.length_append]; exact Nat.le_refl _, hv2⟩
  refine xG (.bool false) rfl (ex_lss rfl rfl rfl (decide_eq_false hb82)) (xM (.bool false) rfl ?_)
  refine yP rfl ?_
  simp only [zP, po]
  refine yP rfl (yP rfl ?_)
  refine yP rfl ?_
  simp only [zP, po]
  refine yP rfl (yP rfl ?_)
  refine yP rfl ?_
  simp only [zP, po]
  refine xK false (.bool false) rfl ?_
  simp only [zP, po]
  refine wK k81 (cF rfl ?_)
  refine xE (tX ?_)
  refine tX (bH ?_)
  refine tK k78 (sK fun _ k112 => ?_)
  have hstop : ∀ x, L[j]? = some x → Op.bytesLess x.name name = false := by
   intro x9 hx9
   have h9 := (List.getElem?_eq_some_iff.1 hx9).1; omega
  refine rL (xM (.slice ra j rc) rfl ?_)
  refine xM (.string ⟨name.toArray⟩) rfl (xL (.agg #[.int .i64 v.kind, .string ⟨v.text.toArray⟩, vp, vt, vz]) rfl (run_load_mid (pre := []) (mid := [.int .i64 v.kind, .string ⟨v.text.toArray⟩, vp, vt, vz]) (post := []) s1wd35 (show Blk _ b4 ([] ++ [.int .i64 v.kind, .string ⟨v.text.toArray⟩, vp, vt, vz] ++ []) _ from hv.get 2 rfl) rfl) ?_)
  simp only [zP, po]
  refine xM (.int .i64 exp) rfl (xG (.agg #[.string ⟨name.toArray⟩, .int .i64 v.kind, .string ⟨v.text.toArray⟩, vp, vt, vz, .int .i64 exp]) rfl (ex_buildN (vs := #[(0, .string ⟨name.toArray⟩), (1, .agg #[.int .i64 v.kind, .string ⟨v.text.toArray⟩, vp, vt, vz]), (2, .int .i64 exp)]) rfl (by simp only [List.map_toArray, List.map_cons, List.map_nil]; rfl) (by kernel_rfl)) ?_)
  refine sl_rowAgg (L := [.string ⟨name.toArray⟩, .int .i64 v.kind, .string ⟨v.text.toArray⟩, vp, vt, vz, .int .i64 exp]) tV (wn rfl) rfl rfl hv v3el28 rfl (by decide) (fun b113 w114 hv => ?_)
  simp only [zP, po]
  replace hv := hv.front 1 rfl
  simp only [List.eraseIdx_cons_succ, List.eraseIdx_cons_zero] at hv
  refine sl_append (news := [.string ⟨name.toArray⟩, .int .i64 v.kind, .string ⟨v.text.toArray⟩, vp, vt, vz, .int .i64 exp]) tV (wn rfl) rfl rfl rfl v3el28 hv (ok_full (by omega)) rfl (rd_all (hv.get 1 rfl)) (krCells_one (v := ⟨name, v, exp⟩) hval) (by unfold maxLen; omega) (by omega) (fun rv115 w118 hv => ?_)
  obtain ⟨ra116, rc117, rfl⟩ := row_slice hv.head
  refine xA (.slice ra116 (j + 1) rc117) rfl ?_
  simp only [zP, po]
  refine wK k112 (sK fun _ k119 => ?_)
  obtain ⟨a3, c3, ha3, ok3, hr3⟩ := sliced_fromV 7 hlok hlr hlys.len hj (by decide)
  refine rW mixed [4, 9, 11] [0,1,2,3,5,6,7,8,4,9,10,11] 66 rfl (by kernel_rfl) hv ?_
  simp only [qm, opAt]
  refine dM (.slice ra116 (j + 1) rc117) rfl (dM (.slice la L.length lc) rfl ?_)
  refine dM (.int .i64 (j : Int)) rfl ?_
  simp only [zP, po]
  refine dG (.slice a3 (L.length - j) c3) rfl (ex_slice (lo' := some (.int .i64 (j : Int))) rfl rfl (congrArg some rfl) rfl rfl ((run_fromAny Tryz.underlying28 v2es28 (by omega)).trans (by rw [ha3]))) (dG (.pointer (some ⟨b2, 1, none⟩)) rfl (ex_field rfl rfl (v2fa31_1 _ _ _)) ?_)
  refine dF _ rfl (fun hv => ex_load rfl rfl (run_load1 s2na3 (hv.load 4 1 rfl rfl))) fun f120 hf120 => ?_
  simp only [zP, po]
  refine dF (.agg #[.slice ka K.length kc, .int .i64 clk, .slice wa wl.length wc]) rfl (fun hv => ex_load rfl rfl (run_load_mid (pre := []) (mid := [.slice ka K.length kc, .int .i64 clk, .slice wa wl.length wc]) (post := []) v2wd31 (show Blk _ b2 ([] ++ [.slice ka K.length kc, .int .i64 clk, .slice wa wl.length wc] ++ []) _ from hv.get 4 rfl) rfl)) fun f121 hf121 => dM (.string ⟨name.toArray⟩) rfl (dS rfl fun w122 hv => ?_)
  refine mem_append (news := lys.drop (j * 7)) rfl rfl rfl rfl v3el28 hv ok3 (by rw [List.length_drop, hlys.len, Nat.sub_mul]) ((hr3.more (Base.Le.refl _) (fun _ h => by cases h) : RdV C _ _ _).src hv) ((hlys.drop j).one) (by unfold maxLen; omega) (by omega) (fun rv123 w126 hv => ?_)
  obtain ⟨ra124, rc125, rfl⟩ := row_slice hv.head
  refine dV hv (fC (fun ww hv => hf121 ww (ex_load rfl rfl (run_load_mid (pre := []) (mid := [.slice ka K.length kc, .int .i64 clk, .slice wa wl.length wc]) (post := []) v2wd31 (show Blk _ b2 ([] ++ [.slice ka K.length kc, .int .i64 clk, .slice wa wl.length wc] ++ []) _ from hv.get 4 rfl) rfl))) (fC (fun ww hv => hf120 ww (ex_load rfl rfl (run_load1 s2na3 (hv.load 4 1 rfl rfl)))) fN)) ?_
  simp only [zP, po]
  refine dS rfl fun w127 hv => mC v2callable44 rfl ((refWrote20 C _ _ K wl ka wa kc wc xs clk (hR.more hC) hm hmw name hv).mono ?_) rfl
  rintro e w128 ⟨D, ya, yc, hD, rfl, hyok, hyr, hv⟩
  refine ⟨_, rfl, dV hv (fK rfl (fC (fun ww hv => hf120 ww (ex_load rfl rfl (run_load1 s2na3 (hv.load 4 1 rfl rfl)))) fN)) ?_⟩
  refine dG (.agg #[.slice ra124 ((j + 1) + (L.length - j)) rc125, .int .i64 clk, .slice ya (wl.length + 1) yc]) rfl (ex_buildN (vs := #[(0, .slice ra124 ((j + 1) + (L.length - j)) rc125), (1, .int .i64 clk), (2, .slice ya (wl.length + 1) yc)]) rfl (by simp only [List.map_toArray, List.map_cons, List.map_nil]; rfl) (by kernel_rfl)) (dS rfl fun w129 hv => ?_)
  refine mS 2 rfl hv v2sz31 rfl (by exact ⟨rfl, rfl, rfl, trivial⟩) (fun w130 hv => ?_)
  simp only [zS, zO, sp] at hv
  refine dV hv (fK rfl (fK rfl fN)) (dE fun w131 hv => ?_)
  simp only [zP, po]
  refine tK k119 (rR ?_)
  refine bodyPost_ret (res_cell1 rfl rfl (run_load_mid (pre := []) (mid := [.slice ra124 ((j + 1) + (L.length - j)) rc125, .int .i64 clk, .slice ya (wl.length + 1) yc]) (post := []) v2wd31 (show Blk _ b6 ([] ++ [.slice ra124 ((j + 1) + (L.length - j)) rc125, .int .i64 clk, .slice ya (wl.length + 1) yc] ++ []) _ from hv.get 2 rfl) rfl)) rfl ?_
  have hf : FullV v := .inl (by omega)
  obtain ⟨E, hE, hv2, hr2, hok2, -⟩ := ((hv.sub (List.Sublist.cons_cons _ (List.Sublist.cons _ (List.Sublist.cons _ (List.Sublist.cons _ (List.Sublist.cons _ (List.Sublist.refl _)))))))).rowBy
  have hkl : (L.take j ++ (⟨name, v, exp⟩ : KeyR) :: L.drop j).length = (j + 1) + (L.length - j) := by
   rw [List.length_append, List.length_cons, List.length_take, List.length_drop]; omega
  have hat : KeysAt E (L.take j ++ (⟨name, v, exp⟩ : KeyR) :: L.drop j) ((ys ++ [.string ⟨name.toArray⟩, .int .i64 v.kind, .string ⟨v.text.toArray⟩, vp, vt, vz, .int .i64 exp]) ++ (lys.drop (j * 7))) := by
   rw [show L.take j ++ (⟨name, v, exp⟩ : KeyR) :: L.drop j = (L.take j ++ [⟨name, v, exp⟩]) ++ L.drop j by simp]
   exact KeysAt.append ((hlys.drop j).more (hD.trans hE)) (KeysAt.append (KeysAt.single (hval.more ((hC.trans hD).trans hE))) (hys.more (hD.trans hE)))
  rw [← hkl] at hok2
  exact ⟨E, _, wl ++ [name], _, _, _, _, _, ((hC.trans hD).trans hE), by rw [hkl, List.length_append]; rfl, ⟨hok2, hr2, hat, by rw [List.length_append]; exact hyok, hyr.more hE (fun _ h => h)⟩, .inr ⟨hf, j, by rw [← hL]; exact hj, by rw [← hL], by rw [← hL]; exact hpre, by rw [← hL]; exact hstop⟩, by rw [List.length_append]; exact Nat.le_refl _, hv2⟩
end Go.Proofs.YtkoghbmjbobfjaaGreat
/-
  DERIVED: THE SHELF's CONTRACTS AT THIS DUMP, IN PLAIN WORDS (tools/lay-plain.mjs out of 'YtkoghbmjbobfjaaGreatShVSoft.lean', which tools/lay-shelf.mjs wrote): THE SAME DECLARATIONS UNDER THE SAME NAMES: 'import', 'namespace', 'open', 'def', 'theorem' AND NOTHING ELSE: no command of the shelf's: FOR A HAND-IN. Each laying: the table of numbers ('.._ren') and one theorem, a field a fact of the dump's own or the kernel's comparison; each contract: ONE APPLICATION.
-/
namespace Go.Proofs
open Go.Shelf
def Tryz.laysKeys_ren : Go.Shelf.Ren := ⟨fun | 7 => 87 | 10 => 109 | n => n, fun | 23 => 118 | 26 => 9 | 3 => 45 | 28 => 160 | 0 => 0 | 27 => 159 | 33 => 126 | 4 => 4 | n => n, fun | n => n⟩
theorem Tryz.laysKeys : Go.Proofs.SlLaysZ.n7 Tryz.prog Tryz.laysKeys_ren := {
 mixed := by kernel_rfl
 f7 := ⟨Tryz.f87.name, by decide, Tryz.func87.trans (congrArg some (by kernel_rfl))⟩
 f10 := ⟨Tryz.f109.name, by decide, Tryz.func109.trans (congrArg some (by kernel_rfl))⟩
 t0 := Tryz.underlying0
 a0 := Tryz.isAgg0
 z0 := Tryz.sizeOf0
 v0 := Tryz.zeroValue0
 t4 := Tryz.underlying4
 a4 := Tryz.isAgg4
 z4 := Tryz.sizeOf4
 v4 := Tryz.zeroValue4
 t23 := Tryz.underlying118
 a23 := Tryz.isAgg118
 z23 := Tryz.sizeOf118
 v23 := Tryz.zeroValue118
 t26 := Tryz.underlying9
 a26 := Tryz.isAgg9
 z26 := Tryz.sizeOf9
 v26 := Tryz.zeroValue9
 t27 := Tryz.underlying159
 a27 := Tryz.isAgg159
 z27 := Tryz.sizeOf159
 v27 := Tryz.zeroValue159
 t28 := Tryz.underlying160
 a28 := Tryz.isAgg160
 z28 := Tryz.sizeOf160
 v28 := Tryz.zeroValue160
 t33 := Tryz.underlying126
 a33 := Tryz.isAgg126
 z33 := Tryz.sizeOf126
 v33 := Tryz.zeroValue126 }
def Tryz.laysKeys1_ren : Go.Shelf.Ren := ⟨fun | 10 => 109 | n => n, fun | 33 => 126 | 23 => 118 | 0 => 0 | 4 => 4 | 26 => 9 | 3 => 45 | n => n, fun | n => n⟩
theorem Tryz.laysKeys1 : Go.Proofs.SlLaysZ.n10 Tryz.prog Tryz.laysKeys1_ren := {
 mixed := by kernel_rfl
 f10 := ⟨Tryz.f109.name, by decide, Tryz.func109.trans (congrArg some (by kernel_rfl))⟩
 t0 := Tryz.underlying0
 a0 := Tryz.isAgg0
 z0 := Tryz.sizeOf0
 v0 := Tryz.zeroValue0
 t4 := Tryz.underlying4
 a4 := Tryz.isAgg4
 z4 := Tryz.sizeOf4
 v4 := Tryz.zeroValue4
 t23 := Tryz.underlying118
 a23 := Tryz.isAgg118
 z23 := Tryz.sizeOf118
 v23 := Tryz.zeroValue118
 t26 := Tryz.underlying9
 a26 := Tryz.isAgg9
 z26 := Tryz.sizeOf9
 v26 := Tryz.zeroValue9
 t33 := Tryz.underlying126
 a33 := Tryz.isAgg126
 z33 := Tryz.sizeOf126
 v33 := Tryz.zeroValue126 }
def Tryz.laysApp_ren : Go.Shelf.Ren := ⟨fun | 11 => 121 | n => n, fun | 24 => 29 | 26 => 9 | 28 => 160 | 0 => 0 | 33 => 126 | 4 => 4 | n => n, fun | n => n⟩
theorem Tryz.laysApp : Go.Proofs.SlLaysZ.n11 Tryz.prog Tryz.laysApp_ren := {
 mixed := by kernel_rfl
 f11 := ⟨Tryz.f121.name, by decide, Tryz.func121.trans (congrArg some (by kernel_rfl))⟩
 t0 := Tryz.underlying0
 a0 := Tryz.isAgg0
 z0 := Tryz.sizeOf0
 v0 := Tryz.zeroValue0
 t24 := Tryz.underlying29
 a24 := Tryz.isAgg29
 z24 := Tryz.sizeOf29
 v24 := Tryz.zeroValue29
 t26 := Tryz.underlying9
 a26 := Tryz.isAgg9
 z26 := Tryz.sizeOf9
 v26 := Tryz.zeroValue9
 t28 := Tryz.underlying160
 a28 := Tryz.isAgg160
 z28 := Tryz.sizeOf160
 v28 := Tryz.zeroValue160
 i26 := by kernel_rfl }
def Tryz.laysSort_ren : Go.Shelf.Ren := ⟨fun | 190 => 108 | 125 => 123 | 258 => 122 | 128 => 142 | 129 => 143 | 302 => 133 | 303 => 134 | 304 => 135 | 305 => 136 | 306 => 137 | 307 => 138 | 308 => 139 | 309 => 140 | 310 => 141 | 333 => 149 | 329 => 150 | 330 => 151 | 334 => 152 | 335 => 153 | 336 => 130 | 344 => 159 | n => n, fun | 31 => 29 | 9 => 9 | 3 => 3 | 46 => 185 | 0 => 0 | 51 => 207 | 53 => 209 | 4 => 4 | 183 => 200 | 182 => 199 | 131 => 204 | 5 => 5 | 218 => 214 | 222 => 218 | 228 => 220 | 229 => 221 | n => n, fun | n => n⟩
theorem Tryz.laysSort : Go.Proofs.Lays.n190 Tryz.prog Tryz.laysSort_ren := {
 mixed := by kernel_rfl
 f125 := Tryz.func123.trans (congrArg some (by kernel_rfl))
 f128 := Tryz.func142.trans (congrArg some (by kernel_rfl))
 f129 := Tryz.func143.trans (congrArg some (by kernel_rfl))
 f190 := Tryz.func108.trans (congrArg some (by kernel_rfl))
 f258 := Tryz.func122.trans (congrArg some (by kernel_rfl))
 f302 := Tryz.func133.trans (congrArg some (by kernel_rfl))
 f303 := Tryz.func134.trans (congrArg some (by kernel_rfl))
 f304 := Tryz.func135.trans (congrArg some (by kernel_rfl))
 f305 := Tryz.func136.trans (congrArg some (by kernel_rfl))
 f306 := Tryz.func137.trans (congrArg some (by kernel_rfl))
 f307 := Tryz.func138.trans (congrArg some (by kernel_rfl))
 f308 := Tryz.func139.trans (congrArg some (by kernel_rfl))
 f309 := Tryz.func140.trans (congrArg some (by kernel_rfl))
 f310 := Tryz.func141.trans (congrArg some (by kernel_rfl))
 f329 := Tryz.func150.trans (congrArg some (by kernel_rfl))
 f330 := Tryz.func151.trans (congrArg some (by kernel_rfl))
 f333 := Tryz.func149.trans (congrArg some (by kernel_rfl))
 f334 := Tryz.func152.trans (congrArg some (by kernel_rfl))
 f335 := Tryz.func153.trans (congrArg some (by kernel_rfl))
 f336 := Tryz.func130.trans (congrArg some (by kernel_rfl))
 f344 := Tryz.func159.trans (congrArg some (by kernel_rfl))
 t0 := Tryz.underlying0
 a0 := Tryz.isAgg0
 z0 := Tryz.sizeOf0
 v0 := Tryz.zeroValue0
 t3 := Tryz.underlying3
 a3 := Tryz.isAgg3
 z3 := Tryz.sizeOf3
 v3 := Tryz.zeroValue3
 t4 := Tryz.underlying4
 a4 := Tryz.isAgg4
 z4 := Tryz.sizeOf4
 v4 := Tryz.zeroValue4
 t5 := Tryz.underlying5
 a5 := Tryz.isAgg5
 z5 := Tryz.sizeOf5
 v5 := Tryz.zeroValue5
 t9 := Tryz.underlying9
 a9 := Tryz.isAgg9
 z9 := Tryz.sizeOf9
 v9 := Tryz.zeroValue9
 t31 := Tryz.underlying29
 a31 := Tryz.isAgg29
 z31 := Tryz.sizeOf29
 v31 := Tryz.zeroValue29
 t46 := Tryz.underlying185
 a46 := Tryz.isAgg185
 z46 := Tryz.sizeOf185
 v46 := Tryz.zeroValue185
 t51 := Tryz.underlying207
 a51 := Tryz.isAgg207
 z51 := Tryz.sizeOf207
 v51 := Tryz.zeroValue207
 t53 := Tryz.underlying209
 a53 := Tryz.isAgg209
 z53 := Tryz.sizeOf209
 v53 := Tryz.zeroValue209
 t131 := Tryz.underlying204
 a131 := Tryz.isAgg204
 z131 := Tryz.sizeOf204
 v131 := Tryz.zeroValue204
 t182 := Tryz.underlying199
 a182 := Tryz.isAgg199
 z182 := Tryz.sizeOf199
 v182 := Tryz.zeroValue199
 t183 := Tryz.underlying200
 a183 := Tryz.isAgg200
 z183 := Tryz.sizeOf200
 v183 := Tryz.zeroValue200
 t218 := Tryz.underlying214
 a218 := Tryz.isAgg214
 z218 := Tryz.sizeOf214
 v218 := Tryz.zeroValue214
 t222 := Tryz.underlying218
 a222 := Tryz.isAgg218
 z222 := Tryz.sizeOf218
 v222 := Tryz.zeroValue218
 t228 := Tryz.underlying220
 a228 := Tryz.isAgg220
 z228 := Tryz.sizeOf220
 v228 := Tryz.zeroValue220
 t229 := Tryz.underlying221
 a229 := Tryz.isAgg221
 z229 := Tryz.sizeOf221
 v229 := Tryz.zeroValue221 }
end Go.Proofs
/- Keys of a map, collected and sorted: the shelf's contracts over what is one's own. -/
namespace Go.Proofs.YtkoghbmjbobfjaaGreat
open Go.RowKit Go.Pm Go.Sort Go.Shelf
abbrev keyT : TypeId := 9
theorem mapKeys (B : Base) (H : List Res) (w : World) (mb : Option Nat) (hv : Pm.Inv B H w) : Calls Tryz.prog 87 #[.map mb] w fun e w' => ∃ b, e = .returned (.func (.func 109) #[] #[.pointer (some ⟨b, 0, none⟩)]) ∧ Pm.Inv B (Res.cell b [.map mb] 118 :: H) w' := by
 have h := AnyZ.keys_in Tryz.laysKeys Fence.wide 5 trivial rfl mb w
 refine (callsIn_wide (n := 5)).1 (h.mono ?_)
 rintro e w' ⟨rfl, rfl⟩
 exact ⟨_, rfl, hv.alloc _ _⟩
abbrev RN (_ : Value) : Option (DataW Unit × List MemPlace) := some (.nil, [])
theorem rd_key (k : List UInt8) (hk : k.length ≤ maxLen) (v : Value) (n : Nat) : WideElems.rd Tryz.prog keyT RN { key := strV k, val := v, born := n } = some (.string k, .nil) := by
 have h : keyOf Tryz.prog keyT (strV k) = some (.string k) := by
  have h1 := WideMaps.keyOf_string_mk (P := Tryz.prog) (k := keyT) Tryz.underlying9 (s := ⟨k.toArray⟩) (by show k.toArray.size ≤ maxLen; simpa using hk)
  simpa using h1
 simp [WideElems.rd, h, RN]
theorem vmap_owns {w : World} {b : Nat} {es : List (List UInt8 × Value)} (h : (Res.vmap b es).holds w) (hk : ∀ x ∈ es, x.1.length ≤ maxLen) (hm : es.length ≤ maxLen) :
  ∃ D : DataW Unit, w.ownsMap Tryz.prog keyT RN b es.length D ∧ (strKeys D).Perm (es.map (·.1)) := by
 obtain ⟨E, clock, h1, h2, h3⟩ := h
 have hl : E.size = es.length := by have := congrArg List.length h3; simpa using this
 have hrd : ∀ x ∈ E.toList, ∃ k, (∃ v, (k, v) ∈ es) ∧ x.key = strV k ∧ WideElems.rd Tryz.prog keyT RN x = some (.string k, .nil) := by
  intro x hx
  obtain ⟨j, hj⟩ := List.mem_iff_getElem?.1 hx
  have h9 := congrArg (fun l => l[j]?) h3
  simp only [List.getElem?_map, hj, Option.map_some] at h9
  cases hx2 : es[j]? with
  | none => rw [hx2] at h9; simp at h9
  | some y =>
   rw [hx2] at h9
   simp only [Option.map_some, kv, Option.some.injEq, Prod.mk.injEq] at h9
   have hy := List.mem_of_getElem? hx2
   obtain ⟨xk, xv, xb⟩ := x
   simp only at h9
   obtain ⟨rfl, rfl⟩ := h9
   exact ⟨y.1, ⟨y.2, hy⟩, rfl, rd_key y.1 (hk y hy) _ _⟩
 refine ⟨_, ⟨E, clock, h1, ⟨by omega, h2, fun x hx => by obtain ⟨k, -, -, h⟩ := hrd x hx; exact ⟨_, h⟩⟩, by omega, rfl⟩, ?_⟩
 have hp : (strKeys (DataW.map ((E.toList.map (WideElems.rg Tryz.prog keyT RN)).foldr DataW.insert []))).Perm ((E.toList.map (WideElems.rg Tryz.prog keyT RN)).map fun p => strOf p.1) := (WideShapes.sorted_perm _).map _
 refine hp.trans (List.Perm.of_eq ?_)
 rw [List.map_map]
 have h4 : E.toList.map (fun e => e.key) = es.map (fun x => strV x.1) := by
  have := congrArg (List.map Prod.fst) h3
  simpa [List.map_map, Function.comp_def, kv] using this
 have h5 : ∀ x ∈ E.toList, strV (((fun p : Lit × DataW Unit => strOf p.1) ∘ WideElems.rg Tryz.prog keyT RN) x) = x.key := by
  intro x hx
  obtain ⟨k, -, hk1, h⟩ := hrd x hx
  simp [Function.comp, WideElems.rg, h, hk1, strOf]
 have h6 : (E.toList.map ((fun p : Lit × DataW Unit => strOf p.1) ∘ WideElems.rg Tryz.prog keyT RN)).map strV = (es.map (·.1)).map strV := by
  rw [List.map_map, List.map_map]
  have : E.toList.map (strV ∘ ((fun p : Lit × DataW Unit => strOf p.1) ∘ WideElems.rg Tryz.prog keyT RN)) = E.toList.map (fun e => e.key) := List.map_congr_left fun x hx => h5 x hx
  rw [this, h4]; rfl
 exact (List.map_inj_right (fun a b e => strV_inj e)).1 h6
theorem row_new {B : Base} {H : List Res} {w w' : World} {e : TypeId} {size n : Nat} {v : Value} {xs : List Value} (hv : Pm.Inv B H w) (h : w'.ownsRow w.heap.size e size v n xs) (hb : Below w.heap.size w w') : Pm.Inv B (Res.row e size v n xs :: H) w' := by
 have h0 : w'.ownsRow 0 e size v n xs := ⟨h.1, h.2.imp id fun ⟨g, cap, cur, h1, _, h3⟩ => ⟨g, cap, cur, h1, Nat.zero_le _, h3⟩⟩
 refine hv.new hb (Res.row e size v n xs) h0 (fun b hb9 => ?_) ?_
 ·rcases h.2 with ⟨rfl, -⟩ | ⟨g, cap, cur, rfl, h2, h3, -⟩
  ·simp [Value.ownBlock] at hb9
  simp [Value.ownBlock] at hb9
  subst hb9
  exact ⟨h2, (Array.getElem?_eq_some_iff.1 h3).1⟩
 show v.ownBlock.toList.Nodup
 cases v.ownBlock with
 | none => exact List.Pairwise.nil
 | some b => simp
theorem appendKeys (B : Base) (H : List Res) (w : World) (b wb : Nat) (es : List (List UInt8 × Value)) (hk : ∀ x ∈ es, x.1.length ≤ maxLen) (hm : es.length ≤ 1000000) (hv : Pm.Inv B (Res.cell b [.map (some wb)] 118 :: Res.vmap wb es :: H) w) :
  Calls Tryz.prog 121 #[.slice none 0 0, .func (.func 109) #[] #[.pointer (some ⟨b, 0, none⟩)]] w fun e w' => ∃ v ss, e = .returned v ∧ ss.Perm (es.map (·.1)) ∧ Pm.Inv B (Res.row keyT 1 v ss.length (textCells ss) :: Res.cell b [.map (some wb)] 118 :: Res.vmap wb es :: H) w' := by
 obtain ⟨D, hown, hperm⟩ := vmap_owns (hv.get 1 rfl) hk (by unfold maxLen; omega)
 have hsz := hown.size_le
 have hg := AnyZ.keys_gives Tryz.laysKeys1 Fence.wide 4 trivial rfl (by omega) b wb es.length D w (hv.lt _ (List.mem_cons_self) b (by simp)) (hv.load 0 0 rfl rfl) hown
 have he : ∀ args w, (callFunc 109 args).run Tryz.prog w = .ok (.enter 109 args) w := Tryz.laysKeys1.f10.enters rfl
 have h := AnyZ.appendSeq_in Tryz.laysApp Fence.wide 5 trivial rfl (by omega) 109 #[.pointer (some ⟨b, 0, none⟩)] trivial he _ (Maps.size D) (by unfold maxLen; omega) (by omega) w hg
 refine (callsIn_wide (n := 5)).1 (h.mono ?_)
 rintro e w' ⟨v, ss, rfl, hS, hrow, -, hb⟩
 exact ⟨v, ss, rfl, hS.trans hperm, row_new hv hrow hb⟩
theorem sortTexts (B : Base) (H : List Res) (w : World) (v : Value) (l : List (List UInt8)) (hm : l.length ≤ 1000000) (hv : Pm.Inv B (Res.row keyT 1 v l.length (textCells l) :: H) w) :
  Calls Tryz.prog 108 #[v] w fun e w' => e = .returned (.tuple #[]) ∧ Pm.Inv B (Res.row keyT 1 v l.length (textCells (l.mergeSort leB)) :: H) w' := by
 rcases (hv.head : w.ownsRow 0 keyT 1 v l.length (textCells l)).2 with ⟨rfl, hz⟩ | ⟨g, cap, cur, rfl, h0, hgb, r1, r2, r3, r4⟩
 ·have hl : l = [] := List.eq_nil_of_length_eq_zero hz
  subst hl
  refine (Any.slices_Sort_string_none Tryz.laysSort none 0 w).mono ?_
  rintro e w' ⟨rfl, rfl⟩
  exact ⟨rfl, by simpa using hv⟩
 have hH : Holds encStr w g 0 l.toArray := holds_of_block hgb (by rw [Nat.mul_one] at r4; exact r4)
 refine (Any.slices_Sort_string Tryz.laysSort g 0 cap l w hH (Array.getElem?_eq_some_iff.1 hgb).1 (by omega)).mono ?_
 rintro e w' ⟨rfl, n, os, rfl⟩
 have hgr := grownBy_sorted (w := w) (g := g) (n := n) (os := os) (l.mergeSort leB).toArray
 have hr := ownsRow_sorted (n := n) (os := os) (ss := l) (ts := l.mergeSort leB) (by simp) h0 hgb r1 r2 r3
 refine ⟨rfl, hv.upd _ ⟨hgr.os, hgr.tape, hgr.output, hgr.size, fun k hk hn => hgr.block k hk (fun e => hn (by cases e; simp [Value.ownBlock]))⟩ hr (fun b hb => .inl hb) (fun b hb => Nat.lt_of_lt_of_le (hv.headLt b hb) hgr.size) (by simp [Value.ownBlock])⟩
end Go.Proofs.YtkoghbmjbobfjaaGreat
/- A row of texts, of which some are taken out in place. -/
namespace Go.Pm
open Go.RowKit
section
variable {kept mid l : List (List UInt8)} {j : Nat} {x g : List UInt8} {p : List UInt8 → Bool}
theorem textCells_app (a b : List (List UInt8)) : textCells (a ++ b) = textCells a ++ textCells b := by simp [textCells]
theorem textCells_get (h : l[j]? = some x) : (textCells l)[j]? = some (strV x) := by rw [textCells, List.getElem?_map, h]; rfl
theorem textCells_set (l : List (List UInt8)) (i : Nat) (x : List UInt8) : (textCells l).set i (strV x) = textCells (l.set i x) := by simp [textCells, List.map_set]
theorem textCells_n (l : List (List UInt8)) : (textCells l).length = l.length := by simp [textCells]
theorem df_get (h : l[j]? = some x) (hl : kept.length + mid.length = j) : (textCells (kept ++ mid ++ l.drop j))[j]? = some (strV x) := by
 refine textCells_get ?_
 rw [List.getElem?_append_right (by rw [List.length_append]; omega), List.length_append, hl, Nat.sub_self, List.getElem?_drop]
 exact h
theorem df_drop (h : l[j]? = some x) : l.drop j = x :: l.drop (j + 1) := by
 obtain ⟨hj, rfl⟩ := List.getElem?_eq_some_iff.1 h
 exact List.drop_eq_getElem_cons hj
theorem df_set (h : l[j]? = some x) : (textCells (kept ++ (g :: mid) ++ l.drop j)).set kept.length (strV x) = textCells (kept ++ [x] ++ (mid ++ [x]) ++ l.drop (j + 1)) := by
 rw [textCells_set, df_drop h, List.append_assoc, List.set_append_right _ _ (Nat.le_refl _), Nat.sub_self]
 simp
theorem df_skip (h : l[j]? = some x) : kept ++ mid ++ l.drop j = kept ++ (mid ++ [x]) ++ l.drop (j + 1) := by
 rw [df_drop h]; simp
theorem df_filter (h : l[j]? = some x) : (l.take (j + 1)).filter p = (l.take j).filter p ++ if p x then [x] else [] := by
 rw [take_next h, List.filter_append]
 cases hp : p x <;> simp [hp]
theorem df_start (h : l[j]? = some x) (hx : p x = true) (hn : ∀ y ∈ l.take j, p y = false) : (l.take (j + 1)).filter (fun y => !p y) = l.take j ∧ l = l.take j ++ [x] ++ l.drop (j + 1) := by
 constructor
 ·rw [df_filter h, hx, List.filter_eq_self.2 (fun y hy => by rw [hn y hy]; rfl)]
  simp
 conv => lhs; rw [← List.take_append_drop j l, df_drop h]
 simp
end
end Go.Pm
/- slices.IndexFunc and DeleteFunc of texts, a row of one's own. -/
namespace Go.Proofs.YtkoghbmjbobfjaaGreat
open Go.RowKit Go.Pm
theorem s24es29 (w : World) : (sizeOf (Tryz.prog.elem 29)).run Tryz.prog w = .ok 1 w := by kernel_rfl
theorem s24na9 (w : World) : (isAgg 9).run Tryz.prog w = .ok false w := by kernel_rfl
set_option maxHeartbeats 2000000 in
theorem indexFuncO (B : Base) (H : List Res) (w : World) (f : FuncId) (cb : Array Value) (ra : Option Addr) (rc : Nat) (l : List (List UInt8)) (pr : List UInt8 → Bool) (hm : l.length ≤ 1000000) (hcal : Callable Tryz.prog f) (hf : ∀ (x : List UInt8) (r : Res) (w : World), Inv B (r :: H) w → Calls Tryz.prog f (#[.string ⟨x.toArray⟩] ++ cb) w fun e w' => e = .returned (.bool (pr x)) ∧ Inv B (r :: H) w') (hv : Inv B (Res.row 9 1 (.slice ra l.length rc) l.length (textCells l) :: H) w) :
  Calls Tryz.prog 82 #[.slice ra l.length rc, .func (.func f) #[] cb] w fun e w' => ∃ r : Int, e = .returned (.int .i64 r) ∧ ((r = -1 ∧ ∀ y ∈ l, pr y = false) ∨ ∃ (i : Nat) (x : List UInt8), r = (i : Int) ∧ l[i]? = some x ∧ pr x = true ∧ ∀ y ∈ l.take i, pr y = false) ∧ Inv B (Res.row 9 1 (.slice ra l.length rc) l.length (textCells l) :: H) w' := by
 refine cW Tryz.func82 rfl Tryz.ntmps82 ?_
 simp only [al]
 refine sK fun _ k1 => rL (xA (.int .i64 0) rfl ?_)
 simp only [zP, po]
 refine wK k1 (sK fun _ k2 => ?_)
 refine sK fun _ k3 => rL (xM (.slice ra l.length rc) rfl ?_)
 refine xG (.int .i64 (l.length : Int)) rfl (ex_len0 Tryz.underlying29 rfl rfl) (xM (.int .i64 0) rfl ?_)
 simp only [zP, po]
 refine wK k3 (bB ?_)
 gi_loopw [8] (fun x8 wr => ∃ (i : Nat), x8 = .int .i64 (i : Int) ∧ i ≤ l.length ∧ (∀ j x, j < i → l[j]? = some x → pr x = false) ∧ Inv B (Res.row 9 1 (.slice ra l.length rc) l.length (textCells l) :: H) wr) (fun x8 _ => l.length - (intOf x8).toNat)
 case atStart => exact ⟨0, rfl, Nat.zero_le _, fun j x h => by omega, hv⟩
 case round =>
  obtain ⟨i, rfl, hi, hno, hv⟩ := hrel
  refine sK fun _ k5 => rL ?_
  by_cases hb6 : (i : Int) < (l.length : Int)
  ·refine xG (.bool true) rfl (ex_lss rfl rfl rfl (decide_eq_true hb6)) ?_
   simp only [zP, po]
   refine wK k5 (sK fun _ k7 => ?_)
   refine cT rfl (kS ?_)
   refine tK k7 (sK fun _ k8 => ?_)
   refine bB (sK fun _ k9 => ?_)
   refine rL (xM (.int .i64 (i : Int)) rfl ?_)
   refine xA (.int .i64 (i : Int)) rfl ?_
   simp only [zP, po]
   refine wK k9 (sK fun _ k10 => ?_)
   obtain ⟨x, hx⟩ : ∃ x, l[i]? = some x := ⟨_, List.getElem?_eq_getElem (show i < l.length by omega)⟩
   obtain ⟨b, rfl⟩ := row_some hv.head (by omega)
   refine rL (xM (.func (.func f) #[] cb) rfl ?_)
   refine xM (.slice (some ⟨b, 0, none⟩) l.length rc) rfl (xM (.int .i64 (i : Int)) rfl ?_)
   simp only [zP, po]
   refine xG (.pointer (some ⟨b, 0 + i, none⟩)) rfl (ex_index rfl rfl rfl (run_idx1 (k := i) Tryz.underlying29 s24es29 (by omega))) (xL _ rfl (run_load1 s24na9 (row_load (hv.get 0 rfl) (textCells_get hx))) ?_)
   refine wpi_callV hcal tV wideC rfl (wn rfl) rfl rfl (args := #[.string ⟨x.toArray⟩]) (by simp only [List.map_toArray, List.map_cons, List.map_nil]; rfl) ((hf x _ _ hv).mono ?_)
   rintro e w11 ⟨rfl, hv⟩
   refine ⟨_, rfl, ?_⟩
   simp only [zP, po]
   refine wK k10 (wpIn_cond_split (t := pr x) rfl (fun hc12 => ?_) (fun hc12 => ?_))
   ·refine sK fun _ k13 => rL (xM (.int .i64 (i : Int)) rfl ?_)
    refine xA (.int .i64 (i : Int)) rfl ?_
    simp only [zP, po]
    refine wK k13 (rR ?_)
    refine bE (tR ?_)
    refine tR (bE ?_)
    refine tR (bR rfl rfl ?_)
    exact ⟨_, rfl, .inr ⟨i, x, rfl, hx, by simpa using hc12, fun y hy => (by obtain ⟨j, hj⟩ := List.mem_iff_getElem?.1 hy; have h9 := (List.getElem?_eq_some_iff.1 hj).1; rw [List.length_take] at h9; rw [List.getElem?_take_of_lt (by omega)] at hj; exact hno j y (by omega) hj)⟩, hv⟩
   refine kS (bN ?_)
   refine tK k8 (rL ?_)
   refine xG (.int .i64 ((i + 1 : Nat) : Int)) rfl (ex_add rfl rfl rfl (by rw [i64_in (by omega)]; omega)) (xM (.int .i64 ((i + 1 : Nat) : Int)) rfl ?_)
   refine wL ?_
   simp only [zP, po]
   refine then_normal ?_
   go_roundw
   case rel => exact ⟨i + 1, rfl, by omega, fun j x' hj hx' => (by
      rcases Nat.lt_or_ge j i with h | h
      ·exact hno j x' h hx'
      obtain rfl : j = i := by omega
      rw [hx] at hx'; cases hx'
      simpa using hc12), hv⟩
   case measure => show l.length - (((i + 1 : Nat) : Int)).toNat < l.length - ((i : Int)).toNat; omega
  refine xG (.bool false) rfl (ex_lss rfl rfl rfl (decide_eq_false hb6)) ?_
  simp only [zP, po]
  refine wK k5 (sK fun _ k14 => ?_)
  refine cF rfl (xE ?_)
  refine tX (tX ?_)
  refine bH (tK k2 ?_)
  refine sK fun _ k15 => rL (xA (.int .i64 (-1)) rfl ?_)
  simp only [zP, po]
  refine wK k15 (rR ?_)
  refine bR rfl rfl ?_
  obtain rfl : i = l.length := by omega
  exact ⟨_, rfl, .inl ⟨rfl, fun y hy => (by obtain ⟨j, hj⟩ := List.mem_iff_getElem?.1 hy; exact hno j y (List.getElem?_eq_some_iff.1 hj).1 hj)⟩, hv⟩
theorem s24callable82 : Callable Tryz.prog 82 := ⟨_, Tryz.func82, by kernel_rfl, by kernel_rfl⟩
theorem s24sz9 : (Tryz.prog.info? 9).map (·.size) = some 1 := by kernel_rfl
theorem s24mk9 : (Tryz.prog.info? 9).map (fun i => (i.zero, i.size, i.bytes)) = some (some (.string ⟨([] : List UInt8).toArray⟩), 1, 16) := by kernel_rfl
theorem s24el29 : Elem Tryz.prog 29 9 (.string ⟨([] : List UInt8).toArray⟩) 1 16 := elem_of Tryz.underlying29 s24mk9 (by rfl) (by decide)
set_option maxHeartbeats 4000000 in
theorem deleteFunc (B : Base) (H : List Res) (w : World) (f : FuncId) (cb : Array Value) (ra : Option Addr) (rc : Nat) (l : List (List UInt8)) (pr : List UInt8 → Bool) (hm : l.length ≤ 1000000) (hcal : Callable Tryz.prog f) (hf : ∀ (x : List UInt8) (r : Res) (w : World), Inv B (r :: H) w → Calls Tryz.prog f (#[.string ⟨x.toArray⟩] ++ cb) w fun e w' => e = .returned (.bool (pr x)) ∧ Inv B (r :: H) w') (hv : Inv B (Res.row 9 1 (.slice ra l.length rc) l.length (textCells l) :: H) w) :
  Calls Tryz.prog 57 #[.slice ra l.length rc, .func (.func f) #[] cb] w fun e w' => ∃ ra' rc', e = .returned (.slice ra' (l.filter fun y => !pr y).length rc') ∧ Inv B (Res.row 9 1 (.slice ra' (l.filter fun y => !pr y).length rc') (l.filter fun y => !pr y).length (textCells (l.filter fun y => !pr y)) :: H) w' := by
 refine cW Tryz.func57 rfl Tryz.ntmps57 ?_
 simp only [al]
 refine sK fun _ k1 => rL (xA (.slice none 0 0) rfl ?_)
 simp only [zP, po]
 refine wK k1 (sK fun _ k2 => ?_)
 refine rL (xM (.slice ra l.length rc) rfl ?_)
 refine xM (.func (.func f) #[] cb) rfl (xC s24callable82 rfl ((indexFuncO B H _ f cb ra rc l pr hm hcal hf hv).mono ?_) rfl)
 rintro e w3 ⟨r, rfl, hor, hv⟩
 refine ⟨_, rfl, ?_⟩
 rcases hor with ⟨rfl, hno⟩ | ⟨i0, x0, rfl, hx0, hp0, hno⟩
 ·simp only [zP, po]
  refine xA (.int .i64 (-1)) rfl ?_
  simp only [zP, po]
  refine wK k2 (sK fun _ k4 => ?_)
  refine sK fun _ k5 => rL (xM (.int .i64 (-1)) rfl ?_)
  refine xG (.bool true) rfl (ex_eql rfl rfl rfl (by decide)) ?_
  simp only [zP, po]
  refine wK k5 (cT rfl ?_)
  refine sK fun _ k6 => rL (xM (.slice ra l.length rc) rfl ?_)
  refine xA (.slice ra l.length rc) rfl ?_
  simp only [zP, po]
  refine wK k6 (rR ?_)
  refine tR (bR rfl rfl ?_)
  have hfl : l.filter (fun y => !pr y) = l := List.filter_eq_self.2 (fun y hy => by rw [hno y hy]; rfl)
  rw [hfl]
  exact ⟨_, _, rfl, hv⟩
 have hi0 : i0 < l.length := (List.getElem?_eq_some_iff.1 hx0).1
 obtain ⟨b, rfl⟩ := row_some hv.head (by omega)
 obtain ⟨hst, hsl⟩ := df_start hx0 hp0 hno
 simp only [zP, po]
 refine xA (.int .i64 (i0 : Int)) rfl ?_
 simp only [zP, po]
 refine wK k2 (sK fun _ k7 => ?_)
 refine sK fun _ k8 => rL (xM (.int .i64 (i0 : Int)) rfl ?_)
 refine xG (.bool false) rfl (ex_eql rfl rfl rfl (decide_eq_false (by omega))) ?_
 simp only [zP, po]
 refine wK k8 (cF rfl ?_)
 refine kS (tK k7 ?_)
 refine sK fun _ k9 => sK fun _ k10 => rL (xM (.int .i64 (i0 : Int)) rfl ?_)
 refine xG (.int .i64 ((i0 + 1 : Nat) : Int)) rfl (ex_add rfl rfl rfl (by rw [i64_in (by omega)]; omega)) (xA (.int .i64 ((i0 + 1 : Nat) : Int)) rfl ?_)
 simp only [zP, po]
 refine wK k10 (bB ?_)
 gi_loopw [5, 6] (fun x5 x6 wr => ∃ (i j : Nat) (kept mid : List (List UInt8)), x5 = .int .i64 (i : Int) ∧ x6 = .int .i64 (j : Int) ∧ j ≤ l.length ∧ kept = (l.take j).filter (fun y => !pr y) ∧ i = kept.length ∧ 0 < mid.length ∧ i + mid.length = j ∧ Inv B (Res.row 9 1 (.slice (some ⟨b, 0, none⟩) l.length rc) l.length (textCells (kept ++ mid ++ l.drop j)) :: H) wr) (fun x5 x6 _ => l.length - (intOf x6).toNat)
 case atStart => exact ⟨i0, i0 + 1, l.take i0, [x0], rfl, rfl, by omega, hst.symm, by rw [List.length_take]; omega, by simp, by simp, by rw [← hsl]; exact hv⟩
 case round =>
  obtain ⟨i, j, kept, mid, rfl, rfl, hj, hkept, hik, hmid, hij, hv⟩ := hrel
  refine sK fun _ k12 => sK fun _ k13 => rL (xM (.int .i64 (j : Int)) rfl ?_)
  refine xM (.slice (some ⟨b, 0, none⟩) l.length rc) rfl (xG (.int .i64 (l.length : Int)) rfl (ex_len0 Tryz.underlying29 rfl rfl) ?_)
  simp only [zP, po]
  by_cases hb14 : (j : Int) < (l.length : Int)
  ·refine xG (.bool true) rfl (ex_lss rfl rfl rfl (decide_eq_true hb14)) ?_
   simp only [zP, po]
   refine wK k13 (cT rfl ?_)
   refine kS (tK k12 ?_)
   refine sK fun _ k15 => bB (sK fun _ k16 => ?_)
   obtain ⟨x, hx⟩ : ∃ x, l[j]? = some x := ⟨_, List.getElem?_eq_getElem (show j < l.length by omega)⟩
   refine rL (xM (.slice (some ⟨b, 0, none⟩) l.length rc) rfl ?_)
   refine xM (.int .i64 (j : Int)) rfl (xG (.pointer (some ⟨b, 0 + j, none⟩)) rfl (ex_index rfl rfl rfl (run_idx1 (k := j) Tryz.underlying29 s24es29 (by omega))) ?_)
   simp only [zP, po]
   refine xL _ rfl (run_load1 s24na9 (row_load (hv.get 0 rfl) (df_get (kept := kept) (mid := mid) hx (by omega)))) (xA (.string ⟨x.toArray⟩) rfl ?_)
   simp only [zP, po]
   refine wK k16 (sK fun _ k17 => ?_)
   refine rL (xM (.func (.func f) #[] cb) rfl ?_)
   refine xM (.string ⟨x.toArray⟩) rfl (wpi_callV hcal tV wideC rfl (wn rfl) rfl rfl (args := #[.string ⟨x.toArray⟩]) (by simp only [List.map_toArray, List.map_cons, List.map_nil]; rfl) ((hf x _ _ hv).mono ?_))
   rintro e w18 ⟨rfl, hv⟩
   refine ⟨_, rfl, ?_⟩
   simp only [zP, po]
   refine xG (.bool (!(pr x))) rfl (ex_not rfl rfl rfl) ?_
   simp only [zP, po]
   refine wK k17 (wpIn_cond_split (t := !(pr x)) rfl (fun hc19 => ?_) (fun hc19 => ?_))
   ·refine sK fun _ k20 => ?_
    have hpx : pr x = false := by simpa using hc19
    obtain ⟨g0, mid2, hmg⟩ : ∃ g0 m2, mid = g0 :: m2 := (by cases mid with | nil => simp at hmid | cons a m => exact ⟨a, m, rfl⟩)
    subst hmg
    refine rL (xM (.slice (some ⟨b, 0, none⟩) l.length rc) rfl ?_)
    refine xM (.int .i64 (i : Int)) rfl (xM (.string ⟨x.toArray⟩) rfl ?_)
    simp only [zP, po]
    refine xG (.pointer (some ⟨b, 0 + i, none⟩)) rfl (ex_index rfl rfl rfl (run_idx1 (k := i) Tryz.underlying29 s24es29 (by omega))) (sl_storeRow (v := .string ⟨x.toArray⟩) tV (wn rfl) rfl rfl rfl hv s24sz9 (by rw [textCells_n]; simp only [List.length_append, List.length_cons, List.length_drop]; omega) rfl rfl (fun w21 hv => ?_))
    rw [Nat.zero_add] at hv
    simp only [zP, po]
    refine wK k20 (rL ?_)
    refine xM (.int .i64 (i : Int)) rfl (xG (.int .i64 ((i + 1 : Nat) : Int)) rfl (ex_add rfl rfl rfl (by rw [i64_in (by omega)]; omega)) ?_)
    refine xA (.int .i64 ((i + 1 : Nat) : Int)) rfl (wL ?_)
    simp only [zP, po]
    refine bN (tK k15 ?_)
    refine rL (xM (.int .i64 (j : Int)) rfl ?_)
    refine xG (.int .i64 ((j + 1 : Nat) : Int)) rfl (ex_add rfl rfl rfl (by rw [i64_in (by omega)]; omega)) (xA (.int .i64 ((j + 1 : Nat) : Int)) rfl ?_)
    refine wL ?_
    simp only [zP, po]
    refine then_normal ?_
    go_roundw
    case rel => exact ⟨i + 1, j + 1, kept ++ [x], mid2 ++ [x], rfl, rfl, by omega, by rw [df_filter hx, ← hkept, hpx]; rfl, by rw [List.length_append]; simp; exact hik, by simp, by simp at hij ⊢; omega, by rw [hik, df_set hx] at hv; exact hv⟩
    case measure => show l.length - (((j + 1 : Nat) : Int)).toNat < l.length - ((j : Int)).toNat; omega
   refine kS (bN ?_)
   refine tK k15 ?_
   have hpx : pr x = true := by simpa using hc19
   refine rL (xM (.int .i64 (j : Int)) rfl ?_)
   refine xG (.int .i64 ((j + 1 : Nat) : Int)) rfl (ex_add rfl rfl rfl (by rw [i64_in (by omega)]; omega)) (xA (.int .i64 ((j + 1 : Nat) : Int)) rfl ?_)
   refine wL ?_
   simp only [zP, po]
   refine then_normal ?_
   go_roundw
   case rel => exact ⟨i, j + 1, kept, mid ++ [x], rfl, rfl, by omega, by rw [df_filter hx, ← hkept, hpx]; simp, hik, by simp, by simp; omega, by rw [← df_skip hx]; exact hv⟩
   case measure => show l.length - (((j + 1 : Nat) : Int)).toNat < l.length - ((j : Int)).toNat; omega
  refine xG (.bool false) rfl (ex_lss rfl rfl rfl (decide_eq_false hb14)) ?_
  simp only [zP, po]
  refine wK k13 (cF rfl ?_)
  refine xE (tX ?_)
  refine tX (bH ?_)
  refine tK k9 (sK fun _ k22 => ?_)
  obtain rfl : j = l.length := by omega
  rw [List.drop_length, List.append_nil, textCells_app] at hv
  rw [List.take_length] at hkept
  obtain ⟨L, hL1, hL2, hL3, hL4, hv⟩ := hv.rowCell
  obtain ⟨tl, hLe⟩ : ∃ tl, L = textCells kept ++ textCells mid ++ tl := ⟨L.drop (l.length * 1), by rw [← hL2, List.take_append_drop]⟩
  subst hLe
  have hkn : (textCells kept).length = i := by rw [textCells_n]; exact hik.symm
  refine rL (xM (.slice (some ⟨b, 0, none⟩) l.length rc) rfl ?_)
  refine xM (.int .i64 (i : Int)) rfl (xG (.slice (some ⟨b, 0 + i, none⟩) (l.length - i) (rc - i)) rfl (ex_slice (lo' := some (.int .i64 (i : Int))) rfl rfl (congrArg some rfl) rfl rfl (run_from1 Tryz.underlying29 s24es29 (by omega) (by omega))) ?_)
  simp only [zP, po]
  refine sl_clearAt 0 (pre := textCells kept) (mid := textCells mid) (post := tl) (m := l.length - i) tV (wn rfl) rfl rfl s24el29 (one_cons rfl one_nil) hv rfl rfl (by rw [hkn, Nat.zero_add]) (by rw [textCells_n]; omega) (fun zs w23 hzs hv => ?_)
  simp only [zO] at hv
  simp only [zP, po]
  refine wK k22 (sK fun _ k24 => ?_)
  refine rL (xM (.slice (some ⟨b, 0, none⟩) l.length rc) rfl ?_)
  refine xM (.int .i64 (i : Int)) rfl (xG (.slice (some ⟨b, 0, none⟩) i rc) rfl (ex_slice (hi' := some (.int .i64 (i : Int))) rfl rfl rfl (congrArg some rfl) rfl (run_hi Tryz.underlying29 s24es29 (by omega))) ?_)
  simp only [zP, po]
  refine xA (.slice (some ⟨b, 0, none⟩) i rc) rfl ?_
  simp only [zP, po]
  refine wK k24 (rR ?_)
  refine bR rfl rfl ?_
  have h8 := hv.cellRow (n := i) (c := rc) (size := 1) (by simp only [List.length_append, hzs] at hL1 ⊢; exact hL1) (by omega) hL4
  rw [List.append_assoc, Nat.mul_one, List.take_left' hkn, hik, hkept] at h8
  rw [hik, hkept]
  exact ⟨_, _, rfl, h8⟩
end Go.Proofs.YtkoghbmjbobfjaaGreat
/- Transactions: Names, Clock. -/
namespace Go.Proofs.YtkoghbmjbobfjaaGreat
open Go.RowKit Go.Pm Go.Sort
def deadNow (M : List (List UInt8 × Ver)) (clk : Int) (k : List UInt8) : Bool := match lookA M k with
 | some y => !aliveB y clk
 | none => false
def namesT (M : List (List UInt8 × Ver)) (clk : Int) : List (List UInt8) := ((M.map (·.1)).mergeSort leB).filter fun k => !deadNow M clk k
theorem vmap_nodup {w : World} {b : Nat} {es : List (List UInt8 × Value)} (h : (Res.vmap b es).holds w) : (es.map (·.1)).Nodup := by
 obtain ⟨E, clock, -, ⟨-, -, h2⟩, h3⟩ := h
 have h4 : E.toList.map (fun e => e.key) = (es.map (·.1)).map strV := by
  have := congrArg (List.map Prod.fst) h3
  simpa [List.map_map, Function.comp_def, kv] using this
 rw [h4] at h2
 exact List.Pairwise.imp (fun hab e => hab (by rw [e])) (List.pairwise_map.1 h2)
theorem adj_ne {l : List (List UInt8)} (h : l.Nodup) (j : Nat) (x y : List UInt8) (hx : l[j]? = some x) (hy : l[j + 1]? = some y) : ¬ y = x := by
 intro e; subst e
 have hj := (List.getElem?_eq_some_iff.1 hx).1
 have := (List.getElem?_inj hj h).1 (hx.trans hy.symm)
 omega
set_option maxHeartbeats 2000000 in
theorem txnClock (B : Base) (H : List Res) (w : World) (t m s p wb : Nat) (va : Option Addr) (vc : Nat) (sv : Value) (clk : Int) (es : List (List UInt8 × Value)) (hv : Inv B (txR t m s p wb va vc sv clk es :: H) w) :
  Calls Tryz.prog 177 #[.pointer (some ⟨t, 0, none⟩)] w fun e w' => e = .returned (.int .i64 clk) ∧ Inv B (txR t m s p wb va vc sv clk es :: H) w' := by
 refine cW Tryz.func177 rfl Tryz.ntmps177 ?_
 simp only [al]
 refine sK fun _ k1 => ?_
 replace hv := Inv.unstar hv
 simp only [txL, List.cons_append, List.nil_append] at hv
 refine rL (xA (.int .i64 0) rfl ?_)
 simp only [zP, po]
 refine wK k1 (sK fun _ k2 => ?_)
 refine rL (xM (.pointer (some ⟨t, 0, none⟩)) rfl ?_)
 refine xG (.pointer (some ⟨t, 0, none⟩)) rfl (ex_nil rfl rfl) (xF (.pointer (some ⟨t, 2, none⟩)) rfl (x2fa120_2 _ _ _) ?_)
 simp only [zP, po]
 refine xL _ rfl (run_load1 s2na3 (hv.load 0 2 rfl rfl)) (xA (.int .i64 clk) rfl ?_)
 simp only [zP, po]
 refine wK k2 (rR ?_)
 refine bR rfl rfl (⟨rfl, Inv.star (K := txL _ _ _ _ _ _ _ _ _ _) (((((((hv.front 5 rfl).front 5 rfl).front 5 rfl).front 5 rfl).front 5 rfl).front 5 rfl))⟩)
set_option maxHeartbeats 2000000 in
theorem compactTexts (B : Base) (H : List Res) (w : World) (ra : Option Addr) (rc : Nat) (l : List (List UInt8)) (hnd : l.Nodup) (hm : l.length ≤ 1000000) (hv : Inv B (Res.row 9 1 (.slice ra l.length rc) l.length (textCells l) :: H) w) :
  Calls Tryz.prog 179 #[.slice ra l.length rc] w fun e w' => e = .returned (.slice ra l.length rc) ∧ Inv B (Res.row 9 1 (.slice ra l.length rc) l.length (textCells l) :: H) w' := by
 refine cW Tryz.func179 rfl Tryz.ntmps179 ?_
 simp only [al]
 refine sK fun _ k1 => rL (xA (.slice none 0 0) rfl ?_)
 simp only [zP, po]
 refine wK k1 (sK fun _ k2 => ?_)
 refine sK fun _ k3 => rL (xM (.slice ra l.length rc) rfl ?_)
 refine xG (.int .i64 (l.length : Int)) rfl (ex_len0 Tryz.underlying29 rfl rfl) ?_
 by_cases hb4 : (l.length : Int) < 2
 ·refine xG (.bool true) rfl (ex_lss rfl rfl rfl (decide_eq_true hb4)) ?_
  simp only [zP, po]
  refine wK k3 (cT rfl ?_)
  refine sK fun _ k5 => rL (xM (.slice ra l.length rc) rfl ?_)
  refine xA (.slice ra l.length rc) rfl ?_
  simp only [zP, po]
  refine wK k5 (rR ?_)
  refine tR (bR rfl rfl ?_)
  exact ⟨rfl, hv⟩
 refine xG (.bool false) rfl (ex_lss rfl rfl rfl (decide_eq_false hb4)) ?_
 simp only [zP, po]
 refine wK k3 (cF rfl ?_)
 refine kS (tK k2 ?_)
 refine sK fun _ k6 => sK fun _ k7 => rL (xA (.int .i64 1) rfl ?_)
 simp only [zP, po]
 refine wK k7 (bB ?_)
 gi_loopw [3] (fun x3 wr => ∃ (j : Nat), x3 = .int .i64 ((j + 1 : Nat) : Int) ∧ j + 1 ≤ l.length ∧ Inv B (Res.row 9 1 (.slice ra l.length rc) l.length (textCells l) :: H) wr) (fun x3 _ => l.length - (intOf x3).toNat)
 case atStart => exact ⟨0, rfl, by omega, hv⟩
 case round =>
  obtain ⟨j, rfl, hj, hv⟩ := hrel
  refine sK fun _ k9 => sK fun _ k10 => rL (xM (.int .i64 ((j + 1 : Nat) : Int)) rfl ?_)
  refine xM (.slice ra l.length rc) rfl (xG (.int .i64 (l.length : Int)) rfl (ex_len0 Tryz.underlying29 rfl rfl) ?_)
  simp only [zP, po]
  by_cases hb11 : ((j + 1 : Nat) : Int) < (l.length : Int)
  ·refine xG (.bool true) rfl (ex_lss rfl rfl rfl (decide_eq_true hb11)) ?_
   simp only [zP, po]
   refine wK k10 (cT rfl ?_)
   refine kS (tK k9 ?_)
   refine sK fun _ k12 => bB (sK fun _ k13 => ?_)
   obtain ⟨x, hx⟩ : ∃ x, l[j]? = some x := ⟨_, List.getElem?_eq_getElem (show j < l.length by omega)⟩
   obtain ⟨y, hy⟩ : ∃ y, l[j + 1]? = some y := ⟨_, List.getElem?_eq_getElem (show j + 1 < l.length by omega)⟩
   obtain ⟨b, rfl⟩ := row_some hv.head (by omega)
   refine rW mixed [] [0,1,2,3,4,5,6,7,8,9] 61 rfl (by kernel_rfl) hv ?_
   simp only [qm, opAt]
   refine dM (.slice (some ⟨b, 0, none⟩) l.length rc) rfl (dM (.int .i64 ((j + 1 : Nat) : Int)) rfl ?_)
   refine dG (.pointer (some ⟨b, 0 + (j + 1 : Nat), none⟩)) rfl (ex_index rfl rfl rfl (run_idx1 (k := (j + 1 : Nat)) Tryz.underlying29 s9es29 (by omega))) ?_
   simp only [zP, po]
   refine dL _ rfl (fun hv => ex_load rfl rfl (run_load1 s9na9 (row_load (hv.get 0 rfl) (textCells_get hy)))) (dM (.slice (some ⟨b, 0, none⟩) l.length rc) rfl ?_)
   refine dM (.int .i64 ((j + 1 : Nat) : Int)) rfl ?_
   simp only [zP, po]
   refine dG (.int .i64 (j : Int)) rfl (ex_sub rfl rfl rfl (by rw [i64_in (by omega)]; omega)) (dG (.pointer (some ⟨b, 0 + j, none⟩)) rfl (ex_index rfl rfl rfl (run_idx1 (k := j) Tryz.underlying29 s9es29 (by omega))) ?_)
   refine dL _ rfl (fun hv => ex_load rfl rfl (run_load1 s9na9 (row_load (hv.get 0 rfl) (textCells_get hx)))) ?_
   simp only [zP, po]
   refine dG (.bool false) rfl (ex_seql rfl rfl rfl (decide_eq_false (adj_ne hnd j x y hx hy))) (dE fun w14 hv => ?_)
   simp only [zP, po]
   refine tK k13 (cF rfl ?_)
   refine kS (bN ?_)
   refine tK k12 (rL ?_)
   refine xM (.int .i64 ((j + 1 : Nat) : Int)) rfl (xG (.int .i64 ((j + 1 + 1 : Nat) : Int)) rfl (ex_add rfl rfl rfl (by rw [i64_in (by omega)]; omega)) ?_)
   refine xA (.int .i64 ((j + 1 + 1 : Nat) : Int)) rfl (wL ?_)
   simp only [zP, po]
   refine then_normal ?_
   go_roundw
   case rel => exact ⟨j + 1, rfl, by omega, hv⟩
   case measure => show l.length - (((j + 1 + 1 : Nat) : Int)).toNat < l.length - (((j + 1 : Nat) : Int)).toNat; omega
  refine xG (.bool false) rfl (ex_lss rfl rfl rfl (decide_eq_false hb11)) ?_
  simp only [zP, po]
  refine wK k10 (cF rfl ?_)
  refine xE (tX ?_)
  refine tX (bH ?_)
  refine tK k6 (sK fun _ k15 => ?_)
  refine rL (xM (.slice ra l.length rc) rfl ?_)
  refine xA (.slice ra l.length rc) rfl ?_
  simp only [zP, po]
  refine wK k15 (rR ?_)
  refine bR rfl rfl (⟨rfl, hv⟩)
theorem x6al45 (w : World) : (Instr.alloc 45 true (.tuple #[])).run Tryz.prog w = .ok (.pointer (some ⟨w.heap.size, 0, none⟩)) (w.alloc (.cells ([.int .i64 0, .bool false, .int .i64 0, .int .i64 0, .string ⟨([] : List UInt8).toArray⟩, .slice none 0 0, .slice none 0 0, .slice none 0 0] : List Value).toArray 45)) := by kernel_rfl
set_option maxHeartbeats 2000000 in
theorem namesDead (B : Base) (H : List Res) (w : World) (g1 t m wb : Nat) (clk : Int) (es : List (List UInt8 × Value)) (M : List (List UInt8 × Ver)) (key : List UInt8) (hM : VM B es M) (hv : Inv B (Res.cell g1 [.pointer (some ⟨t, 0, none⟩)] 25 :: Res.cell t [.pointer (some ⟨m, 0, none⟩), .int .i64 0, .int .i64 clk, .bool false, .map (some wb)] 120 :: Res.vmap wb es :: H) w) :
  Calls Tryz.prog 180 #[.string ⟨key.toArray⟩, .pointer (some ⟨g1, 0, none⟩)] w fun e w' => e = .returned (.bool (deadNow M clk key)) ∧ Inv B (Res.cell g1 [.pointer (some ⟨t, 0, none⟩)] 25 :: Res.cell t [.pointer (some ⟨m, 0, none⟩), .int .i64 0, .int .i64 clk, .bool false, .map (some wb)] 120 :: Res.vmap wb es :: H) w' := by
 refine cW Tryz.func180 rfl Tryz.ntmps180 ?_
 simp only [al]
 refine sK fun _ k1 => rL (xA (.bool false) rfl ?_)
 simp only [zP, po]
 refine wK k1 (sK fun _ k2 => ?_)
 refine rL (xL _ rfl (run_load1 x1na25 (hv.load 0 0 rfl rfl)) ?_)
 refine xG (.pointer (some ⟨t, 0, none⟩)) rfl (ex_nil rfl rfl) (xF (.pointer (some ⟨t, 4, none⟩)) rfl (x2fa120_4 _ _ _) ?_)
 simp only [zP, po]
 refine xL _ rfl (run_load1 x2na118 (hv.load 1 4 rfl rfl)) (xM (.string ⟨key.toArray⟩) rfl ?_)
 rcases VM.look key hM with ⟨hl, hlM⟩ | ⟨x, xp, xt, xz, hl, hlM, hxv⟩
 ·refine xG (.tuple #[.agg #[.int .i64 0, .bool false, .int .i64 0, .int .i64 0, .string ⟨([] : List UInt8).toArray⟩, .slice none 0 0, .slice none 0 0, .slice none 0 0], .bool false]) rfl (ex_lookN (z := .agg #[.int .i64 0, .bool false, .int .i64 0, .int .i64 0, .string ⟨([] : List UInt8).toArray⟩, .slice none 0 0, .slice none 0 0, .slice none 0 0]) 2 rfl rfl rfl Tryz.underlying118 Tryz.underlying9 (fun w => by kernel_rfl) hv rfl hl) ?_
  simp only [zP, po]
  refine xM (.tuple #[.agg #[.int .i64 0, .bool false, .int .i64 0, .int .i64 0, .string ⟨([] : List UInt8).toArray⟩, .slice none 0 0, .slice none 0 0, .slice none 0 0], .bool false]) rfl (xG (.agg #[.int .i64 0, .bool false, .int .i64 0, .int .i64 0, .string ⟨([] : List UInt8).toArray⟩, .slice none 0 0, .slice none 0 0, .slice none 0 0]) rfl (ex_extract rfl rfl rfl) ?_)
  refine xG (.bool false) rfl (ex_extract rfl rfl rfl) ?_
  simp only [zP, po]
  refine sl_alloc tV (wn rfl) rfl hv x6al45 (fun b3 w4 hv => ?_)
  refine xS 0 rfl hv x0sz45 rfl (by exact ⟨rfl, rfl, rfl, rfl, rfl, rfl, rfl, rfl, trivial⟩) (fun w5 hv => ?_)
  simp only [zO, sp] at hv
  refine xA (.bool false) rfl ?_
  simp only [zP, po]
  refine wK k2 (sK fun _ k6 => ?_)
  refine rW mixed [7] [0,1,2,3,4,5,6,7,8,9,10] 25 rfl (by kernel_rfl) hv ?_
  simp only [qm, opAt]
  refine dM (.bool false) rfl (dM (.bool false) rfl ?_)
  iterate 7 refine dN rfl ?_
  refine dK false (.bool false) rfl ?_
  simp only [zP, po]
  refine dA (.bool false) rfl (dE fun w7 hv => ?_)
  simp only [zP, po]
  refine tK k6 (rR ?_)
  refine bR rfl rfl (⟨congrArg (fun b => Ending.returned (Value.bool b)) (by unfold deadNow; rw [hlM]), ((((hv.front 3 rfl).front 3 rfl).front 3 rfl).sub (List.Sublist.cons_cons _ (List.Sublist.cons_cons _ (List.Sublist.cons_cons _ (List.Sublist.cons _ (List.Sublist.refl _))))))⟩)
 refine xG (.tuple #[.agg #[.int .i64 x.stamp, .bool x.gone, .int .i64 x.expire, .int .i64 x.val.kind, .string ⟨x.val.text.toArray⟩, xp, xt, xz], .bool true]) rfl (ex_lookS (z := .agg #[.int .i64 0, .bool false, .int .i64 0, .int .i64 0, .string ⟨([] : List UInt8).toArray⟩, .slice none 0 0, .slice none 0 0, .slice none 0 0]) 2 rfl rfl rfl Tryz.underlying118 Tryz.underlying9 (fun w => by kernel_rfl) hv rfl hl) ?_
 simp only [zP, po]
 refine xM (.tuple #[.agg #[.int .i64 x.stamp, .bool x.gone, .int .i64 x.expire, .int .i64 x.val.kind, .string ⟨x.val.text.toArray⟩, xp, xt, xz], .bool true]) rfl (xG (.agg #[.int .i64 x.stamp, .bool x.gone, .int .i64 x.expire, .int .i64 x.val.kind, .string ⟨x.val.text.toArray⟩, xp, xt, xz]) rfl (ex_extract rfl rfl rfl) ?_)
 refine xG (.bool true) rfl (ex_extract rfl rfl rfl) ?_
 simp only [zP, po]
 refine sl_alloc tV (wn rfl) rfl hv x6al45 (fun b8 w9 hv => ?_)
 refine xS 0 rfl hv x0sz45 rfl (by exact ⟨rfl, rfl, rfl, rfl, rfl, hxv.p.one, hxv.t.one, hxv.z.one, trivial⟩) (fun w10 hv => ?_)
 simp only [zO, sp] at hv
 refine xA (.bool true) rfl ?_
 simp only [zP, po]
 refine wK k2 (sK fun _ k11 => ?_)
 refine rW mixed [7] [0,1,2,3,4,5,6,7,8,9,10] 25 rfl (by kernel_rfl) hv ?_
 simp only [qm, opAt]
 refine dM (.bool true) rfl (dM (.bool true) rfl ?_)
 refine dL (.agg #[.int .i64 x.stamp, .bool x.gone, .int .i64 x.expire, .int .i64 x.val.kind, .string ⟨x.val.text.toArray⟩, xp, xt, xz]) rfl (fun hv => ex_load rfl rfl (run_load_mid (pre := []) (mid := [.int .i64 x.stamp, .bool x.gone, .int .i64 x.expire, .int .i64 x.val.kind, .string ⟨x.val.text.toArray⟩, xp, xt, xz]) (post := []) x0wd45 (show Blk _ b8 ([] ++ [.int .i64 x.stamp, .bool x.gone, .int .i64 x.expire, .int .i64 x.val.kind, .string ⟨x.val.text.toArray⟩, xp, xt, xz] ++ []) _ from hv.get 0 rfl) rfl)) ?_
 simp only [zP, po]
 refine dL _ rfl (fun hv => ex_load rfl rfl (run_load1 x1na25 (hv.load 1 0 rfl rfl))) (dG (.pointer (some ⟨t, 0, none⟩)) rfl (ex_nil rfl rfl) ?_)
 refine dG (.pointer (some ⟨t, 2, none⟩)) rfl (ex_field rfl rfl (x2fa120_2 _ _ _)) ?_
 simp only [zP, po]
 refine dL _ rfl (fun hv => ex_load rfl rfl (run_load1 s2na3 (hv.load 2 2 rfl rfl))) (dS rfl fun w12 hv => ?_)
 refine mC x2callable55 rfl ((chainAlive B _ _ x xp xt xz clk hv).mono ?_) rfl
 rintro e w13 ⟨rfl, hv⟩
 refine ⟨_, rfl, dW hv ?_⟩
 refine dG (.bool (!(aliveB x clk))) rfl (ex_not rfl rfl rfl) ?_
 simp only [zP, po]
 refine dK true (.bool (!(aliveB x clk))) rfl (dA (.bool (!(aliveB x clk))) rfl ?_)
 refine dE fun w14 hv => ?_
 simp only [zP, po]
 refine tK k11 (rR ?_)
 refine bR rfl rfl (⟨congrArg (fun b => Ending.returned (Value.bool b)) (by unfold deadNow; rw [hlM]), ((((hv.front 3 rfl).front 3 rfl).front 3 rfl).sub (List.Sublist.cons_cons _ (List.Sublist.cons_cons _ (List.Sublist.cons_cons _ (List.Sublist.cons _ (List.Sublist.refl _))))))⟩)
theorem x6callable31 : Callable Tryz.prog 31 := ⟨_, Tryz.func31, by kernel_rfl, by kernel_rfl⟩
theorem x6callable87 : Callable Tryz.prog 87 := ⟨_, Tryz.func87, by kernel_rfl, by kernel_rfl⟩
theorem x6callable121 : Callable Tryz.prog 121 := ⟨_, Tryz.func121, by kernel_rfl, by kernel_rfl⟩
theorem x6callable108 : Callable Tryz.prog 108 := ⟨_, Tryz.func108, by kernel_rfl, by kernel_rfl⟩
theorem x6callable179 : Callable Tryz.prog 179 := ⟨_, Tryz.func179, by kernel_rfl, by kernel_rfl⟩
theorem x6callable180 : Callable Tryz.prog 180 := ⟨_, Tryz.func180, by kernel_rfl, by kernel_rfl⟩
set_option maxHeartbeats 8000000 in
theorem txnNames (B : Base) (H : List Res) (w : World) (t m s p wb : Nat) (va : Option Addr) (vc : Nat) (sv : Value) (clk : Int) (es : List (List UInt8 × Value)) (M : List (List UInt8 × Ver)) (hM : VM B es M) (hkl : ∀ k ∈ M.map (·.1), k.length ≤ 256) (hMl : M.length ≤ 1000000) (hv : Inv B (txR t m s p wb va vc sv clk es :: H) w) :
  Calls Tryz.prog 178 #[.pointer (some ⟨t, 0, none⟩)] w fun e w' => ∃ ra rc, e = .returned (.slice ra (namesT M clk).length rc) ∧ Inv B (Res.row 9 1 (.slice ra (namesT M clk).length rc) (namesT M clk).length (textCells (namesT M clk)) :: txR t m s p wb va vc sv clk es :: H) w' := by
 refine cW Tryz.func178 rfl Tryz.ntmps178 ?_
 simp only [al]
 refine sK fun _ k1 => ?_
 replace hv := Inv.unstar hv
 simp only [txL, List.cons_append, List.nil_append] at hv
 refine rL (sl_box (L := [.pointer (some ⟨t, 0, none⟩)]) tV (wn rfl) rfl rfl hv (fun w => by kernel_rfl) (fun b2 w3 hv => ?_))
 refine xA (.slice none 0 0) rfl ?_
 simp only [zP, po]
 refine wK k1 (sK fun _ k4 => ?_)
 refine rW mixed [15] [0,1,2,3,4,5,6,7,8,9,10,11,12,13,14,15,16] 33 rfl (by kernel_rfl) hv ?_
 simp only [qm, opAt]
 refine dL _ rfl (fun hv => ex_load rfl rfl (run_load1 x1na25 (hv.load 0 0 rfl rfl))) (dG (.pointer (some ⟨t, 0, none⟩)) rfl (ex_nil rfl rfl) ?_)
 refine dG (.pointer (some ⟨t, 0, none⟩)) rfl (ex_field rfl rfl (x1fa120_0 _ _ _)) ?_
 simp only [zP, po]
 refine dL _ rfl (fun hv => ex_load rfl rfl (run_load1 x1na65 (hv.load 1 0 rfl rfl))) (dG (.pointer (some ⟨m, 0, none⟩)) rfl (ex_nil rfl rfl) ?_)
 refine dG (.pointer (some ⟨m, 0, none⟩)) rfl (ex_field rfl rfl (x2fa88_0 _ _ _)) ?_
 simp only [zP, po]
 refine dL _ rfl (fun hv => ex_load rfl rfl (run_load1 x0na68 (hv.load 2 0 rfl rfl))) (dL _ rfl (fun hv => ex_load rfl rfl (run_load1 x1na25 (hv.load 0 0 rfl rfl))) ?_)
 refine dG (.pointer (some ⟨t, 0, none⟩)) rfl (ex_nil rfl rfl) ?_
 simp only [zP, po]
 refine dG (.pointer (some ⟨t, 1, none⟩)) rfl (ex_field rfl rfl (x2fa120_1 _ _ _)) (dL _ rfl (fun hv => ex_load rfl rfl (run_load1 s2na3 (hv.load 1 1 rfl rfl))) ?_)
 refine dL _ rfl (fun hv => ex_load rfl rfl (run_load1 x1na25 (hv.load 0 0 rfl rfl))) ?_
 simp only [zP, po]
 refine dG (.pointer (some ⟨t, 0, none⟩)) rfl (ex_nil rfl rfl) (dG (.pointer (some ⟨t, 2, none⟩)) rfl (ex_field rfl rfl (x2fa120_2 _ _ _)) ?_)
 refine dL _ rfl (fun hv => ex_load rfl rfl (run_load1 s2na3 (hv.load 1 2 rfl rfl))) ?_
 simp only [zP, po]
 refine dS rfl fun w5 hv => ?_
 replace hv := hv.front 6 rfl
 simp only [List.eraseIdx_cons_succ, List.eraseIdx_cons_zero] at hv
 replace hv := hv.front 6 rfl
 simp only [List.eraseIdx_cons_succ, List.eraseIdx_cons_zero] at hv
 refine mC x6callable31 rfl ((storeNames0 B _ _ s p 0 clk hv).mono ?_) rfl
 rintro e w6 ⟨rfl, hv⟩
 refine ⟨_, rfl, dW hv ?_⟩
 refine dA (.slice none 0 0) rfl (dE fun w7 hv => ?_)
 simp only [zP, po]
 refine tK k4 (sK fun _ k8 => ?_)
 refine rL (xM (.slice none 0 0) rfl ?_)
 refine xL _ rfl (run_load1 x1na25 (hv.load 2 0 rfl rfl)) (xG (.pointer (some ⟨t, 0, none⟩)) rfl (ex_nil rfl rfl) ?_)
 simp only [zP, po]
 refine xF (.pointer (some ⟨t, 4, none⟩)) rfl (x2fa120_4 _ _ _) (xL _ rfl (run_load1 x2na118 (hv.load 3 4 rfl rfl)) ?_)
 refine xC x6callable87 rfl ((mapKeys B _ _ (some wb) hv).mono ?_) rfl
 rintro e w9 ⟨b9, rfl, hv⟩
 refine ⟨_, rfl, ?_⟩
 simp only [zP, po]
 replace hv := hv.front 7 rfl
 simp only [List.eraseIdx_cons_succ, List.eraseIdx_cons_zero] at hv
 replace hv := hv.front 1 rfl
 simp only [List.eraseIdx_cons_succ, List.eraseIdx_cons_zero] at hv
 have hnd := vmap_nodup (hv.get 1 rfl)
 have hke := VM.keys hM
 have hle : es.length = M.length := by have := congrArg List.length hke; simpa using this
 refine xC x6callable121 rfl ((appendKeys B _ _ b9 wb es (fun x hx => Nat.le_trans (hkl x.1 (by rw [← hke]; exact List.mem_map.2 ⟨x, hx, rfl⟩)) (by unfold maxLen; omega)) (by omega) hv).mono ?_) rfl
 rintro e w10 ⟨v9, ss, rfl, hperm, hv⟩
 refine ⟨_, rfl, ?_⟩
 obtain ⟨va9, vc9, rfl⟩ := row_slice hv.head
 have hsl : ss.length = M.length := by have := hperm.length_eq; rw [List.length_map] at this; omega
 refine xA (.slice va9 ss.length vc9) rfl ?_
 simp only [zP, po]
 refine wK k8 (sK fun _ k11 => ?_)
 refine rL (xM (.slice va9 ss.length vc9) rfl ?_)
 refine xC x6callable108 rfl ((sortTexts B _ _ _ ss (by omega) hv).mono ?_) rfl
 rintro e w12 ⟨rfl, hv⟩
 refine ⟨_, rfl, ?_⟩
 have hms : ss.mergeSort leB = (M.map (·.1)).mergeSort leB := by rw [mergeSort_of_perm hperm, hke]
 rw [hms] at hv
 obtain ⟨l, hl⟩ : ∃ l, (M.map (·.1)).mergeSort leB = l := ⟨_, rfl⟩
 rw [hl] at hv hms
 have hll : ss.length = l.length := by rw [← hms]; simp
 rw [hll] at hv ⊢
 have hln : l.Nodup := by rw [← hms]; exact ((List.mergeSort_perm ss leB).nodup_iff).2 ((hperm.nodup_iff).2 hnd)
 simp only [zP, po]
 refine wK k11 (sK fun _ k13 => ?_)
 refine rL (xM (.slice va9 l.length vc9) rfl ?_)
 refine xC x6callable179 rfl ((compactTexts B _ _ va9 vc9 l hln (by omega) hv).mono ?_) rfl
 rintro e w14 ⟨rfl, hv⟩
 refine ⟨_, rfl, ?_⟩
 refine xG (.func (.func 180) #[] #[.pointer (some ⟨b2, 0, none⟩)]) rfl (ex_makeFunc (c' := #[.pointer (some ⟨b2, 0, none⟩)]) rfl (by simp only [List.map_toArray, List.map_nil]) (by simp only [List.map_toArray, List.map_cons, List.map_nil]; rfl)) ?_
 simp only [zP, po]
 have hfn : ∀ (x : List UInt8) (r9 : Res) (w : World), Inv B (r9 :: (Res.cell b9 [.map (some wb)] 118 :: Res.vmap wb es :: Res.cell s [.pointer (some ⟨p, 0, none⟩), .int .i64 0, .int .i64 0] 116 :: Res.cell p [.slice none 0 0, .int .i64 0] 140 :: Res.cell b2 [.pointer (some ⟨t, 0, none⟩)] 25 :: Res.cell t [.pointer (some ⟨m, 0, none⟩), .int .i64 0, .int .i64 clk, .bool false, .map (some wb)] 120 :: Res.cell m [.pointer (some ⟨s, 0, none⟩), sv, .int .i64 clk, .slice va 1 vc] 88 :: Res.row 25 1 (.slice va 1 vc) 1 [.pointer (some ⟨t, 0, none⟩)] :: H)) w → Calls Tryz.prog 180 (#[.string ⟨x.toArray⟩] ++ #[.pointer (some ⟨b2, 0, none⟩)]) w fun e w' => e = .returned (.bool (deadNow M clk x)) ∧ Inv B (r9 :: (Res.cell b9 [.map (some wb)] 118 :: Res.vmap wb es :: Res.cell s [.pointer (some ⟨p, 0, none⟩), .int .i64 0, .int .i64 0] 116 :: Res.cell p [.slice none 0 0, .int .i64 0] 140 :: Res.cell b2 [.pointer (some ⟨t, 0, none⟩)] 25 :: Res.cell t [.pointer (some ⟨m, 0, none⟩), .int .i64 0, .int .i64 clk, .bool false, .map (some wb)] 120 :: Res.cell m [.pointer (some ⟨s, 0, none⟩), sv, .int .i64 clk, .slice va 1 vc] 88 :: Res.row 25 1 (.slice va 1 vc) 1 [.pointer (some ⟨t, 0, none⟩)] :: H)) w' := fun x r9 w hv =>
  (namesDead B _ w b2 t m wb clk es M x hM (((((((((hv.front 8 rfl).front 8 rfl).front 6 rfl).front 6 rfl).front 5 rfl).front 5 rfl).front 6 rfl).front 8 rfl).front 8 rfl)).mono fun e w' ⟨h7, h8⟩ => ⟨h7, (((((((((h8.front 8 rfl).front 8 rfl).front 3 rfl).front 3 rfl).front 8 rfl).front 8 rfl).front 6 rfl).front 8 rfl).front 8 rfl)⟩
 refine xC x0callable57 rfl ((deleteFunc B _ _ 180 _ va9 vc9 l (deadNow M clk) (by omega) x6callable180 hfn hv).mono ?_) rfl
 rintro e w15 ⟨ra, rc, rfl, hv⟩
 refine ⟨_, rfl, ?_⟩
 refine xA (.slice ra ((l.filter fun y => !deadNow M clk y).length) rc) rfl ?_
 simp only [zP, po]
 refine wK k13 (rR ?_)
 refine bR rfl rfl ?_
 subst hl
 exact ⟨_, _, rfl, Inv.front (Inv.star (K := txL _ _ _ _ _ _ _ _ _ _) ((((((((hv.front 4 rfl).front 4 rfl).front 4 rfl).front 8 rfl).front 8 rfl).front 8 rfl).sub (List.Sublist.cons_cons _ (List.Sublist.cons_cons _ (List.Sublist.cons_cons _ (List.Sublist.cons_cons _ (List.Sublist.cons_cons _ (List.Sublist.cons_cons _ (List.Sublist.cons_cons _ (List.Sublist.cons _ (List.Sublist.cons _ (List.Sublist.refl _))))))))))))) 1 rfl⟩
end Go.Proofs.YtkoghbmjbobfjaaGreat
/- The reference's view: Names; Words; the names of a transaction that stay. -/
namespace Go.Proofs.YtkoghbmjbobfjaaGreat
open Go.RowKit Go.Pm
theorem key_inj {K : List KeyR} (hd : (K.map (·.name)).Nodup) {i j : Nat} {x y : KeyR} (hx : K[i]? = some x) (hy : K[j]? = some y) (h : y.name = x.name) : j = i := by
 have h1 : (K.map (·.name))[i]? = some x.name := by rw [List.getElem?_map, hx]; rfl
 have h2 : (K.map (·.name))[j]? = some x.name := by rw [List.getElem?_map, hy, Option.map_some, h]
 exact ((List.getElem?_inj (by rw [List.length_map]; exact (List.getElem?_eq_some_iff.1 hx).1) hd).1 (h1.trans h2.symm)).symm
theorem getK_at {K : List KeyR} {clk : Int} (hd : (K.map (·.name)).Nodup) {i : Nat} {x : KeyR} (hx : K[i]? = some x) (hl : liveK clk x = true) : getK K clk x.name = some x :=
 getK_some hx rfl hl fun j y hj hy h => by have := key_inj hd hx hy h.1; omega
theorem getK_dead {K : List KeyR} {clk : Int} (hd : (K.map (·.name)).Nodup) {i : Nat} {x : KeyR} (hx : K[i]? = some x) (hl : liveK clk x = false) : getK K clk x.name = none :=
 getK_none fun j y hy h => by
  obtain rfl := key_inj hd hx hy h.1
  rw [hx] at hy; cases hy
  rw [hl] at h; cases h.2
theorem getLive (w : World) (K : List KeyR) (wl : List (List UInt8)) (ka wa : Option Addr) (kc wc : Nat) (xs : List Value) (clk : Int) (hR : RefV (Base.of w) K wl ka wa kc wc xs) (hm : K.length ≤ 10000) (hmw : wl.length ≤ 10000) (hdis : (K.map (·.name)).Nodup)
  (i : Nat) (x : KeyR) (xp xt xz : Value) (hx : K[i]? = some x) (hlv : liveK clk x = true) (hcs : (xs.drop (i * 7)).take 7 = krCells x xp xt xz) :
  Calls Tryz.prog 14 #[.agg #[.slice ka K.length kc, .int .i64 clk, .slice wa wl.length wc], .string ⟨x.name.toArray⟩] w fun e w' => e = .returned (.tuple #[.agg (krCells x xp xt xz).toArray, .bool true]) ∧ Ext w w' := by
 have hg := getK_at hdis hx hlv
 refine (refGet20 (Base.of w) [] w K wl ka wa kc wc xs clk hR hm hmw x.name (Inv.start w)).mono ?_
 rintro e w' ⟨x2, p9, t9, z9, ok9, rfl, hor, -, hi9⟩
 rcases hor with ⟨rfl, h1, i9, hi8, hc⟩ | ⟨-, -, h1, -⟩
 ·rw [hg] at h1
  cases h1
  obtain rfl := key_inj hdis hx hi8 rfl
  rw [hcs] at hc
  simp only [krCells, List.cons.injEq, and_true, true_and] at hc
  obtain ⟨rfl, rfl, rfl⟩ := hc
  exact ⟨rfl, ext_of hi9⟩
 rw [hg] at h1; cases h1
theorem getDead (w : World) (K : List KeyR) (wl : List (List UInt8)) (ka wa : Option Addr) (kc wc : Nat) (xs : List Value) (clk : Int) (hR : RefV (Base.of w) K wl ka wa kc wc xs) (hm : K.length ≤ 10000) (hmw : wl.length ≤ 10000) (hdis : (K.map (·.name)).Nodup)
  (i : Nat) (x : KeyR) (hx : K[i]? = some x) (hlv : liveK clk x = false) :
  Calls Tryz.prog 14 #[.agg #[.slice ka K.length kc, .int .i64 clk, .slice wa wl.length wc], .string ⟨x.name.toArray⟩] w fun e w' => e = .returned (.tuple #[.agg (krCells zkey (.slice none 0 0) (.slice none 0 0) (.slice none 0 0)).toArray, .bool false]) ∧ Ext w w' := by
 have hg := getK_dead hdis hx hlv
 refine (refGet20 (Base.of w) [] w K wl ka wa kc wc xs clk hR hm hmw x.name (Inv.start w)).mono ?_
 rintro e w' ⟨x2, p9, t9, z9, ok9, rfl, hor, -, hi9⟩
 rcases hor with ⟨-, h1, -⟩ | ⟨rfl, rfl, -, rfl, rfl, rfl⟩
 ·rw [hg] at h1; cases h1
 exact ⟨rfl, ext_of hi9⟩
def namesR (K : List KeyR) (clk : Int) : List (List UInt8) := (K.filter (liveK clk)).map (·.name)
theorem namesR_yes {K : List KeyR} {clk : Int} {i : Nat} {x : KeyR} (hx : K[i]? = some x) (h : liveK clk x = true) : namesR (K.take (i + 1)) clk = namesR (K.take i) clk ++ [x.name] := by
 unfold namesR; rw [take_next hx, List.filter_append, List.map_append]; simp [h]
theorem namesR_no {K : List KeyR} {clk : Int} {i : Nat} {x : KeyR} (hx : K[i]? = some x) (h : liveK clk x = false) : namesR (K.take (i + 1)) clk = namesR (K.take i) clk := by
 unfold namesR; rw [take_next hx, List.filter_append, List.map_append]; simp [h]
theorem namesR_le (K : List KeyR) (clk : Int) : (namesR K clk).length ≤ K.length := by
 unfold namesR; rw [List.length_map]; exact List.length_filter_le _ _
theorem v4al49 (w : World) : (Instr.alloc 49 true (.tuple #[])).run Tryz.prog w = .ok (.pointer (some ⟨w.heap.size, 0, none⟩)) (w.alloc (.cells ([.string ⟨([] : List UInt8).toArray⟩, .int .i64 0, .string ⟨([] : List UInt8).toArray⟩, .slice none 0 0, .slice none 0 0, .slice none 0 0, .int .i64 0] : List Value).toArray 49)) := by kernel_rfl
theorem v4mk9 : (Tryz.prog.info? 9).map (fun i => (i.zero, i.size, i.bytes)) = some (some (.string ⟨([] : List UInt8).toArray⟩), 1, 16) := by kernel_rfl
theorem v4el29 : Elem Tryz.prog 29 9 (.string ⟨([] : List UInt8).toArray⟩) 1 16 := elem_of Tryz.underlying29 v4mk9 (by rfl) (by decide)
set_option maxHeartbeats 8000000 in
theorem refNames20 (B : Base) (H : List Res) (w : World) (K : List KeyR) (wl : List (List UInt8)) (ka wa : Option Addr) (kc wc : Nat) (xs : List Value) (clk : Int) (hR : RefV B K wl ka wa kc wc xs) (hm : K.length ≤ 10000) (hmw : wl.length ≤ 10000) (hdis : (K.map (·.name)).Nodup) (hv : Inv B H w) :
  Calls Tryz.prog 19 #[.agg #[.slice ka K.length kc, .int .i64 clk, .slice wa wl.length wc]] w fun e w' => ∃ C a c, B.Le C ∧ e = .returned (.slice a (namesR K clk).length c) ∧ RdV C [] a (textCells (namesR K clk)) ∧ Inv C H w' := by
 refine cW Tryz.func19 rfl Tryz.ntmps19 ?_
 simp only [al]
 refine sK fun _ k1 => rL (sl_box (L := [.slice ka K.length kc, .int .i64 clk, .slice wa wl.length wc]) tV (wn rfl) rfl rfl hv (fun w => by kernel_rfl) (fun b2 w3 hv => ?_))
 refine xA (.slice none 0 0) rfl ?_
 simp only [zP, po]
 refine wK k1 (sK fun _ k4 => ?_)
 refine rL (xA (.slice none 0 0) rfl ?_)
 simp only [zP, po]
 refine wK k4 (sK fun _ k5 => ?_)
 refine sK fun _ k6 => rL (xA (.int .i64 0) rfl ?_)
 simp only [zP, po]
 refine wK k6 (bB ?_)
 gi_loopw [3, 4] (fun x3 x4 wr => ∃ (i n1 : Nat) (ra : Option Addr) (rc : Nat), x3 = .slice ra n1 rc ∧ x4 = .int .i64 (i : Int) ∧ i ≤ K.length ∧ n1 = (namesR (K.take i) clk).length ∧ Inv B (Res.row 9 1 (.slice ra n1 rc) n1 (textCells (namesR (K.take i) clk)) :: Res.cell b2 [.slice ka K.length kc, .int .i64 clk, .slice wa wl.length wc] 31 :: H) wr) (fun x3 x4 _ => K.length - (intOf x4).toNat)
 case atStart => exact ⟨0, 0, none, 0, rfl, rfl, Nat.zero_le _, rfl, (hv).rowNil 9 1⟩
 case round =>
  obtain ⟨i, n1, ra, rc, rfl, rfl, hi, hn1, hv⟩ := hrel
  have hn1b := namesR_le (K.take i) clk
  rw [List.length_take] at hn1b
  refine sK fun _ k8 => sK fun _ k9 => rL (xM (.int .i64 (i : Int)) rfl ?_)
  refine xF (.pointer (some ⟨b2, 0, none⟩)) rfl (v2fa31_0 _ _ _) (xL _ rfl (run_load1 v2na28 (hv.load 1 0 rfl rfl)) ?_)
  simp only [zP, po]
  refine xG (.int .i64 (K.length : Int)) rfl (ex_len0 Tryz.underlying28 rfl rfl) ?_
  by_cases hb10 : (i : Int) < (K.length : Int)
  ·refine xG (.bool true) rfl (ex_lss rfl rfl rfl (decide_eq_true hb10)) ?_
   simp only [zP, po]
   refine wK k9 (cT rfl ?_)
   refine kS (tK k8 ?_)
   refine sK fun _ k11 => bB (sK fun _ k12 => ?_)
   obtain ⟨x, hx⟩ : ∃ x, K[i]? = some x := ⟨_, List.getElem?_eq_getElem (show i < K.length by omega)⟩
   obtain ⟨bb, bo, xp, xt, xz, had, hvalx, hrdx, hcsx⟩ := KeysAt.reads2 hR.at_ hR.keys hx
   subst had
   cases hlv : liveK clk x
   ·refine rW mixed [11, 12] [0,1,2,3,4,5,6,7,8,9,10,11,12,13] 36 rfl (by kernel_rfl) hv ?_
    simp only [qm, opAt]
    refine dF (.agg #[.slice (some ⟨bb, bo, none⟩) K.length kc, .int .i64 clk, .slice wa wl.length wc]) rfl (fun hv => ex_load rfl rfl (run_load_mid (pre := []) (mid := [.slice (some ⟨bb, bo, none⟩) K.length kc, .int .i64 clk, .slice wa wl.length wc]) (post := []) v2wd31 (show Blk _ b2 ([] ++ [.slice (some ⟨bb, bo, none⟩) K.length kc, .int .i64 clk, .slice wa wl.length wc] ++ []) _ from hv.get 1 rfl) rfl)) fun f13 hf13 => dG (.pointer (some ⟨b2, 0, none⟩)) rfl (ex_field rfl rfl (v2fa31_0 _ _ _)) (dF _ rfl (fun hv => ex_load rfl rfl (run_load1 v2na28 (hv.load 1 0 rfl rfl))) fun f14 hf14 => ?_)
    simp only [zP, po]
    refine dM (.int .i64 (i : Int)) rfl (dG (.pointer (some ⟨bb, bo + i * 7, none⟩)) rfl (ex_index rfl rfl rfl (run_idx (k := i) Tryz.underlying28 v2es28 (by omega))) ?_)
    refine dG (.pointer (some ⟨bb, bo + i * 7, none⟩)) rfl (ex_field rfl rfl (v2fa49_0 _ _ _)) ?_
    simp only [zP, po]
    refine dF _ rfl (fun hv => ex_load rfl rfl (run_load1 s9na9 (hrdx _ _ _ (Base.Le.refl _) no_res hv 0 _ rfl))) fun f15 hf15 => dD (.tuple #[.agg #[.string ⟨([] : List UInt8).toArray⟩, .int .i64 0, .string ⟨([] : List UInt8).toArray⟩, .slice none 0 0, .slice none 0 0, .slice none 0 0, .int .i64 0], .bool false]) v2callable14 rfl rfl (l := [.agg #[.slice (some ⟨bb, bo, none⟩) K.length kc, .int .i64 clk, .slice wa wl.length wc], .string ⟨x.name.toArray⟩]) rfl (fun {ww} hv => getDead ww K wl (some ⟨bb, bo, none⟩) wa kc wc xs clk (hR.more (le_of hv)) hm hmw hdis i x hx hlv) fun f16 hf16 => dM (.tuple #[.agg #[.string ⟨([] : List UInt8).toArray⟩, .int .i64 0, .string ⟨([] : List UInt8).toArray⟩, .slice none 0 0, .slice none 0 0, .slice none 0 0, .int .i64 0], .bool false]) rfl ?_
    simp only [zP, po]
    refine dG (.agg #[.string ⟨([] : List UInt8).toArray⟩, .int .i64 0, .string ⟨([] : List UInt8).toArray⟩, .slice none 0 0, .slice none 0 0, .slice none 0 0, .int .i64 0]) rfl (ex_extract rfl rfl rfl) (dG (.bool false) rfl (ex_extract rfl rfl rfl) ?_)
    refine dS rfl fun w17 hv => mem_alloc rfl rfl hv v4al49 (fun b18 w19 hv => ?_)
    refine dV hv (fC (fun ww hv => hf16 ww (getDead ww K wl (some ⟨bb, bo, none⟩) wa kc wc xs clk (hR.more (le_of hv)) hm hmw hdis i x hx hlv)) (fC (fun ww hv => hf15 ww (ex_load rfl rfl (run_load1 s9na9 (hrdx _ _ _ (Base.Le.refl _) no_res hv 0 _ rfl)))) (fC (fun ww hv => hf14 ww (ex_load rfl rfl (run_load1 v2na28 (hv.load 2 0 rfl rfl)))) (fC (fun ww hv => hf13 ww (ex_load rfl rfl (run_load_mid (pre := []) (mid := [.slice (some ⟨bb, bo, none⟩) K.length kc, .int .i64 clk, .slice wa wl.length wc]) (post := []) v2wd31 (show Blk _ b2 ([] ++ [.slice (some ⟨bb, bo, none⟩) K.length kc, .int .i64 clk, .slice wa wl.length wc] ++ []) _ from hv.get 2 rfl) rfl))) fN)))) ?_
    simp only [zP, po]
    refine dS rfl fun w20 hv => mS 0 rfl hv v2sz49 rfl (by exact ⟨rfl, rfl, rfl, rfl, rfl, rfl, rfl, trivial⟩) (fun w21 hv => ?_)
    simp only [zO, sp] at hv
    refine dV hv (fK rfl (fK rfl (fK rfl (fK rfl fN)))) (dA (.bool false) rfl ?_)
    refine dE fun w22 hv => ?_
    simp only [zP, po]
    refine tK k12 (sK fun _ k23 => ?_)
    refine rL (xM (.bool false) rfl ?_)
    simp only [zP, po]
    refine wK k23 (cF rfl ?_)
    refine kS (bN ?_)
    refine tK k11 (rL ?_)
    refine xM (.int .i64 (i : Int)) rfl (xG (.int .i64 ((i + 1 : Nat) : Int)) rfl (ex_add rfl rfl rfl (by rw [i64_in (by omega)]; omega)) ?_)
    refine xA (.int .i64 ((i + 1 : Nat) : Int)) rfl (wL ?_)
    simp only [zP, po]
    refine then_normal ?_
    go_roundw
    case rel => exact ⟨i + 1, n1, _, _, rfl, rfl, by omega, by rw [namesR_no hx hlv, ← hn1], by rw [namesR_no hx hlv]; exact (((hv.front 2 rfl).front 2 rfl).sub (List.Sublist.cons_cons _ (List.Sublist.cons_cons _ (List.Sublist.cons _ (List.Sublist.refl _)))))⟩
    case measure => show K.length - (((i + 1 : Nat) : Int)).toNat < K.length - ((i : Int)).toNat; omega
   refine rW mixed [11, 12] [0,1,2,3,4,5,6,7,8,9,10,11,12,13] 36 rfl (by kernel_rfl) hv ?_
   simp only [qm, opAt]
   refine dF (.agg #[.slice (some ⟨bb, bo, none⟩) K.length kc, .int .i64 clk, .slice wa wl.length wc]) rfl (fun hv => ex_load rfl rfl (run_load_mid (pre := []) (mid := [.slice (some ⟨bb, bo, none⟩) K.length kc, .int .i64 clk, .slice wa wl.length wc]) (post := []) v2wd31 (show Blk _ b2 ([] ++ [.slice (some ⟨bb, bo, none⟩) K.length kc, .int .i64 clk, .slice wa wl.length wc] ++ []) _ from hv.get 1 rfl) rfl)) fun f24 hf24 => dG (.pointer (some ⟨b2, 0, none⟩)) rfl (ex_field rfl rfl (v2fa31_0 _ _ _)) (dF _ rfl (fun hv => ex_load rfl rfl (run_load1 v2na28 (hv.load 1 0 rfl rfl))) fun f25 hf25 => ?_)
   simp only [zP, po]
   refine dM (.int .i64 (i : Int)) rfl (dG (.pointer (some ⟨bb, bo + i * 7, none⟩)) rfl (ex_index rfl rfl rfl (run_idx (k := i) Tryz.underlying28 v2es28 (by omega))) ?_)
   refine dG (.pointer (some ⟨bb, bo + i * 7, none⟩)) rfl (ex_field rfl rfl (v2fa49_0 _ _ _)) ?_
   simp only [zP, po]
   refine dF _ rfl (fun hv => ex_load rfl rfl (run_load1 s9na9 (hrdx _ _ _ (Base.Le.refl _) no_res hv 0 _ rfl))) fun f26 hf26 => dD (.tuple #[.agg #[.string ⟨x.name.toArray⟩, .int .i64 x.val.kind, .string ⟨x.val.text.toArray⟩, xp, xt, xz, .int .i64 x.exp], .bool true]) v2callable14 rfl rfl (l := [.agg #[.slice (some ⟨bb, bo, none⟩) K.length kc, .int .i64 clk, .slice wa wl.length wc], .string ⟨x.name.toArray⟩]) rfl (fun {ww} hv => getLive ww K wl (some ⟨bb, bo, none⟩) wa kc wc xs clk (hR.more (le_of hv)) hm hmw hdis i x xp xt xz hx hlv hcsx) fun f27 hf27 => dM (.tuple #[.agg #[.string ⟨x.name.toArray⟩, .int .i64 x.val.kind, .string ⟨x.val.text.toArray⟩, xp, xt, xz, .int .i64 x.exp], .bool true]) rfl ?_
   simp only [zP, po]
   refine dG (.agg #[.string ⟨x.name.toArray⟩, .int .i64 x.val.kind, .string ⟨x.val.text.toArray⟩, xp, xt, xz, .int .i64 x.exp]) rfl (ex_extract rfl rfl rfl) (dG (.bool true) rfl (ex_extract rfl rfl rfl) ?_)
   refine dS rfl fun w28 hv => mem_alloc rfl rfl hv v4al49 (fun b29 w30 hv => ?_)
   refine dV hv (fC (fun ww hv => hf27 ww (getLive ww K wl (some ⟨bb, bo, none⟩) wa kc wc xs clk (hR.more (le_of hv)) hm hmw hdis i x xp xt xz hx hlv hcsx)) (fC (fun ww hv => hf26 ww (ex_load rfl rfl (run_load1 s9na9 (hrdx _ _ _ (Base.Le.refl _) no_res hv 0 _ rfl)))) (fC (fun ww hv => hf25 ww (ex_load rfl rfl (run_load1 v2na28 (hv.load 2 0 rfl rfl)))) (fC (fun ww hv => hf24 ww (ex_load rfl rfl (run_load_mid (pre := []) (mid := [.slice (some ⟨bb, bo, none⟩) K.length kc, .int .i64 clk, .slice wa wl.length wc]) (post := []) v2wd31 (show Blk _ b2 ([] ++ [.slice (some ⟨bb, bo, none⟩) K.length kc, .int .i64 clk, .slice wa wl.length wc] ++ []) _ from hv.get 2 rfl) rfl))) fN)))) ?_
   simp only [zP, po]
   refine dS rfl fun w31 hv => mS 0 rfl hv v2sz49 rfl (by exact ⟨rfl, rfl, rfl, hvalx.p.one, hvalx.t.one, hvalx.z.one, rfl, trivial⟩) (fun w32 hv => ?_)
   simp only [zO, sp] at hv
   refine dV hv (fK rfl (fK rfl (fK rfl (fK rfl fN)))) (dA (.bool true) rfl ?_)
   refine dE fun w33 hv => ?_
   simp only [zP, po]
   refine tK k12 (sK fun _ k34 => ?_)
   refine rL (xM (.bool true) rfl ?_)
   simp only [zP, po]
   refine wK k34 (cT rfl ?_)
   refine rL (xM (.slice ra n1 rc) rfl ?_)
   refine xF (.pointer (some ⟨b2, 0, none⟩)) rfl (v2fa31_0 _ _ _) (xL _ rfl (run_load1 v2na28 (hv.load 2 0 rfl rfl)) ?_)
   simp only [zP, po]
   refine xM (.int .i64 (i : Int)) rfl (xG (.pointer (some ⟨bb, bo + i * 7, none⟩)) rfl (ex_index rfl rfl rfl (run_idx (k := i) Tryz.underlying28 v2es28 (by omega))) ?_)
   refine xF (.pointer (some ⟨bb, bo + i * 7, none⟩)) rfl (v2fa49_0 _ _ _) ?_
   simp only [zP, po]
   refine xL _ rfl (run_load1 s9na9 (hrdx _ _ _ (Base.Le.refl _) no_res hv 0 _ rfl)) (sl_rowOne (v := .string ⟨x.name.toArray⟩) tV (wn rfl) rfl rfl hv v4el29 rfl (fun b35 w36 hv => ?_))
   replace hv := hv.front 2 rfl
   simp only [List.eraseIdx_cons_succ, List.eraseIdx_cons_zero] at hv
   refine sl_append (news := [.string ⟨x.name.toArray⟩]) tV (wn rfl) rfl rfl rfl v4el29 hv (ok_full (by omega)) rfl (rd_all (hv.get 1 rfl)) (by intro u hu; simp only [List.mem_cons, List.not_mem_nil, or_false] at hu; rcases hu with rfl <;> rfl) (by unfold maxLen; omega) (by omega) (fun rv37 w40 hv => ?_)
   obtain ⟨ra38, rc39, rfl⟩ := row_slice hv.head
   simp only [zP, po]
   refine xA (.slice ra38 (n1 + 1) rc39) rfl (wL ?_)
   simp only [zP, po]
   refine bN (tK k11 ?_)
   refine rL (xM (.int .i64 (i : Int)) rfl ?_)
   refine xG (.int .i64 ((i + 1 : Nat) : Int)) rfl (ex_add rfl rfl rfl (by rw [i64_in (by omega)]; omega)) (xA (.int .i64 ((i + 1 : Nat) : Int)) rfl ?_)
   refine wL ?_
   simp only [zP, po]
   refine then_normal ?_
   go_roundw
   case rel => exact ⟨i + 1, n1 + 1, _, _, rfl, rfl, by omega, by rw [namesR_yes hx hlv, List.length_append, ← hn1]; rfl, by rw [namesR_yes hx hlv, textCells_app]; exact (((hv.front 3 rfl).front 1 rfl).sub (List.Sublist.cons_cons _ (List.Sublist.cons_cons _ (List.Sublist.cons _ (List.Sublist.cons _ (List.Sublist.refl _))))))⟩
   case measure => show K.length - (((i + 1 : Nat) : Int)).toNat < K.length - ((i : Int)).toNat; omega
  refine xG (.bool false) rfl (ex_lss rfl rfl rfl (decide_eq_false hb10)) ?_
  simp only [zP, po]
  refine wK k9 (cF rfl ?_)
  refine xE (tX ?_)
  refine tX (bH ?_)
  refine tK k5 (sK fun _ k41 => ?_)
  refine rL (xM (.slice ra n1 rc) rfl ?_)
  refine xA (.slice ra n1 rc) rfl ?_
  simp only [zP, po]
  refine wK k41 (rR ?_)
  refine bR rfl rfl ?_
  obtain rfl : i = K.length := by omega
  rw [List.take_length] at hv hn1
  subst hn1
  obtain ⟨C, hB, hv2, hr2, hok2, -⟩ := ((hv.sub (List.Sublist.cons_cons _ (List.Sublist.cons _ (List.Sublist.refl _))))).rowBy
  exact ⟨C, _, _, hB, rfl, hr2, hv2⟩
theorem txnNamesB (B : Base) (H : List Res) (w : World) (t m s p wb : Nat) (va : Option Addr) (vc : Nat) (sv : Value) (clk : Int) (es : List (List UInt8 × Value)) (M : List (List UInt8 × Ver)) (hM : VM B es M) (hkl : ∀ k ∈ M.map (·.1), k.length ≤ 256) (hMl : M.length ≤ 1000000) (hv : Inv B (txR t m s p wb va vc sv clk es :: H) w) :
  Calls Tryz.prog 178 #[.pointer (some ⟨t, 0, none⟩)] w fun e w' => ∃ C a c, B.Le C ∧ e = .returned (.slice a (namesT M clk).length c) ∧ RdV C [] a (textCells (namesT M clk)) ∧ Inv C (txR t m s p wb va vc sv clk es :: H) w' := by
 refine (txnNames B H w t m s p wb va vc sv clk es M hM hkl hMl hv).mono ?_
 rintro e w' ⟨ra, rc, rfl, hv⟩
 obtain ⟨C, hB, hv2, hr2, -, -⟩ := hv.rowBy
 exact ⟨C, ra, rc, hB, rfl, hr2, hv2⟩
end Go.Proofs.YtkoghbmjbobfjaaGreat
