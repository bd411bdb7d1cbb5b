/- The reference's Wrong; Load. -/
import Derived.Test.YtffmbdagjpdieaaGreatStActsB
import Derived.Test.YtffmbdagjpdieaaGreatStActsM
import Derived.Test.YtffmbdagjpdieaaGreatStActsH
import Derived.Test.YtffmbdagjpdieaaGreatRows
import Derived.Test.YtffmbdagjpdieaaGreatStActsG
set_option maxRecDepth 100000
namespace Go.Proofs.YtffmbdagjpdieaaGreat
open Go.RowKit Go.Pm
theorem chain_one (v : Ver) : ChainOk [v] ↔ OneOk v := by
 constructor
 ·intro h
  obtain ⟨h1, h2, h3, -⟩ := h 0 v rfl
  exact ⟨h1, h2, h3⟩
 rintro ⟨h1, h2, h3⟩
 exact chainOk1 h1 h2 h3
def WGood (own : Bool) (x : Wr) : Prop := x.key.length ≤ 256 ∧ OneOk (if own then x.ver else { x.ver with stamp := 1 })
def WAll (own : Bool) (ws : List Wr) : Prop := (ws.map (·.key)).Nodup ∧ ∀ x ∈ ws, WGood own x
def WAt (own : Bool) (ws : List Wr) (i : Nat) : Prop := ∀ x, ws[i]? = some x → WGood own x ∧ ∀ (k : Nat) y, k < i → ws[k]? = some y → y.key ≠ x.key
theorem wall_of {own : Bool} {ws : List Wr} : WAll own ws ↔ ∀ i, i < ws.length → WAt own ws i := by
 constructor
 ·rintro ⟨h1, h2⟩ i hi x hx
  refine ⟨h2 x (List.mem_of_getElem? hx), fun k y hk hy e => ?_⟩
  have hi2 : (ws.map (·.key))[i]? = some x.key := by rw [List.getElem?_map, hx]; rfl
  have hk2 : (ws.map (·.key))[k]? = some x.key := by rw [List.getElem?_map, hy, Option.map_some, e]
  have := (List.getElem?_inj (by rw [List.length_map]; omega) h1).1 (hk2.trans hi2.symm)
  omega
 intro h
 constructor
 ·unfold List.Nodup
  rw [List.pairwise_iff_getElem]
  intro i j hi hj hij e
  rw [List.length_map] at hi hj
  rw [List.getElem_map, List.getElem_map] at e
  exact (h j hj _ (List.getElem?_eq_getElem hj)).2 i _ hij (List.getElem?_eq_getElem hi) e
 intro x hx
 obtain ⟨i, hi⟩ := List.mem_iff_getElem?.1 hx
 exact (h i (List.getElem?_eq_some_iff.1 hi).1 x hi).1
theorem wgood_wrok (x : Wr) : WGood false x ↔ WrOk x := by
 unfold WGood WrOk
 rw [chain_one]; rfl
theorem wall_pre (M : Model) (last : Int) (ws : List Wr) : AppPre M last ws ↔ last < 1152921504606846975 ∧ WAll false ws := by
 unfold AppPre WAll
 constructor
 ·rintro ⟨h1, h2, h3⟩
  exact ⟨h1, h2, fun x hx => (wgood_wrok x).2 (h3 x hx)⟩
 rintro ⟨h1, h2, h3⟩
 exact ⟨h1, h2, fun x hx => (wgood_wrok x).1 (h3 x hx)⟩
theorem s36al55 (w : World) : (Instr.alloc 55 true (.tuple #[])).run Tryz.prog w = .ok (.pointer (some ⟨w.heap.size, 0, none⟩)) (w.alloc (.cells ([.int .i64 0, .bool false, .int .i64 0, .int .i64 0, .string ⟨([] : List UInt8).toArray⟩, .slice none 0 0, .slice none 0 0, .slice none 0 0] : List Value).toArray 55)) := by kernel_rfl
theorem s36callable55 : Callable Tryz.prog 55 := ⟨_, Tryz.func55, by kernel_rfl, by kernel_rfl⟩
set_option maxHeartbeats 4000000 in
theorem refWrong_false (B : Base) (H : List Res) (w : World) (ad : Option Addr) (c : Nat) (xs : List Value) (l : List Wr) (hr : RdV B [] ad xs) (hxs : WrsAt B l xs) (hm : l.length ≤ 1000000) (hv : Inv B H w) :
  Calls Tryz.prog 24 #[.slice ad l.length c, .bool false] w fun e w' => ∃ b, e = .returned (.bool b) ∧ (b = true ↔ ¬ WAll false l) ∧ Inv B H w' := by
 refine cW Tryz.func24 rfl Tryz.ntmps24 ?_
 simp only [al]
 refine sK fun _ k1 => rL (xA (.bool false) rfl ?_)
 simp only [zP, po]
 refine wK k1 (sK fun _ k2 => ?_)
 refine sK fun _ k3 => rL (xA (.int .i64 0) rfl ?_)
 simp only [zP, po]
 refine wK k3 (bB ?_)
 gi_loopw [5] (fun x5 wr => ∃ (i : Nat), x5 = .int .i64 (i : Int) ∧ i ≤ l.length ∧ (∀ k, k < i → WAt false l k) ∧ Inv B H wr) (fun x5 _ => l.length - (intOf x5).toNat)
 case atStart => exact ⟨0, rfl, Nat.zero_le _, fun k h => by omega, hv⟩
 case round =>
  obtain ⟨i, rfl, hi, hall, hv⟩ := hrel
  refine sK fun _ k5 => sK fun _ k6 => rL (xM (.int .i64 (i : Int)) rfl ?_)
  refine xM (.slice ad l.length c) rfl (xG (.int .i64 (l.length : Int)) rfl (ex_len0 Tryz.underlying33 rfl rfl) ?_)
  simp only [zP, po]
  by_cases hb7 : (i : Int) < (l.length : Int)
  ·refine xG (.bool true) rfl (ex_lss rfl rfl rfl (decide_eq_true hb7)) ?_
   simp only [zP, po]
   refine wK k6 (cT rfl ?_)
   refine kS (tK k5 ?_)
   refine sK fun _ k8 => bB (sK fun _ k9 => ?_)
   obtain ⟨x, hx⟩ : ∃ x, l[i]? = some x := ⟨_, List.getElem?_eq_getElem (show i < l.length by omega)⟩
   obtain ⟨bb, bo, xp, xt, xz, had, hvalx, hrdx⟩ := WrsAt.reads hxs hr hx
   subst had
   refine rL (xM (.slice (some ⟨bb, bo, none⟩) l.length c) rfl ?_)
   refine xM (.int .i64 (i : Int)) rfl (xG (.pointer (some ⟨bb, bo + i * 9, none⟩)) rfl (ex_index rfl rfl rfl (run_idx (k := i) Tryz.underlying33 s8es33 (by omega))) ?_)
   simp only [zP, po]
   refine xF (.pointer (some ⟨bb, bo + i * 9 + 1, none⟩)) rfl (s14fa57_1 _ _ _) (xL (.agg #[.int .i64 x.ver.stamp, .bool x.ver.gone, .int .i64 x.ver.expire, .int .i64 x.ver.val.kind, .string ⟨x.ver.val.text.toArray⟩, xp, xt, xz]) rfl (run_loadR (cs := [.int .i64 x.ver.stamp, .bool x.ver.gone, .int .i64 x.ver.expire, .int .i64 x.ver.val.kind, .string ⟨x.ver.val.text.toArray⟩, xp, xt, xz]) s1wd55 (Reads.mid (pre := [.string ⟨x.key.toArray⟩]) (mid := [.int .i64 x.ver.stamp, .bool x.ver.gone, .int .i64 x.ver.expire, .int .i64 x.ver.val.kind, .string ⟨x.ver.val.text.toArray⟩, xp, xt, xz]) (post := []) hrdx _ _ _ (Base.Le.refl _) no_res hv)) ?_)
   refine sl_alloc tV (wn rfl) rfl hv s36al55 (fun b10 w11 hv => ?_)
   simp only [zP, po]
   refine xS 0 rfl hv s1sz55 rfl (by exact ⟨rfl, rfl, rfl, rfl, rfl, hvalx.p.one, hvalx.t.one, hvalx.z.one, trivial⟩) (fun w12 hv => ?_)
   simp only [zO, sp] at hv
   simp only [zP, po]
   refine wK k9 (sK fun _ k13 => ?_)
   refine sK fun _ k14 => rL (xM (.bool false) rfl ?_)
   refine xG (.bool true) rfl (ex_not rfl rfl rfl) ?_
   simp only [zP, po]
   refine wK k14 (cT rfl ?_)
   refine rL (xF (.pointer (some ⟨b10, 0, none⟩)) rfl (s2fa55_0 _ _ _) ?_)
   refine xV 0 (.int .i64 1) rfl hv s5sz3 rfl rfl (fun w15 hv => ?_)
   simp only [zO, sp] at hv
   simp only [zP, po]
   refine wK k13 (sK fun _ k16 => ?_)
   refine sK fun _ k17 => rL (xM (.slice (some ⟨bb, bo, none⟩) l.length c) rfl ?_)
   refine xM (.int .i64 (i : Int)) rfl (xG (.pointer (some ⟨bb, bo + i * 9, none⟩)) rfl (ex_index rfl rfl rfl (run_idx (k := i) Tryz.underlying33 s8es33 (by omega))) ?_)
   simp only [zP, po]
   refine xF (.pointer (some ⟨bb, bo + i * 9, none⟩)) rfl (s8fa57_0 _ _ _) (xL _ rfl (run_load1 s3na9 (hrdx _ _ _ (Base.Le.refl _) no_res hv 0 _ rfl)) ?_)
   refine xG (.int .i64 (x.key.length : Int)) rfl (ex_lenStr Tryz.underlying9 rfl rfl) ?_
   simp only [zP, po]
   by_cases hb18 : (x.key.length : Int) > 256
   ·refine xG (.bool true) rfl (ex_gtr rfl rfl rfl (decide_eq_true hb18)) (xM (.bool true) rfl ?_)
    refine yP rfl ?_
    simp only [zP, po]
    refine yP rfl (yP rfl ?_)
    refine xK true (.bool true) rfl ?_
    simp only [zP, po]
    refine wK k17 (cT rfl ?_)
    refine sK fun _ k19 => rL (xA (.bool true) rfl ?_)
    simp only [zP, po]
    refine wK k19 (rR ?_)
    refine tR (bE ?_)
    refine tR (tR ?_)
    refine bE (tR ?_)
    refine bR rfl rfl (⟨true, rfl, ⟨fun _ h => (by have h9 := ((wall_of.1 h i (by omega) x hx).1).1; omega), fun _ => rfl⟩, (hv.sub (List.Sublist.cons _ (List.Sublist.refl _)))⟩)
   refine xG (.bool false) rfl (ex_gtr rfl rfl rfl (decide_eq_false hb18)) (xM (.bool false) rfl ?_)
   refine xL (.agg #[.int .i64 1, .bool x.ver.gone, .int .i64 x.ver.expire, .int .i64 x.ver.val.kind, .string ⟨x.ver.val.text.toArray⟩, xp, xt, xz]) rfl (run_load_mid (pre := []) (mid := [.int .i64 1, .bool x.ver.gone, .int .i64 x.ver.expire, .int .i64 x.ver.val.kind, .string ⟨x.ver.val.text.toArray⟩, xp, xt, xz]) (post := []) s1wd55 (show Blk _ b10 ([] ++ [.int .i64 1, .bool x.ver.gone, .int .i64 x.ver.expire, .int .i64 x.ver.val.kind, .string ⟨x.ver.val.text.toArray⟩, xp, xt, xz] ++ []) _ from hv.get 0 rfl) rfl) ?_
   simp only [zP, po]
   refine xC s36callable55 rfl ((refOne B _ _ ({ x.ver with stamp := 1 }) xp xt xz hvalx hv).mono ?_) rfl
   rintro e w21 ⟨bl20, rfl, hbl20, hv⟩
   refine ⟨_, rfl, ?_⟩
   cases bl20
   ·refine xG (.bool true) rfl (ex_not rfl rfl rfl) (xK false (.bool true) rfl ?_)
    simp only [zP, po]
    refine wK k17 (cT rfl ?_)
    refine sK fun _ k22 => rL (xA (.bool true) rfl ?_)
    simp only [zP, po]
    refine wK k22 (rR ?_)
    refine tR (bE ?_)
    refine tR (tR ?_)
    refine bE (tR ?_)
    refine bR rfl rfl (⟨true, rfl, ⟨fun _ h => (by have h9 := hbl20.2 ((wall_of.1 h i (by omega) x hx).1).2; cases h9), fun _ => rfl⟩, (hv.sub (List.Sublist.cons _ (List.Sublist.refl _)))⟩)
   refine xG (.bool false) rfl (ex_not rfl rfl rfl) (xK false (.bool false) rfl ?_)
   simp only [zP, po]
   refine wK k17 (cF rfl ?_)
   refine kS (tK k16 ?_)
   refine sK fun _ k23 => rL (xA (.int .i64 0) rfl ?_)
   simp only [zP, po]
   refine wK k23 (bB ?_)
   gi_loopw [7] (fun x7 wr => ∃ (k : Nat), x7 = .int .i64 (k : Int) ∧ k ≤ i ∧ (∀ (k9 : Nat) y, k9 < k → l[k9]? = some y → y.key ≠ x.key) ∧ Inv B (Res.cell b10 [.int .i64 1, .bool x.ver.gone, .int .i64 x.ver.expire, .int .i64 x.ver.val.kind, .string ⟨x.ver.val.text.toArray⟩, xp, xt, xz] 55 :: H) wr) (fun x7 _ => i - (intOf x7).toNat)
   case atStart => exact ⟨0, rfl, Nat.zero_le _, fun k y h => by omega, hv⟩
   case round =>
    obtain ⟨k, rfl, hk, hno, hv⟩ := hrel
    refine sK fun _ k25 => sK fun _ k26 => rL (xM (.int .i64 (k : Int)) rfl ?_)
    refine xM (.int .i64 (i : Int)) rfl ?_
    by_cases hb27 : (k : Int) < (i : Int)
    ·refine xG (.bool true) rfl (ex_lss rfl rfl rfl (decide_eq_true hb27)) ?_
     simp only [zP, po]
     refine wK k26 (cT rfl ?_)
     refine kS (tK k25 ?_)
     refine sK fun _ k28 => bB (sK fun _ k29 => ?_)
     obtain ⟨y, hy⟩ : ∃ x, l[k]? = some x := ⟨_, List.getElem?_eq_getElem (show k < l.length by omega)⟩
     obtain ⟨b9, o9, yp, yt, yz, had9, hvaly, hrdy⟩ := WrsAt.reads hxs hr hy
     cases had9
     refine rW mixed [] [0,1,2,3,4,5,6,7,8,9,10] 50 rfl (by kernel_rfl) hv ?_
     simp only [qm, opAt]
     refine dM (.slice (some ⟨bb, bo, none⟩) l.length c) rfl (dM (.int .i64 (k : Int)) rfl ?_)
     refine dG (.pointer (some ⟨bb, bo + k * 9, none⟩)) rfl (ex_index rfl rfl rfl (run_idx (k := k) Tryz.underlying33 s8es33 (by omega))) ?_
     simp only [zP, po]
     refine dG (.pointer (some ⟨bb, bo + k * 9, none⟩)) rfl (ex_field rfl rfl (s8fa57_0 _ _ _)) (dL _ rfl (fun hv => ex_load rfl rfl (run_load1 s3na9 (hrdy _ _ _ (Base.Le.refl _) no_res hv 0 _ rfl))) ?_)
     refine dM (.slice (some ⟨bb, bo, none⟩) l.length c) rfl ?_
     simp only [zP, po]
     refine dM (.int .i64 (i : Int)) rfl (dG (.pointer (some ⟨bb, bo + i * 9, none⟩)) rfl (ex_index rfl rfl rfl (run_idx (k := i) Tryz.underlying33 s8es33 (by omega))) ?_)
     refine dG (.pointer (some ⟨bb, bo + i * 9, none⟩)) rfl (ex_field rfl rfl (s8fa57_0 _ _ _)) ?_
     simp only [zP, po]
     refine dL _ rfl (fun hv => ex_load rfl rfl (run_load1 s3na9 (hrdx _ _ _ (Base.Le.refl _) no_res hv 0 _ rfl))) ?_
     by_cases hb30 : y.key = x.key
     ·refine dG (.bool true) rfl (ex_seql rfl rfl rfl (decide_eq_true hb30)) (dE fun w31 hv => ?_)
      simp only [zP, po]
      refine tK k29 (cT rfl ?_)
      refine sK fun _ k32 => rL (xA (.bool true) rfl ?_)
      simp only [zP, po]
      refine wK k32 (rR ?_)
      refine bE (tR ?_)
      refine tR (bE ?_)
      refine bE (tR ?_)
      refine tR (bE ?_)
      refine tR (bR rfl rfl ?_)
      exact ⟨true, rfl, ⟨fun _ h => absurd hb30 ((wall_of.1 h i (by omega) x hx).2 k y (by omega) hy), fun _ => rfl⟩, (hv.sub (List.Sublist.cons _ (List.Sublist.refl _)))⟩
     refine dG (.bool false) rfl (ex_seql rfl rfl rfl (decide_eq_false hb30)) (dE fun w33 hv => ?_)
     simp only [zP, po]
     refine tK k29 (cF rfl ?_)
     refine kS (bN ?_)
     refine tK k28 (rL ?_)
     refine xM (.int .i64 (k : Int)) rfl (xG (.int .i64 ((k + 1 : Nat) : Int)) rfl (ex_add rfl rfl rfl (by rw [i64_in (by omega)]; omega)) ?_)
     refine xA (.int .i64 ((k + 1 : Nat) : Int)) rfl (wL ?_)
     simp only [zP, po]
     refine then_normal ?_
     go_roundw
     case rel => exact ⟨k + 1, rfl, by omega, fun k9 y9 hk9 hy9 => (by
        rcases Nat.lt_or_ge k9 k with h | h
        ·exact hno k9 y9 h hy9
        rw [show k9 = k by omega, hy] at hy9; cases hy9; exact hb30), hv⟩
     case measure => show i - (((k + 1 : Nat) : Int)).toNat < i - ((k : Int)).toNat; omega
    refine xG (.bool false) rfl (ex_lss rfl rfl rfl (decide_eq_false hb27)) ?_
    simp only [zP, po]
    refine wK k26 (cF rfl ?_)
    refine xE (tX ?_)
    refine tX (bH ?_)
    refine bN (tK k8 ?_)
    refine rL (xM (.int .i64 (i : Int)) rfl ?_)
    refine xG (.int .i64 ((i + 1 : Nat) : Int)) rfl (ex_add rfl rfl rfl (by rw [i64_in (by omega)]; omega)) (xA (.int .i64 ((i + 1 : Nat) : Int)) rfl ?_)
    refine wL ?_
    simp only [zP, po]
    refine then_normal ?_
    go_roundw
    case rel => exact ⟨i + 1, rfl, by omega, fun k' hk' => (by
       rcases Nat.lt_or_ge k' i with h | h
       ·exact hall k' h
       obtain rfl : k' = i := by omega
       intro x' hx'
       rw [hx] at hx'; cases hx'
       exact ⟨⟨by omega, hbl20.1 rfl⟩, fun k9 y9 hk9 hy9 => hno k9 y9 (by omega) hy9⟩), (hv.sub (List.Sublist.cons _ (List.Sublist.refl _)))⟩
    case measure => show l.length - (((i + 1 : Nat) : Int)).toNat < l.length - ((i : Int)).toNat; omega
  refine xG (.bool false) rfl (ex_lss rfl rfl rfl (decide_eq_false hb7)) ?_
  simp only [zP, po]
  refine wK k6 (cF rfl ?_)
  refine xE (tX ?_)
  refine tX (bH ?_)
  refine tK k2 (sK fun _ k34 => ?_)
  refine rL (xA (.bool false) rfl ?_)
  simp only [zP, po]
  refine wK k34 (rR ?_)
  refine bR rfl rfl ?_
  obtain rfl : i = l.length := by omega
  exact ⟨false, rfl, ⟨fun h => (by cases h), fun h => absurd (wall_of.2 hall) h⟩, hv⟩
set_option maxHeartbeats 4000000 in
theorem refWrong_true (B : Base) (H : List Res) (w : World) (ad : Option Addr) (c : Nat) (xs : List Value) (l : List Wr) (hr : RdV B [] ad xs) (hxs : WrsAt B l xs) (hm : l.length ≤ 1000000) (hv : Inv B H w) :
  Calls Tryz.prog 24 #[.slice ad l.length c, .bool true] w fun e w' => ∃ b, e = .returned (.bool b) ∧ (b = true ↔ ¬ WAll true l) ∧ Inv B H w' := by
 refine cW Tryz.func24 rfl Tryz.ntmps24 ?_
 simp only [al]
 refine sK fun _ k1 => rL (xA (.bool false) rfl ?_)
 simp only [zP, po]
 refine wK k1 (sK fun _ k2 => ?_)
 refine sK fun _ k3 => rL (xA (.int .i64 0) rfl ?_)
 simp only [zP, po]
 refine wK k3 (bB ?_)
 gi_loopw [5] (fun x5 wr => ∃ (i : Nat), x5 = .int .i64 (i : Int) ∧ i ≤ l.length ∧ (∀ k, k < i → WAt true l k) ∧ Inv B H wr) (fun x5 _ => l.length - (intOf x5).toNat)
 case atStart => exact ⟨0, rfl, Nat.zero_le _, fun k h => by omega, hv⟩
 case round =>
  obtain ⟨i, rfl, hi, hall, hv⟩ := hrel
  refine sK fun _ k5 => sK fun _ k6 => rL (xM (.int .i64 (i : Int)) rfl ?_)
  refine xM (.slice ad l.length c) rfl (xG (.int .i64 (l.length : Int)) rfl (ex_len0 Tryz.underlying33 rfl rfl) ?_)
  simp only [zP, po]
  by_cases hb7 : (i : Int) < (l.length : Int)
  ·refine xG (.bool true) rfl (ex_lss rfl rfl rfl (decide_eq_true hb7)) ?_
   simp only [zP, po]
   refine wK k6 (cT rfl ?_)
   refine kS (tK k5 ?_)
   refine sK fun _ k8 => bB (sK fun _ k9 => ?_)
   obtain ⟨x, hx⟩ : ∃ x, l[i]? = some x := ⟨_, List.getElem?_eq_getElem (show i < l.length by omega)⟩
   obtain ⟨bb, bo, xp, xt, xz, had, hvalx, hrdx⟩ := WrsAt.reads hxs hr hx
   subst had
   refine rL (xM (.slice (some ⟨bb, bo, none⟩) l.length c) rfl ?_)
   refine xM (.int .i64 (i : Int)) rfl (xG (.pointer (some ⟨bb, bo + i * 9, none⟩)) rfl (ex_index rfl rfl rfl (run_idx (k := i) Tryz.underlying33 s8es33 (by omega))) ?_)
   simp only [zP, po]
   refine xF (.pointer (some ⟨bb, bo + i * 9 + 1, none⟩)) rfl (s14fa57_1 _ _ _) (xL (.agg #[.int .i64 x.ver.stamp, .bool x.ver.gone, .int .i64 x.ver.expire, .int .i64 x.ver.val.kind, .string ⟨x.ver.val.text.toArray⟩, xp, xt, xz]) rfl (run_loadR (cs := [.int .i64 x.ver.stamp, .bool x.ver.gone, .int .i64 x.ver.expire, .int .i64 x.ver.val.kind, .string ⟨x.ver.val.text.toArray⟩, xp, xt, xz]) s1wd55 (Reads.mid (pre := [.string ⟨x.key.toArray⟩]) (mid := [.int .i64 x.ver.stamp, .bool x.ver.gone, .int .i64 x.ver.expire, .int .i64 x.ver.val.kind, .string ⟨x.ver.val.text.toArray⟩, xp, xt, xz]) (post := []) hrdx _ _ _ (Base.Le.refl _) no_res hv)) ?_)
   refine sl_alloc tV (wn rfl) rfl hv s36al55 (fun b10 w11 hv => ?_)
   simp only [zP, po]
   refine xS 0 rfl hv s1sz55 rfl (by exact ⟨rfl, rfl, rfl, rfl, rfl, hvalx.p.one, hvalx.t.one, hvalx.z.one, trivial⟩) (fun w12 hv => ?_)
   simp only [zO, sp] at hv
   simp only [zP, po]
   refine wK k9 (sK fun _ k13 => ?_)
   refine sK fun _ k14 => rL (xM (.bool true) rfl ?_)
   refine xG (.bool false) rfl (ex_not rfl rfl rfl) ?_
   simp only [zP, po]
   refine wK k14 (cF rfl ?_)
   refine kS (tK k13 ?_)
   refine sK fun _ k15 => sK fun _ k16 => rL (xM (.slice (some ⟨bb, bo, none⟩) l.length c) rfl ?_)
   refine xM (.int .i64 (i : Int)) rfl (xG (.pointer (some ⟨bb, bo + i * 9, none⟩)) rfl (ex_index rfl rfl rfl (run_idx (k := i) Tryz.underlying33 s8es33 (by omega))) ?_)
   simp only [zP, po]
   refine xF (.pointer (some ⟨bb, bo + i * 9, none⟩)) rfl (s8fa57_0 _ _ _) (xL _ rfl (run_load1 s3na9 (hrdx _ _ _ (Base.Le.refl _) no_res hv 0 _ rfl)) ?_)
   refine xG (.int .i64 (x.key.length : Int)) rfl (ex_lenStr Tryz.underlying9 rfl rfl) ?_
   simp only [zP, po]
   by_cases hb17 : (x.key.length : Int) > 256
   ·refine xG (.bool true) rfl (ex_gtr rfl rfl rfl (decide_eq_true hb17)) (xM (.bool true) rfl ?_)
    refine yP rfl ?_
    simp only [zP, po]
    refine yP rfl (yP rfl ?_)
    refine xK true (.bool true) rfl ?_
    simp only [zP, po]
    refine wK k16 (cT rfl ?_)
    refine sK fun _ k18 => rL (xA (.bool true) rfl ?_)
    simp only [zP, po]
    refine wK k18 (rR ?_)
    refine tR (bE ?_)
    refine tR (tR ?_)
    refine bE (tR ?_)
    refine bR rfl rfl (⟨true, rfl, ⟨fun _ h => (by have h9 := ((wall_of.1 h i (by omega) x hx).1).1; omega), fun _ => rfl⟩, (hv.sub (List.Sublist.cons _ (List.Sublist.refl _)))⟩)
   refine xG (.bool false) rfl (ex_gtr rfl rfl rfl (decide_eq_false hb17)) (xM (.bool false) rfl ?_)
   refine xL (.agg #[.int .i64 x.ver.stamp, .bool x.ver.gone, .int .i64 x.ver.expire, .int .i64 x.ver.val.kind, .string ⟨x.ver.val.text.toArray⟩, xp, xt, xz]) rfl (run_load_mid (pre := []) (mid := [.int .i64 x.ver.stamp, .bool x.ver.gone, .int .i64 x.ver.expire, .int .i64 x.ver.val.kind, .string ⟨x.ver.val.text.toArray⟩, xp, xt, xz]) (post := []) s1wd55 (show Blk _ b10 ([] ++ [.int .i64 x.ver.stamp, .bool x.ver.gone, .int .i64 x.ver.expire, .int .i64 x.ver.val.kind, .string ⟨x.ver.val.text.toArray⟩, xp, xt, xz] ++ []) _ from hv.get 0 rfl) rfl) ?_
   simp only [zP, po]
   refine xC s36callable55 rfl ((refOne B _ _ (x.ver) xp xt xz hvalx hv).mono ?_) rfl
   rintro e w20 ⟨bl19, rfl, hbl19, hv⟩
   refine ⟨_, rfl, ?_⟩
   cases bl19
   ·refine xG (.bool true) rfl (ex_not rfl rfl rfl) (xK false (.bool true) rfl ?_)
    simp only [zP, po]
    refine wK k16 (cT rfl ?_)
    refine sK fun _ k21 => rL (xA (.bool true) rfl ?_)
    simp only [zP, po]
    refine wK k21 (rR ?_)
    refine tR (bE ?_)
    refine tR (tR ?_)
    refine bE (tR ?_)
    refine bR rfl rfl (⟨true, rfl, ⟨fun _ h => (by have h9 := hbl19.2 ((wall_of.1 h i (by omega) x hx).1).2; cases h9), fun _ => rfl⟩, (hv.sub (List.Sublist.cons _ (List.Sublist.refl _)))⟩)
   refine xG (.bool false) rfl (ex_not rfl rfl rfl) (xK false (.bool false) rfl ?_)
   simp only [zP, po]
   refine wK k16 (cF rfl ?_)
   refine kS (tK k15 ?_)
   refine sK fun _ k22 => rL (xA (.int .i64 0) rfl ?_)
   simp only [zP, po]
   refine wK k22 (bB ?_)
   gi_loopw [7] (fun x7 wr => ∃ (k : Nat), x7 = .int .i64 (k : Int) ∧ k ≤ i ∧ (∀ (k9 : Nat) y, k9 < k → l[k9]? = some y → y.key ≠ x.key) ∧ Inv B (Res.cell b10 [.int .i64 x.ver.stamp, .bool x.ver.gone, .int .i64 x.ver.expire, .int .i64 x.ver.val.kind, .string ⟨x.ver.val.text.toArray⟩, xp, xt, xz] 55 :: H) wr) (fun x7 _ => i - (intOf x7).toNat)
   case atStart => exact ⟨0, rfl, Nat.zero_le _, fun k y h => by omega, hv⟩
   case round =>
    obtain ⟨k, rfl, hk, hno, hv⟩ := hrel
    refine sK fun _ k24 => sK fun _ k25 => rL (xM (.int .i64 (k : Int)) rfl ?_)
    refine xM (.int .i64 (i : Int)) rfl ?_
    by_cases hb26 : (k : Int) < (i : Int)
    ·refine xG (.bool true) rfl (ex_lss rfl rfl rfl (decide_eq_true hb26)) ?_
     simp only [zP, po]
     refine wK k25 (cT rfl ?_)
     refine kS (tK k24 ?_)
     refine sK fun _ k27 => bB (sK fun _ k28 => ?_)
     obtain ⟨y, hy⟩ : ∃ x, l[k]? = some x := ⟨_, List.getElem?_eq_getElem (show k < l.length by omega)⟩
     obtain ⟨b9, o9, yp, yt, yz, had9, hvaly, hrdy⟩ := WrsAt.reads hxs hr hy
     cases had9
     refine rW mixed [] [0,1,2,3,4,5,6,7,8,9,10] 50 rfl (by kernel_rfl) hv ?_
     simp only [qm, opAt]
     refine dM (.slice (some ⟨bb, bo, none⟩) l.length c) rfl (dM (.int .i64 (k : Int)) rfl ?_)
     refine dG (.pointer (some ⟨bb, bo + k * 9, none⟩)) rfl (ex_index rfl rfl rfl (run_idx (k := k) Tryz.underlying33 s8es33 (by omega))) ?_
     simp only [zP, po]
     refine dG (.pointer (some ⟨bb, bo + k * 9, none⟩)) rfl (ex_field rfl rfl (s8fa57_0 _ _ _)) (dL _ rfl (fun hv => ex_load rfl rfl (run_load1 s3na9 (hrdy _ _ _ (Base.Le.refl _) no_res hv 0 _ rfl))) ?_)
     refine dM (.slice (some ⟨bb, bo, none⟩) l.length c) rfl ?_
     simp only [zP, po]
     refine dM (.int .i64 (i : Int)) rfl (dG (.pointer (some ⟨bb, bo + i * 9, none⟩)) rfl (ex_index rfl rfl rfl (run_idx (k := i) Tryz.underlying33 s8es33 (by omega))) ?_)
     refine dG (.pointer (some ⟨bb, bo + i * 9, none⟩)) rfl (ex_field rfl rfl (s8fa57_0 _ _ _)) ?_
     simp only [zP, po]
     refine dL _ rfl (fun hv => ex_load rfl rfl (run_load1 s3na9 (hrdx _ _ _ (Base.Le.refl _) no_res hv 0 _ rfl))) ?_
     by_cases hb29 : y.key = x.key
     ·refine dG (.bool true) rfl (ex_seql rfl rfl rfl (decide_eq_true hb29)) (dE fun w30 hv => ?_)
      simp only [zP, po]
      refine tK k28 (cT rfl ?_)
      refine sK fun _ k31 => rL (xA (.bool true) rfl ?_)
      simp only [zP, po]
      refine wK k31 (rR ?_)
      refine bE (tR ?_)
      refine tR (bE ?_)
      refine bE (tR ?_)
      refine tR (bE ?_)
      refine tR (bR rfl rfl ?_)
      exact ⟨true, rfl, ⟨fun _ h => absurd hb29 ((wall_of.1 h i (by omega) x hx).2 k y (by omega) hy), fun _ => rfl⟩, (hv.sub (List.Sublist.cons _ (List.Sublist.refl _)))⟩
     refine dG (.bool false) rfl (ex_seql rfl rfl rfl (decide_eq_false hb29)) (dE fun w32 hv => ?_)
     simp only [zP, po]
     refine tK k28 (cF rfl ?_)
     refine kS (bN ?_)
     refine tK k27 (rL ?_)
     refine xM (.int .i64 (k : Int)) rfl (xG (.int .i64 ((k + 1 : Nat) : Int)) rfl (ex_add rfl rfl rfl (by rw [i64_in (by omega)]; omega)) ?_)
     refine xA (.int .i64 ((k + 1 : Nat) : Int)) rfl (wL ?_)
     simp only [zP, po]
     refine then_normal ?_
     go_roundw
     case rel => exact ⟨k + 1, rfl, by omega, fun k9 y9 hk9 hy9 => (by
        rcases Nat.lt_or_ge k9 k with h | h
        ·exact hno k9 y9 h hy9
        rw [show k9 = k by omega, hy] at hy9; cases hy9; exact hb29), hv⟩
     case measure => show i - (((k + 1 : Nat) : Int)).toNat < i - ((k : Int)).toNat; omega
    refine xG (.bool false) rfl (ex_lss rfl rfl rfl (decide_eq_false hb26)) ?_
    simp only [zP, po]
    refine wK k25 (cF rfl ?_)
    refine xE (tX ?_)
    refine tX (bH ?_)
    refine bN (tK k8 ?_)
    refine rL (xM (.int .i64 (i : Int)) rfl ?_)
    refine xG (.int .i64 ((i + 1 : Nat) : Int)) rfl (ex_add rfl rfl rfl (by rw [i64_in (by omega)]; omega)) (xA (.int .i64 ((i + 1 : Nat) : Int)) rfl ?_)
    refine wL ?_
    simp only [zP, po]
    refine then_normal ?_
    go_roundw
    case rel => exact ⟨i + 1, rfl, by omega, fun k' hk' => (by
       rcases Nat.lt_or_ge k' i with h | h
       ·exact hall k' h
       obtain rfl : k' = i := by omega
       intro x' hx'
       rw [hx] at hx'; cases hx'
       exact ⟨⟨by omega, hbl19.1 rfl⟩, fun k9 y9 hk9 hy9 => hno k9 y9 (by omega) hy9⟩), (hv.sub (List.Sublist.cons _ (List.Sublist.refl _)))⟩
    case measure => show l.length - (((i + 1 : Nat) : Int)).toNat < l.length - ((i : Int)).toNat; omega
  refine xG (.bool false) rfl (ex_lss rfl rfl rfl (decide_eq_false hb7)) ?_
  simp only [zP, po]
  refine wK k6 (cF rfl ?_)
  refine xE (tX ?_)
  refine tX (bH ?_)
  refine tK k2 (sK fun _ k33 => ?_)
  refine rL (xA (.bool false) rfl ?_)
  simp only [zP, po]
  refine wK k33 (rR ?_)
  refine bR rfl rfl ?_
  obtain rfl : i = l.length := by omega
  exact ⟨false, rfl, ⟨fun h => (by cases h), fun h => absurd (wall_of.2 hall) h⟩, hv⟩
theorem wall_load {ws : List Wr} {stamp : Int} : LoadOk ws stamp ↔ 0 ≤ stamp ∧ stamp ≤ 1152921504606846975 ∧ WAll true ws ∧ ∀ x ∈ ws, x.ver.gone = false ∧ x.ver.stamp ≤ stamp := by
 constructor
 ·rintro ⟨h1, h2, h3, h4⟩
  refine ⟨h1, h2, ⟨h3, fun x hx => ?_⟩, fun x hx => ⟨(h4 x hx).2.1, (h4 x hx).2.2.2⟩⟩
  obtain ⟨h5, -, h6, h7⟩ := h4 x hx
  have h8 := (chain_one _).1 h5.2
  exact ⟨h5.1, h8.1, by show 0 < x.ver.stamp; omega, by show x.ver.stamp ≤ _; omega⟩
 rintro ⟨h1, h2, ⟨h3, h4⟩, h5⟩
 refine ⟨h1, h2, h3, fun x hx => ?_⟩
 obtain ⟨h6, h7, h8, h9⟩ := h4 x hx
 have h8' : 0 < x.ver.stamp := h8
 exact ⟨⟨h6, (chain_one _).2 ⟨h7, (by decide : (0 : Int) < 1), (by decide : (1 : Int) ≤ 1152921504606846975)⟩⟩, (h5 x hx).1, by omega, (h5 x hx).2⟩
theorem refM_nil (B : Base) : RefM B none none 0 0 [] [] := ⟨refIx_nil B, List.Pairwise.nil, by simp, fun m h => (by cases h), fun m h => (by cases h), fun k => Nat.zero_le _⟩
theorem RefM.set {B C : Base} {ka ca ka' ca' : Option Addr} {kc cc kc' cc' : Nat} {cvs cvs' : List Value} {M : Model} {key : List UInt8} {l : List Ver} {i : Nat} {ok : Bool} (h : RefM B ka ca kc cc cvs M) (hf : FindK M key i ok) (hx : RefIx C ka' ca' kc' cc' cvs' (setK M key l i ok)) (hk : key.length ≤ 1000) (hl : l.length ≤ 1000) (hM : (setK M key l i ok).length ≤ 100000) :
  RefM C ka' ca' kc' cc' cvs' (setK M key l i ok) := ⟨hx, setK_sorted h.so hf, hM, fun m hm => by
 unfold setK at hm
 rcases List.mem_append.1 hm with hm | hm
 ·rcases List.mem_append.1 hm with hm | hm
  ·exact h.kl m (List.mem_of_mem_take hm)
  split at hm
  ·cases hm
  rw [List.mem_singleton.1 hm]; exact hk
 ·exact h.kl m (List.mem_of_mem_drop hm), setK_mem h.ne, fun k => by
 rw [getM_findK h.so hf]
 split
 ·exact hl
 exact h.cl k⟩
theorem setK_len_le {M : Model} {key : List UInt8} {l : List Ver} {i : Nat} {ok : Bool} (hi : i ≤ M.length) : (setK M key l i ok).length ≤ M.length + 1 := by
 unfold setK
 simp only [List.length_append, List.length_take, List.length_drop]
 split <;> split <;> simp <;> omega
theorem s36callable24 : Callable Tryz.prog 24 := ⟨_, Tryz.func24, by kernel_rfl, by kernel_rfl⟩
theorem s36sz30 : (Tryz.prog.info? 30).map (·.size) = some 2 := by kernel_rfl
theorem s36fa32_2 (w : World) (b o : Nat) : (Instr.fieldAt 32 (.pointer (some ⟨b, o, none⟩)) 2).run Tryz.prog w = .ok (.pointer (some ⟨b, o + 3, none⟩)) w := by kernel_rfl
theorem s36mk55 : (Tryz.prog.info? 55).map (fun i => (i.zero, i.size, i.bytes)) = some (some (.agg #[.int .i64 0, .bool false, .int .i64 0, .int .i64 0, .string ⟨([] : List UInt8).toArray⟩, .slice none 0 0, .slice none 0 0, .slice none 0 0]), 8, 120) := by kernel_rfl
theorem s36el70 : Elem Tryz.prog 70 55 (.agg #[.int .i64 0, .bool false, .int .i64 0, .int .i64 0, .string ⟨([] : List UInt8).toArray⟩, .slice none 0 0, .slice none 0 0, .slice none 0 0]) 8 120 := elem_of Tryz.underlying70 s36mk55 (by rfl) (by decide)
theorem s36callable26 : Callable Tryz.prog 26 := ⟨_, Tryz.func26, by kernel_rfl, by kernel_rfl⟩
set_option maxHeartbeats 4000000 in
theorem refLoad (B : Base) (H : List Res) (w : World) (r : Nat) (kv cv : Value) (L Mk stamp : Int) (ad : Option Addr) (c : Nat) (xs : List Value) (ws : List Wr) (hr : RdV B [] ad xs) (hws : WrsAt B ws xs) (hm : ws.length ≤ 100000) (hv : Inv B (Res.cell r [kv, cv, .int .i64 L, .int .i64 Mk] 32 :: H) w) :
  Calls Tryz.prog 14 #[.pointer (some ⟨r, 0, none⟩), .int .i64 stamp, .slice ad ws.length c] w fun e w' => ∃ C ec, B.Le C ∧ e = .returned (.int .i64 ec) ∧ ((ec = 2 ∧ ¬ LoadOk ws stamp ∧ Inv C (Res.cell r [kv, cv, .int .i64 L, .int .i64 Mk] 32 :: H) w') ∨ (ec = 22 ∧ 4096 < ws.length ∧ LoadOk ws stamp ∧ Inv C (Res.cell r [kv, cv, .int .i64 L, .int .i64 Mk] 32 :: H) w') ∨ (ec = 0 ∧ ws.length ≤ 4096 ∧ LoadOk ws stamp ∧ ∃ ka ca kc cc cvs M, RefM C ka ca kc cc cvs M ∧ LoadI M ws ws.length ∧ Inv C (Res.cell r [.slice ka M.length kc, .slice ca M.length cc, .int .i64 stamp, .int .i64 stamp] 32 :: H) w')) := by
 refine cW Tryz.func14 rfl Tryz.ntmps14 ?_
 simp only [al]
 refine sK fun _ k1 => rL (xA (.int .i64 0) rfl ?_)
 simp only [zP, po]
 refine wK k1 (sK fun _ k2 => ?_)
 refine sK fun _ k3 => rL (xM (.int .i64 stamp) rfl ?_)
 by_cases hb4 : stamp < 0
 ·refine xG (.bool true) rfl (ex_lss rfl rfl rfl (decide_eq_true hb4)) (xM (.bool true) rfl ?_)
  simp only [zP, po]
  iterate 2 refine yN rfl ?_
  refine xK true (.bool true) rfl (xM (.bool true) rfl ?_)
  iterate 2 refine yN rfl ?_
  refine xK true (.bool true) rfl ?_
  simp only [zP, po]
  refine wK k3 (cT rfl ?_)
  refine sK fun _ k5 => rL (xA (.int .i64 2) rfl ?_)
  simp only [zP, po]
  refine wK k5 (rR ?_)
  refine tR (bR rfl rfl ?_)
  exact ⟨B, 2, Base.Le.refl _, rfl, .inl ⟨rfl, fun h9 => by obtain ⟨h1, h2, h3, h4⟩ := wall_load.1 h9; first | omega | (have h5 := h4 x (List.mem_of_getElem? hx); first | omega | (rw [hgo] at h5; cases h5.1)), hv⟩⟩
 refine xG (.bool false) rfl (ex_lss rfl rfl rfl (decide_eq_false hb4)) (xM (.bool false) rfl ?_)
 simp only [zP, po]
 refine xM (.int .i64 stamp) rfl ?_
 by_cases hb6 : stamp > 1152921504606846975
 ·refine xG (.bool true) rfl (ex_gtr rfl rfl rfl (decide_eq_true hb6)) (xK false (.bool true) rfl ?_)
  simp only [zP, po]
  refine xM (.bool true) rfl ?_
  iterate 2 refine yN rfl ?_
  refine xK true (.bool true) rfl ?_
  simp only [zP, po]
  refine wK k3 (cT rfl ?_)
  refine sK fun _ k7 => rL (xA (.int .i64 2) rfl ?_)
  simp only [zP, po]
  refine wK k7 (rR ?_)
  refine tR (bR rfl rfl ?_)
  exact ⟨B, 2, Base.Le.refl _, rfl, .inl ⟨rfl, fun h9 => by obtain ⟨h1, h2, h3, h4⟩ := wall_load.1 h9; first | omega | (have h5 := h4 x (List.mem_of_getElem? hx); first | omega | (rw [hgo] at h5; cases h5.1)), hv⟩⟩
 refine xG (.bool false) rfl (ex_gtr rfl rfl rfl (decide_eq_false hb6)) (xK false (.bool false) rfl ?_)
 simp only [zP, po]
 refine xM (.bool false) rfl (xM (.slice ad ws.length c) rfl ?_)
 refine xC s36callable24 rfl ((refWrong_true B _ _ ad c xs ws hr hws (by omega) hv).mono ?_) rfl
 rintro e w9 ⟨bl8, rfl, hbl8, hv⟩
 refine ⟨_, rfl, ?_⟩
 cases bl8
 ·simp only [zP, po]
  refine xK false (.bool false) rfl ?_
  simp only [zP, po]
  refine wK k3 (cF rfl ?_)
  refine kS (tK k2 ?_)
  refine sK fun _ k10 => sK fun _ k11 => rL (xA (.int .i64 0) rfl ?_)
  simp only [zP, po]
  refine wK k11 (bB ?_)
  gi_loopw [7] (fun x7 wr => ∃ (i : Nat), x7 = .int .i64 (i : Int) ∧ i ≤ ws.length ∧ (∀ (j : Nat) x, j < i → ws[j]? = some x → x.ver.gone = false ∧ x.ver.stamp ≤ stamp) ∧ Inv B (Res.cell r [kv, cv, .int .i64 L, .int .i64 Mk] 32 :: H) wr) (fun x7 _ => ws.length - (intOf x7).toNat)
  case atStart => exact ⟨0, rfl, Nat.zero_le _, fun j x h => by omega, hv⟩
  case round =>
   obtain ⟨i, rfl, hi, hgd, hv⟩ := hrel
   refine sK fun _ k13 => sK fun _ k14 => rL (xM (.int .i64 (i : Int)) rfl ?_)
   refine xM (.slice ad ws.length c) rfl (xG (.int .i64 (ws.length : Int)) rfl (ex_len0 Tryz.underlying33 rfl rfl) ?_)
   simp only [zP, po]
   by_cases hb15 : (i : Int) < (ws.length : Int)
   ·refine xG (.bool true) rfl (ex_lss rfl rfl rfl (decide_eq_true hb15)) ?_
    simp only [zP, po]
    refine wK k14 (cT rfl ?_)
    refine kS (tK k13 ?_)
    refine sK fun _ k16 => bB (sK fun _ k17 => ?_)
    obtain ⟨x, hx⟩ : ∃ x, ws[i]? = some x := ⟨_, List.getElem?_eq_getElem (show i < ws.length by omega)⟩
    obtain ⟨bb, bo, xp, xt, xz, had, hvalx, hrdx⟩ := WrsAt.reads hws hr hx
    subst had
    refine rL (xM (.slice (some ⟨bb, bo, none⟩) ws.length c) rfl ?_)
    refine xM (.int .i64 (i : Int)) rfl (xG (.pointer (some ⟨bb, bo + i * 9, none⟩)) rfl (ex_index rfl rfl rfl (run_idx (k := i) Tryz.underlying33 s8es33 (by omega))) ?_)
    simp only [zP, po]
    refine xF (.pointer (some ⟨bb, bo + i * 9 + 1, none⟩)) rfl (s14fa57_1 _ _ _) (xF (.pointer (some ⟨bb, bo + i * 9 + 1 + 1, none⟩)) rfl (s2fa55_1 _ _ _) ?_)
    cases hgo : x.ver.gone
    ·refine xL (.bool false) rfl (by rw [← hgo]; exact run_load1 s2na4 (hrdx _ _ _ (Base.Le.refl _) no_res hv 2 _ rfl)) ?_
     simp only [zP, po]
     refine xM (.bool false) rfl (xM (.slice (some ⟨bb, bo, none⟩) ws.length c) rfl ?_)
     refine xM (.int .i64 (i : Int)) rfl ?_
     simp only [zP, po]
     refine xG (.pointer (some ⟨bb, bo + i * 9, none⟩)) rfl (ex_index rfl rfl rfl (run_idx (k := i) Tryz.underlying33 s8es33 (by omega))) (xF (.pointer (some ⟨bb, bo + i * 9 + 1, none⟩)) rfl (s14fa57_1 _ _ _) ?_)
     refine xF (.pointer (some ⟨bb, bo + i * 9 + 1, none⟩)) rfl (s2fa55_0 _ _ _) ?_
     simp only [zP, po]
     refine xL _ rfl (run_load1 s2na3 (hrdx _ _ _ (Base.Le.refl _) no_res hv 1 _ rfl)) (xM (.int .i64 stamp) rfl ?_)
     by_cases hb18 : x.ver.stamp > stamp
     ·refine xG (.bool true) rfl (ex_gtr rfl rfl rfl (decide_eq_true hb18)) ?_
      simp only [zP, po]
      refine xK false (.bool true) rfl ?_
      simp only [zP, po]
      refine wK k17 (cT rfl ?_)
      refine sK fun _ k19 => rL (xA (.int .i64 2) rfl ?_)
      simp only [zP, po]
      refine wK k19 (rR ?_)
      refine bE (tR ?_)
      refine tR (bE ?_)
      refine tR (bR rfl rfl ?_)
      exact ⟨B, 2, Base.Le.refl _, rfl, .inl ⟨rfl, fun h9 => by obtain ⟨h1, h2, h3, h4⟩ := wall_load.1 h9; first | omega | exact hbl8.1 rfl h3 | (have h5 := h4 x (List.mem_of_getElem? hx); first | omega | (rw [hgo] at h5; cases h5.1)), hv⟩⟩
     refine xG (.bool false) rfl (ex_gtr rfl rfl rfl (decide_eq_false hb18)) ?_
     simp only [zP, po]
     refine xK false (.bool false) rfl ?_
     simp only [zP, po]
     refine wK k17 (cF rfl ?_)
     refine kS (bN ?_)
     refine tK k16 (rL ?_)
     refine xM (.int .i64 (i : Int)) rfl (xG (.int .i64 ((i + 1 : Nat) : Int)) rfl (ex_add rfl rfl rfl (by rw [i64_in (by omega)]; omega)) ?_)
     refine xA (.int .i64 ((i + 1 : Nat) : Int)) rfl (wL ?_)
     simp only [zP, po]
     refine then_normal ?_
     go_roundw
     case rel => exact ⟨i + 1, rfl, by omega, fun j y hj hy => (by
        rcases Nat.lt_or_ge j i with h | h
        ·exact hgd j y h hy
        rw [show j = i by omega, hx] at hy; cases hy; exact ⟨hgo, by omega⟩), hv⟩
     case measure => show ws.length - (((i + 1 : Nat) : Int)).toNat < ws.length - ((i : Int)).toNat; omega
    refine xL (.bool true) rfl (by rw [← hgo]; exact run_load1 s2na4 (hrdx _ _ _ (Base.Le.refl _) no_res hv 2 _ rfl)) ?_
    simp only [zP, po]
    refine xM (.bool true) rfl (yP rfl ?_)
    refine yP rfl ?_
    simp only [zP, po]
    refine yP rfl (yP rfl ?_)
    refine yP rfl ?_
    simp only [zP, po]
    refine yP rfl (yP rfl ?_)
    refine yP rfl ?_
    simp only [zP, po]
    refine xK true (.bool true) rfl ?_
    simp only [zP, po]
    refine wK k17 (cT rfl ?_)
    refine sK fun _ k20 => rL (xA (.int .i64 2) rfl ?_)
    simp only [zP, po]
    refine wK k20 (rR ?_)
    refine bE (tR ?_)
    refine tR (bE ?_)
    refine tR (bR rfl rfl ?_)
    exact ⟨B, 2, Base.Le.refl _, rfl, .inl ⟨rfl, fun h9 => by obtain ⟨h1, h2, h3, h4⟩ := wall_load.1 h9; first | omega | exact hbl8.1 rfl h3 | (have h5 := h4 x (List.mem_of_getElem? hx); first | omega | (rw [hgo] at h5; cases h5.1)), hv⟩⟩
   refine xG (.bool false) rfl (ex_lss rfl rfl rfl (decide_eq_false hb15)) ?_
   simp only [zP, po]
   refine wK k14 (cF rfl ?_)
   refine xE (tX ?_)
   refine tX (bH ?_)
   refine tK k10 (sK fun _ k21 => ?_)
   refine sK fun _ k22 => rL (xM (.slice ad ws.length c) rfl ?_)
   refine xG (.int .i64 (ws.length : Int)) rfl (ex_len0 Tryz.underlying33 rfl rfl) ?_
   by_cases hb23 : (ws.length : Int) > 4096
   ·refine xG (.bool true) rfl (ex_gtr rfl rfl rfl (decide_eq_true hb23)) ?_
    simp only [zP, po]
    refine wK k22 (cT rfl ?_)
    refine sK fun _ k24 => rL (xA (.int .i64 22) rfl ?_)
    simp only [zP, po]
    refine wK k24 (rR ?_)
    refine tR (bR rfl rfl ?_)
    exact ⟨B, 22, Base.Le.refl _, rfl, .inr (.inl ⟨rfl, by omega, wall_load.2 ⟨by omega, by omega, Classical.not_not.1 (fun h => by have h9 := hbl8.2 h; cases h9), fun x hx => (by obtain ⟨j, hj⟩ := List.mem_iff_getElem?.1 hx; exact hgd j x (by have := (List.getElem?_eq_some_iff.1 hj).1; omega) hj)⟩, hv⟩)⟩
   refine xG (.bool false) rfl (ex_gtr rfl rfl rfl (decide_eq_false hb23)) ?_
   simp only [zP, po]
   refine wK k22 (cF rfl ?_)
   refine kS (tK k21 ?_)
   refine sK fun _ k25 => ?_
   have hlok : LoadOk ws stamp := wall_load.2 ⟨by omega, by omega, Classical.not_not.1 (fun h => by have h9 := hbl8.2 h; cases h9), fun x hx => (by obtain ⟨j, hj⟩ := List.mem_iff_getElem?.1 hx; exact hgd j x (by have := (List.getElem?_eq_some_iff.1 hj).1; omega) hj)⟩
   refine rL (xM (.pointer (some ⟨r, 0, none⟩)) rfl ?_)
   refine xG (.agg #[.slice none 0 0, .slice none 0 0]) rfl (ex_buildN (vs := #[]) rfl (by simp only [List.map_toArray, List.map_nil]) (by kernel_rfl)) (xG (.pointer (some ⟨r, 0, none⟩)) rfl (ex_nil rfl rfl) ?_)
   simp only [zP, po]
   refine xF (.pointer (some ⟨r, 0, none⟩)) rfl (s34fa32_0 _ _ _) (xS 0 rfl hv s36sz30 rfl (by exact ⟨rfl, rfl, trivial⟩) (fun w26 hv => ?_))
   simp only [zO, sp] at hv
   simp only [zP, po]
   refine wK k25 (sK fun _ k27 => ?_)
   refine rL (xM (.pointer (some ⟨r, 0, none⟩)) rfl ?_)
   refine xM (.int .i64 stamp) rfl (xG (.pointer (some ⟨r, 0, none⟩)) rfl (ex_nil rfl rfl) ?_)
   simp only [zP, po]
   refine xF (.pointer (some ⟨r, 2, none⟩)) rfl (s35fa32_1 _ _ _) (xV 0 (.int .i64 stamp) rfl hv s5sz3 rfl rfl (fun w28 hv => ?_))
   simp only [zO, sp] at hv
   simp only [zP, po]
   refine wK k27 (sK fun _ k29 => ?_)
   refine rL (xM (.pointer (some ⟨r, 0, none⟩)) rfl ?_)
   refine xM (.int .i64 stamp) rfl (xG (.pointer (some ⟨r, 0, none⟩)) rfl (ex_nil rfl rfl) ?_)
   simp only [zP, po]
   refine xF (.pointer (some ⟨r, 3, none⟩)) rfl (s36fa32_2 _ _ _) (xV 0 (.int .i64 stamp) rfl hv s5sz3 rfl rfl (fun w30 hv => ?_))
   simp only [zO, sp] at hv
   simp only [zP, po]
   refine wK k29 (sK fun _ k31 => ?_)
   refine sK fun _ k32 => rL (xA (.int .i64 0) rfl ?_)
   simp only [zP, po]
   refine wK k32 (bB ?_)
   gi_loopw [8] (fun x8 wr => ∃ (i2 : Nat) (C : Base) (ka ca : Option Addr) (kc cc : Nat) (cvs : List Value) (M : Model), x8 = .int .i64 (i2 : Int) ∧ B.Le C ∧ i2 ≤ ws.length ∧ RefM C ka ca kc cc cvs M ∧ LoadI M ws i2 ∧ M.length ≤ i2 ∧ Inv C (Res.cell r [.slice ka M.length kc, .slice ca M.length cc, .int .i64 stamp, .int .i64 stamp] 32 :: H) wr) (fun x8 _ => ws.length - (intOf x8).toNat)
   case atStart => exact ⟨0, B, none, none, 0, 0, [], [], rfl, Base.Le.refl _, Nat.zero_le _, refM_nil B, ⟨fun j x h => by omega, fun k _ => rfl⟩, Nat.zero_le _, hv⟩
   case round =>
    obtain ⟨i2, C, ka, ca, kc, cc, cvs, M, rfl, hBC, hi, hx0, hld, hMl, hv⟩ := hrel
    refine sK fun _ k34 => sK fun _ k35 => rL (xM (.int .i64 (i2 : Int)) rfl ?_)
    refine xM (.slice ad ws.length c) rfl (xG (.int .i64 (ws.length : Int)) rfl (ex_len0 Tryz.underlying33 rfl rfl) ?_)
    simp only [zP, po]
    by_cases hb36 : (i2 : Int) < (ws.length : Int)
    ·refine xG (.bool true) rfl (ex_lss rfl rfl rfl (decide_eq_true hb36)) ?_
     simp only [zP, po]
     refine wK k35 (cT rfl ?_)
     refine kS (tK k34 ?_)
     refine sK fun _ k37 => bB ?_
     obtain ⟨x, hx⟩ : ∃ x, ws[i2]? = some x := ⟨_, List.getElem?_eq_getElem (show i2 < ws.length by omega)⟩
     obtain ⟨bb, bo, xp, xt, xz, had, hvalx, hrdx⟩ := WrsAt.reads hws hr hx
     subst had
     refine rW mixed [13, 14] [0,1,2,3,4,5,6,7,8,9,10,11,12,13,14] 77 rfl (by kernel_rfl) hv ?_
     simp only [qm, opAt]
     refine dM (.pointer (some ⟨r, 0, none⟩)) rfl (dG (.pointer (some ⟨r, 0, none⟩)) rfl (ex_nil rfl rfl) ?_)
     refine dG (.pointer (some ⟨r, 0, none⟩)) rfl (ex_field rfl rfl (s34fa32_0 _ _ _)) ?_
     simp only [zP, po]
     refine dM (.slice (some ⟨bb, bo, none⟩) ws.length c) rfl (dM (.int .i64 (i2 : Int)) rfl ?_)
     refine dG (.pointer (some ⟨bb, bo + i2 * 9, none⟩)) rfl (ex_index rfl rfl rfl (run_idx (k := i2) Tryz.underlying33 s8es33 (by omega))) ?_
     simp only [zP, po]
     refine dG (.pointer (some ⟨bb, bo + i2 * 9, none⟩)) rfl (ex_field rfl rfl (s8fa57_0 _ _ _)) (dF _ rfl (fun hv => ex_load rfl rfl (run_load1 s3na9 (hrdx _ _ _ hBC no_res hv 0 _ rfl))) fun f38 hf38 => ?_)
     refine dM (.slice (some ⟨bb, bo, none⟩) ws.length c) rfl ?_
     simp only [zP, po]
     refine dM (.int .i64 (i2 : Int)) rfl (dG (.pointer (some ⟨bb, bo + i2 * 9, none⟩)) rfl (ex_index rfl rfl rfl (run_idx (k := i2) Tryz.underlying33 s8es33 (by omega))) ?_)
     refine dG (.pointer (some ⟨bb, bo + i2 * 9 + 1, none⟩)) rfl (ex_field rfl rfl (s14fa57_1 _ _ _)) ?_
     simp only [zP, po]
     refine dL (.agg #[.int .i64 x.ver.stamp, .bool x.ver.gone, .int .i64 x.ver.expire, .int .i64 x.ver.val.kind, .string ⟨x.ver.val.text.toArray⟩, xp, xt, xz]) rfl (fun hv => ex_load rfl rfl (run_loadR (cs := [.int .i64 x.ver.stamp, .bool x.ver.gone, .int .i64 x.ver.expire, .int .i64 x.ver.val.kind, .string ⟨x.ver.val.text.toArray⟩, xp, xt, xz]) s1wd55 (Reads.mid (pre := [.string ⟨x.key.toArray⟩]) (mid := [.int .i64 x.ver.stamp, .bool x.ver.gone, .int .i64 x.ver.expire, .int .i64 x.ver.val.kind, .string ⟨x.ver.val.text.toArray⟩, xp, xt, xz]) (post := []) hrdx _ _ _ hBC no_res hv))) (dS rfl fun w39 hv => ?_)
     refine mem_rowAgg (L := [.int .i64 x.ver.stamp, .bool x.ver.gone, .int .i64 x.ver.expire, .int .i64 x.ver.val.kind, .string ⟨x.ver.val.text.toArray⟩, xp, xt, xz]) rfl rfl rfl hv s36el70 rfl (by decide) (fun b40 w41 hv => ?_)
     refine dV hv (fC (fun ww hv => hf38 ww (ex_load rfl rfl (run_load1 s3na9 (hrdx _ _ _ hBC no_res hv 0 _ rfl)))) fN) (dS rfl fun w42 hv => ?_)
     obtain ⟨E, hE, hv, hrE, hokE, -⟩ := (hv.cellRow (n := 1) (c := 1) (size := 8) rfl (by decide) (by decide)).rowBy
     refine mC s36callable26 rfl ((refIxSet E _ _ r ka ca kc cc cvs M stamp stamp x.key ((hx0.more (Base.Le.refl _)).more hE).ix hx0.so hx0.sm hx0.kl _ [x.ver] ⟨_, 1, _, rfl, hokE, hrE, VersAt.single (v := x.ver) ((hvalx.more hBC).more hE)⟩ (by simp) (hv.front 0 rfl)).mono ?_) rfl
     rintro e w43 ⟨rfl, G, ka2, kc2, ca2, cc2, cvs2, i9, ok9, hA1, hFk, hA2, hv⟩
     have hEG := hE.trans hA1
     refine ⟨_, rfl, dV hv (fK rfl fN) ?_⟩
     refine dE fun w44 hv => ?_
     simp only [zP, po]
     refine bN (tK k37 ?_)
     refine rL (xM (.int .i64 (i2 : Int)) rfl ?_)
     refine xG (.int .i64 ((i2 + 1 : Nat) : Int)) rfl (ex_add rfl rfl rfl (by rw [i64_in (by omega)]; omega)) (xA (.int .i64 ((i2 + 1 : Nat) : Int)) rfl ?_)
     refine wL ?_
     simp only [zP, po]
     refine then_normal ?_
     go_roundw
     case rel => exact (have hsl := setK_len_le (key := x.key) (l := [x.ver]) (ok := ok9) hFk.le; ⟨i2 + 1, _, _, _, _, _, _, _, rfl, (hBC.trans hEG), by omega, hx0.set hFk hA2 (by have := (hlok.wr x (List.mem_of_getElem? hx)).1.1; omega) (by simp) (by omega), hld.next hlok.nd hx (getM_findK hx0.so hFk), by omega, hv⟩)
     case measure => show ws.length - (((i2 + 1 : Nat) : Int)).toNat < ws.length - ((i2 : Int)).toNat; omega
    refine xG (.bool false) rfl (ex_lss rfl rfl rfl (decide_eq_false hb36)) ?_
    simp only [zP, po]
    refine wK k35 (cF rfl ?_)
    refine xE (tX ?_)
    refine tX (bH ?_)
    refine tK k31 (sK fun _ k45 => ?_)
    refine rL (xA (.int .i64 0) rfl ?_)
    simp only [zP, po]
    refine wK k45 (rR ?_)
    refine bR rfl rfl ?_
    obtain rfl : i2 = ws.length := by omega
    exact ⟨C, 0, hBC, rfl, .inr (.inr ⟨rfl, by omega, hlok, ka, ca, kc, cc, cvs, M, hx0, hld, hv⟩)⟩
 simp only [zP, po]
 refine xK false (.bool true) rfl ?_
 simp only [zP, po]
 refine wK k3 (cT rfl ?_)
 refine sK fun _ k46 => rL (xA (.int .i64 2) rfl ?_)
 simp only [zP, po]
 refine wK k46 (rR ?_)
 refine tR (bR rfl rfl ?_)
 exact ⟨B, 2, Base.Le.refl _, rfl, .inl ⟨rfl, fun h9 => by obtain ⟨h1, h2, h3, h4⟩ := wall_load.1 h9; first | omega | exact hbl8.1 rfl h3 | (have h5 := h4 x (List.mem_of_getElem? hx); first | omega | (rw [hgo] at h5; cases h5.1)), hv⟩⟩
end Go.Proofs.YtffmbdagjpdieaaGreat
/- The reference's Prune and Apply. -/
namespace Go.Proofs.YtffmbdagjpdieaaGreat
open Go.RowKit Go.Pm
theorem PrI.len {M M' : Model} {mark c : Int} {i : Nat} (hs : SortedT (keysM M)) (hs' : SortedT (keysM M')) (h : PrI M M' mark c i) (hne : ∀ m ∈ M', m.2 ≠ []) : M'.length ≤ M.length := by
 have hsub : ∀ k ∈ keysM M', k ∈ keysM M := fun k hk => by
  obtain ⟨m, hm, rfl⟩ := List.mem_map.1 hk
  have h1 := h.sub m.1 (by rw [getM_at hs' hm]; exact hne m hm)
  exact Classical.byContradiction fun hno => h1 (getM_out hno)
 have hnd : (keysM M').Nodup := List.Pairwise.imp (fun {a b} hab e => lt_ne hab e) hs'
 have := nodup_sub hnd hsub
 rw [List.length_map, List.length_map] at this
 exact this
theorem s37mk9 : (Tryz.prog.info? 9).map (fun i => (i.zero, i.size, i.bytes)) = some (some (.string ⟨([] : List UInt8).toArray⟩), 1, 16) := by kernel_rfl
theorem s37el27 : Elem Tryz.prog 27 9 (.string ⟨([] : List UInt8).toArray⟩) 1 16 := elem_of Tryz.underlying27 s37mk9 (by rfl) (by decide)
theorem s37callable30 : Callable Tryz.prog 30 := ⟨_, Tryz.func30, by kernel_rfl, by kernel_rfl⟩
set_option maxHeartbeats 4000000 in
theorem refStPrune (B : Base) (H : List Res) (w : World) (r : Nat) (ka ca : Option Addr) (kc cc : Nat) (cvs : List Value) (M : Model) (L Mk : Int) (mk clock : Int) (hx : RefM B ka ca kc cc cvs M) (hasc : AscM M) (hv : Inv B (Res.cell r [.slice ka M.length kc, .slice ca M.length cc, .int .i64 L, .int .i64 Mk] 32 :: H) w) :
  Calls Tryz.prog 11 #[.pointer (some ⟨r, 0, none⟩), .int .i64 mk, .int .i64 clock] w fun e w' => ∃ C n ec, B.Le C ∧ e = .returned (.tuple #[.int .i64 n, .int .i64 ec]) ∧ ((¬ (Mk ≤ mk ∧ mk ≤ L) ∧ n = 0 ∧ ec = 2 ∧ Inv C (Res.cell r [.slice ka M.length kc, .slice ca M.length cc, .int .i64 L, .int .i64 Mk] 32 :: H) w') ∨ ((Mk ≤ mk ∧ mk ≤ L) ∧ ec = 0 ∧ n = (goneN M mk clock : Int) ∧ ∃ ka2 ca2 kc2 cc2 cvs2 M', RefM C ka2 ca2 kc2 cc2 cvs2 M' ∧ (∀ k, getM M' k = pruneC (getM M k) mk clock) ∧ Inv C (Res.cell r [.slice ka2 M'.length kc2, .slice ca2 M'.length cc2, .int .i64 L, .int .i64 mk] 32 :: H) w')) := by
 have hMs0 := hx.sm
 refine cW Tryz.func11 rfl Tryz.ntmps11 ?_
 simp only [al]
 refine sK fun _ k1 => rL (xA (.int .i64 0) rfl ?_)
 refine xA (.int .i64 0) rfl ?_
 simp only [zP, po]
 refine wK k1 (sK fun _ k2 => ?_)
 refine sK fun _ k3 => rL (xM (.int .i64 mk) rfl ?_)
 refine xM (.pointer (some ⟨r, 0, none⟩)) rfl (xG (.pointer (some ⟨r, 0, none⟩)) rfl (ex_nil rfl rfl) ?_)
 simp only [zP, po]
 refine xF (.pointer (some ⟨r, 3, none⟩)) rfl (s36fa32_2 _ _ _) (xL _ rfl (run_load1 s2na3 (hv.load 0 3 rfl rfl)) ?_)
 by_cases hb4 : mk < Mk
 ·refine xG (.bool true) rfl (ex_lss rfl rfl rfl (decide_eq_true hb4)) ?_
  simp only [zP, po]
  refine xM (.bool true) rfl ?_
  iterate 6 refine yN rfl ?_
  refine xK true (.bool true) rfl ?_
  simp only [zP, po]
  refine wK k3 (cT rfl ?_)
  refine sK fun _ k5 => rL (xA (.int .i64 0) rfl ?_)
  refine xA (.int .i64 2) rfl ?_
  simp only [zP, po]
  refine wK k5 (rR ?_)
  refine tR (bodyPost_ret (results_tmp2 rfl _ _ _) rfl ?_)
  exact ⟨B, 0, 2, Base.Le.refl _, rfl, .inl ⟨by omega, rfl, rfl, hv⟩⟩
 refine xG (.bool false) rfl (ex_lss rfl rfl rfl (decide_eq_false hb4)) ?_
 simp only [zP, po]
 refine xM (.bool false) rfl (xM (.int .i64 mk) rfl ?_)
 refine xM (.pointer (some ⟨r, 0, none⟩)) rfl ?_
 simp only [zP, po]
 refine xG (.pointer (some ⟨r, 0, none⟩)) rfl (ex_nil rfl rfl) (xF (.pointer (some ⟨r, 2, none⟩)) rfl (s35fa32_1 _ _ _) ?_)
 refine xL _ rfl (run_load1 s2na3 (hv.load 0 2 rfl rfl)) ?_
 simp only [zP, po]
 by_cases hb6 : mk > L
 ·refine xG (.bool true) rfl (ex_gtr rfl rfl rfl (decide_eq_true hb6)) (xK false (.bool true) rfl ?_)
  simp only [zP, po]
  refine wK k3 (cT rfl ?_)
  refine sK fun _ k7 => rL (xA (.int .i64 0) rfl ?_)
  refine xA (.int .i64 2) rfl ?_
  simp only [zP, po]
  refine wK k7 (rR ?_)
  refine tR (bodyPost_ret (results_tmp2 rfl _ _ _) rfl ?_)
  exact ⟨B, 0, 2, Base.Le.refl _, rfl, .inl ⟨by omega, rfl, rfl, hv⟩⟩
 refine xG (.bool false) rfl (ex_gtr rfl rfl rfl (decide_eq_false hb6)) (xK false (.bool false) rfl ?_)
 simp only [zP, po]
 refine wK k3 (cF rfl ?_)
 refine kS (tK k2 ?_)
 refine sK fun _ k8 => rL (xA (.int .i64 0) rfl ?_)
 simp only [zP, po]
 refine wK k8 (sK fun _ k9 => ?_)
 refine rL (xA (.slice none 0 0) rfl ?_)
 simp only [zP, po]
 refine wK k9 (sK fun _ k10 => ?_)
 replace hv := hv.rowNil 9 1
 refine rL (xM (.slice none 0 0) rfl ?_)
 refine xM (.pointer (some ⟨r, 0, none⟩)) rfl (xG (.pointer (some ⟨r, 0, none⟩)) rfl (ex_nil rfl rfl) ?_)
 simp only [zP, po]
 refine xF (.pointer (some ⟨r, 0, none⟩)) rfl (s34fa32_0 _ _ _) (xF (.pointer (some ⟨r, 0, none⟩)) rfl (s33fa30_0 _ _ _) ?_)
 refine xL _ rfl (run_load1 s1na27 (hv.load 1 0 rfl rfl)) ?_
 simp only [zP, po]
 refine sl_append (news := textCells (keysM M)) tV (wn rfl) rfl rfl rfl s37el27 hv hx.ix.ok1 (by rw [textCells_n, List.length_map, Nat.mul_one]) ((hx.ix.keys.more (Base.Le.refl _) (fun _ h => by cases h) : RdV B _ _ _).src hv) (textCells_one _) (by unfold maxLen; omega) (by omega) (fun rv11 w14 hv => ?_)
 obtain ⟨ra12, rc13, rfl⟩ := row_slice hv.head
 rw [List.nil_append, Nat.zero_add] at hv
 obtain ⟨K0, hK0, hv7, hrk, -, -⟩ := hv.rowBy
 clear hv
 have hv := hv7
 clear hv7
 refine xA (.slice ra12 (0 + M.length) rc13) rfl ?_
 simp only [zP, po]
 refine wK k10 (sK fun _ k15 => ?_)
 refine sK fun _ k16 => rL (xA (.int .i64 0) rfl ?_)
 simp only [zP, po]
 refine wK k16 (bB ?_)
 gi_loopw [8, 10] (fun x8 x10 wr => ∃ (i gn : Nat) (C : Base) (ka2 ca2 : Option Addr) (kc2 cc2 : Nat) (cvs2 : List Value) (M' : Model), x8 = .int .i64 (gn : Int) ∧ x10 = .int .i64 (i : Int) ∧ K0.Le C ∧ i ≤ M.length ∧ RefM C ka2 ca2 kc2 cc2 cvs2 M' ∧ PrI M M' mk clock i ∧ gn = goneN (M.take i) mk clock ∧ gn ≤ 1000 * i ∧ Inv C (Res.cell r [.slice ka2 M'.length kc2, .slice ca2 M'.length cc2, .int .i64 L, .int .i64 Mk] 32 :: H) wr) (fun x8 x10 _ => M.length - (intOf x10).toNat)
 case atStart => exact ⟨0, 0, K0, _, _, _, _, _, M, rfl, rfl, Base.Le.refl _, Nat.zero_le _, hx.more hK0, PrI.zero, rfl, Nat.le_refl _, hv⟩
 case round =>
  obtain ⟨i, gn, C, ka2, ca2, kc2, cc2, cvs2, M', rfl, rfl, hKC, hi, hx2, hpr, hgn, hgb, hv⟩ := hrel
  have hMs := hx.sm
  refine sK fun _ k18 => sK fun _ k19 => rL (xM (.int .i64 (i : Int)) rfl ?_)
  refine xM (.slice ra12 (0 + M.length) rc13) rfl (xG (.int .i64 ((0 + M.length) : Int)) rfl (ex_len0 Tryz.underlying27 rfl rfl) ?_)
  simp only [zP, po]
  by_cases hb20 : (i : Int) < ((0 + M.length) : Int)
  ·refine xG (.bool true) rfl (ex_lss rfl rfl rfl (decide_eq_true hb20)) ?_
   simp only [zP, po]
   refine wK k19 (cT rfl ?_)
   refine kS (tK k18 ?_)
   refine sK fun _ k21 => bB (sK fun _ k22 => ?_)
   obtain ⟨m, hm⟩ : ∃ m, M[i]? = some m := ⟨_, List.getElem?_eq_getElem (show i < M.length by omega)⟩
   obtain ⟨bb, bo, had, hrd⟩ := text_reads hrk (key_at0 hm)
   subst had
   have hml0 := hpr.old hx.so hm
   have hasm : Asc m.2 := by have := hasc m.1; rw [getM_at hx.so (List.mem_of_getElem? hm)] at this; exact this
   have hcl : m.2.length ≤ 1000 := by have := hx.cl m.1; rw [getM_at hx.so (List.mem_of_getElem? hm)] at this; exact this
   have hmk := hx.kl m (List.mem_of_getElem? hm)
   refine rW mixed [7, 8] [0,1,2,3,4,5,6,7,8] 73 rfl (by kernel_rfl) hv ?_
   simp only [qm, opAt]
   refine dM (.pointer (some ⟨r, 0, none⟩)) rfl (dG (.pointer (some ⟨r, 0, none⟩)) rfl (ex_nil rfl rfl) ?_)
   refine dG (.pointer (some ⟨r, 0, none⟩)) rfl (ex_field rfl rfl (s34fa32_0 _ _ _)) ?_
   simp only [zP, po]
   refine dM (.slice (some ⟨bb, bo, none⟩) (0 + M.length) rc13) rfl (dM (.int .i64 (i : Int)) rfl ?_)
   refine dG (.pointer (some ⟨bb, bo + i, none⟩)) rfl (ex_index rfl rfl rfl (run_idx1 (k := i) Tryz.underlying27 s9es27 (by omega))) ?_
   simp only [zP, po]
   refine dL _ rfl (fun hv => ex_load rfl rfl (run_load1 s3na9 (hrd _ _ _ hKC no_res hv 0 _ rfl))) (dS rfl fun w23 hv => ?_)
   refine mC s34callable25 rfl ((refIxGet C _ _ r ka2 ca2 kc2 cc2 cvs2 M' L Mk m.1 (hx2.more (Base.Le.refl _)).ix hx2.so hx2.sm hx2.kl [_] (fun r9 hr9 => by rw [List.mem_singleton.1 hr9]; exact List.mem_of_getElem? (i := 0) rfl) reads_cell hx2.ne hv).mono ?_) rfl
   rintro e w24 ⟨q, rfl, hQ, -, hv⟩
   refine ⟨_, rfl, dW hv ?_⟩
   refine dS rfl fun w25 hv => Ex.mem (ex_assign rfl rfl) rfl (dW hv ?_)
   refine dE fun w26 hv => ?_
   simp only [zP, po]
   refine tK k22 (sK fun _ k27 => ?_)
   obtain ⟨l, hml⟩ : ∃ l, l = m.2 := ⟨_, rfl⟩
   rw [hml0, ← hml] at hQ
   rw [← hml] at hasm hcl
   obtain ⟨qa, qc, hqe⟩ := hQ.shape
   subst hqe
   refine rL (xM (.slice qa l.length qc) rfl ?_)
   refine xM (.int .i64 mk) rfl (xM (.int .i64 clock) rfl ?_)
   simp only [zP, po]
   refine xC s37callable30 rfl ((refPruneX C _ _ _ l mk clock hasm hQ (by omega) hv).mono ?_) rfl
   rintro e w28 ⟨D, q2, hD, rfl, hQ2, hv⟩
   refine ⟨_, rfl, ?_⟩
   obtain ⟨l2, hl2⟩ : ∃ l2, l2 = pruneC l mk clock := ⟨_, rfl⟩
   have hl2n : l2.length ≤ l.length := by rw [hl2, ← refPr_eq hasm]; exact refPr_len _ _ _
   rw [← hl2] at hQ2
   obtain ⟨qa2, qc2, hqe2⟩ := hQ2.shape
   subst hqe2
   refine xA (.slice qa2 l2.length qc2) rfl ?_
   simp only [zP, po]
   refine wK k27 (sK fun _ k29 => ?_)
   refine rL (xM (.int .i64 (gn : Int)) rfl ?_)
   refine xM (.slice qa l.length qc) rfl (xG (.int .i64 (l.length : Int)) rfl (ex_len0 Tryz.underlying70 rfl rfl) ?_)
   simp only [zP, po]
   refine xG (.int .i64 ((gn + l.length : Nat) : Int)) rfl (ex_add rfl rfl rfl (by rw [i64_in (by omega)]; omega)) (xM (.slice qa2 l2.length qc2) rfl ?_)
   refine xG (.int .i64 (l2.length : Int)) rfl (ex_len0 Tryz.underlying70 rfl rfl) ?_
   simp only [zP, po]
   refine xG (.int .i64 ((gn + (l.length - l2.length) : Nat) : Int)) rfl (ex_sub rfl rfl rfl (by rw [i64_in (by omega)]; omega)) (xA (.int .i64 ((gn + (l.length - l2.length) : Nat) : Int)) rfl ?_)
   simp only [zP, po]
   refine wK k29 (rW mixed [8] [0,1,2,3,4,5,6,7,8] 73 rfl (by kernel_rfl) hv ?_)
   simp only [qm, opAt]
   refine dM (.pointer (some ⟨r, 0, none⟩)) rfl (dG (.pointer (some ⟨r, 0, none⟩)) rfl (ex_nil rfl rfl) ?_)
   refine dG (.pointer (some ⟨r, 0, none⟩)) rfl (ex_field rfl rfl (s34fa32_0 _ _ _)) ?_
   simp only [zP, po]
   refine dM (.slice (some ⟨bb, bo, none⟩) (0 + M.length) rc13) rfl (dM (.int .i64 (i : Int)) rfl ?_)
   refine dG (.pointer (some ⟨bb, bo + i, none⟩)) rfl (ex_index rfl rfl rfl (run_idx1 (k := i) Tryz.underlying27 s9es27 (by omega))) ?_
   simp only [zP, po]
   refine dL _ rfl (fun hv => ex_load rfl rfl (run_load1 s3na9 (hrd _ _ _ (hKC.trans hD) no_res hv 0 _ rfl))) (dM (.slice qa2 l2.length qc2) rfl ?_)
   refine dS rfl fun w30 hv => mC s36callable26 rfl ((refIxSet D _ _ r ka2 ca2 kc2 cc2 cvs2 M' L Mk m.1 (hx2.more hD).ix hx2.so hx2.sm hx2.kl _ l2 hQ2 (by omega) (hv.front 0 rfl)).mono ?_) rfl
   rintro e w31 ⟨rfl, G, ka3, kc3, ca3, cc3, cvs3, i9, ok9, hA1, hFk, hA2, hv⟩
   refine ⟨_, rfl, dW hv ?_⟩
   refine dE fun w32 hv => ?_
   simp only [zP, po]
   refine bN (tK k21 ?_)
   have hpr3 : PrI M (setK M' m.1 l2 i9 ok9) mk clock (i + 1) := hpr.next hx.so hm (by rw [← hml, ← hl2]; exact getM_findK hx2.so hFk)
   have hso3 : SortedT (keysM (setK M' m.1 l2 i9 ok9)) := setK_sorted hx2.so hFk
   have hlen3 := PrI.len hx.so hso3 hpr3 (setK_mem hx2.ne)
   have hx3 := hx2.set hFk hA2 hmk (by omega) (by omega)
   refine rL (xM (.int .i64 (i : Int)) rfl ?_)
   refine xG (.int .i64 ((i + 1 : Nat) : Int)) rfl (ex_add rfl rfl rfl (by rw [i64_in (by omega)]; omega)) (xA (.int .i64 ((i + 1 : Nat) : Int)) rfl ?_)
   refine wL ?_
   simp only [zP, po]
   refine then_normal ?_
   go_roundw
   case rel => exact (have hsl := hlen3; ⟨i + 1, gn + (l.length - l2.length), G, _, _, _, _, _, _, rfl, rfl, ((hKC.trans hD).trans hA1), by omega, hx3, hpr3, by rw [goneN_next hm, hgn, ← hml, hl2], by omega, hv⟩)
   case measure => show M.length - (((i + 1 : Nat) : Int)).toNat < M.length - ((i : Int)).toNat; omega
  refine xG (.bool false) rfl (ex_lss rfl rfl rfl (decide_eq_false hb20)) ?_
  simp only [zP, po]
  refine wK k19 (cF rfl ?_)
  refine xE (tX ?_)
  refine tX (bH ?_)
  refine tK k15 (sK fun _ k33 => ?_)
  refine rL (xM (.pointer (some ⟨r, 0, none⟩)) rfl ?_)
  refine xM (.int .i64 mk) rfl (xG (.pointer (some ⟨r, 0, none⟩)) rfl (ex_nil rfl rfl) ?_)
  simp only [zP, po]
  refine xF (.pointer (some ⟨r, 3, none⟩)) rfl (s36fa32_2 _ _ _) (xV 0 (.int .i64 mk) rfl hv s5sz3 rfl rfl (fun w34 hv => ?_))
  simp only [zO, sp] at hv
  simp only [zP, po]
  refine wK k33 (sK fun _ k35 => ?_)
  refine rL (xM (.int .i64 (gn : Int)) rfl ?_)
  refine xA (.int .i64 (gn : Int)) rfl (xA (.int .i64 0) rfl ?_)
  simp only [zP, po]
  refine wK k35 (rR ?_)
  refine bodyPost_ret (results_tmp2 rfl _ _ _) rfl ?_
  obtain rfl : i = M.length := by omega
  rw [List.take_length] at hgn
  exact ⟨C, _, 0, hK0.trans hKC, rfl, .inr ⟨by omega, rfl, by rw [hgn], ka2, ca2, kc2, cc2, cvs2, M', hx2, hpr.done, hv⟩⟩
end Go.Proofs.YtffmbdagjpdieaaGreat
/- The reference's Apply. -/
namespace Go.Proofs.YtffmbdagjpdieaaGreat
open Go.RowKit Go.Pm
theorem setK_len_ge {M : Model} {key : List UInt8} {l : List Ver} {i : Nat} {ok : Bool} (h : FindK M key i ok) (hl : l ≠ []) : M.length ≤ (setK M key l i ok).length ∧ (setK M key l i ok).length ≤ M.length + 1 := by
 have hi := h.le
 unfold setK
 rw [if_neg hl]
 simp only [List.length_append, List.length_take, List.length_drop, List.length_cons, List.length_nil]
 cases ok with
 | false => simp only [Bool.false_eq_true, if_false]; omega
 | true =>
  obtain ⟨m, h1, -⟩ := h.ok.1 rfl
  have := (List.getElem?_eq_some_iff.1 h1).1
  simp only [if_true]; omega
theorem s38al55 (w : World) : (Instr.alloc 55 true (.tuple #[])).run Tryz.prog w = .ok (.pointer (some ⟨w.heap.size, 0, none⟩)) (w.alloc (.cells ([.int .i64 0, .bool false, .int .i64 0, .int .i64 0, .string ⟨([] : List UInt8).toArray⟩, .slice none 0 0, .slice none 0 0, .slice none 0 0] : List Value).toArray 55)) := by kernel_rfl
theorem s38mk55 : (Tryz.prog.info? 55).map (fun i => (i.zero, i.size, i.bytes)) = some (some (.agg #[.int .i64 0, .bool false, .int .i64 0, .int .i64 0, .string ⟨([] : List UInt8).toArray⟩, .slice none 0 0, .slice none 0 0, .slice none 0 0]), 8, 120) := by kernel_rfl
theorem s38el70 : Elem Tryz.prog 70 55 (.agg #[.int .i64 0, .bool false, .int .i64 0, .int .i64 0, .string ⟨([] : List UInt8).toArray⟩, .slice none 0 0, .slice none 0 0, .slice none 0 0]) 8 120 := elem_of Tryz.underlying70 s38mk55 (by rfl) (by decide)
set_option maxHeartbeats 4000000 in
theorem refApply (B : Base) (H : List Res) (w : World) (r : Nat) (ka ca : Option Addr) (kc cc : Nat) (cvs : List Value) (M : Model) (L Mk : Int) (ad : Option Addr) (c : Nat) (xs : List Value) (ws : List Wr) (hx0 : RefM B ka ca kc cc cvs M) (hL : 0 ≤ L ∧ L ≤ 1152921504606846975) (hM : M.length ≤ 90000) (hr : RdV B [] ad xs) (hws : WrsAt B ws xs) (hm : ws.length ≤ 1000) (hv : Inv B (Res.cell r [.slice ka M.length kc, .slice ca M.length cc, .int .i64 L, .int .i64 Mk] 32 :: H) w) :
  Calls Tryz.prog 9 #[.pointer (some ⟨r, 0, none⟩), .slice ad ws.length c] w fun e w' => ∃ C n ec, B.Le C ∧ e = .returned (.tuple #[.int .i64 n, .int .i64 ec]) ∧ ((ec = 2 ∧ n = 0 ∧ ¬ AppPre M L ws ∧ Inv C (Res.cell r [.slice ka M.length kc, .slice ca M.length cc, .int .i64 L, .int .i64 Mk] 32 :: H) w') ∨ (ec = 22 ∧ n = 0 ∧ AppPre M L ws ∧ ((∃ x ∈ ws, 64 ≤ (getM M x.key).length) ∨ 4096 < M.length + news M ws) ∧ Inv C (Res.cell r [.slice ka M.length kc, .slice ca M.length cc, .int .i64 L, .int .i64 Mk] 32 :: H) w') ∨ (ec = 0 ∧ n = L + 1 ∧ AppPre M L ws ∧ (∀ x ∈ ws, (getM M x.key).length < 64) ∧ M.length + news M ws ≤ 4096 ∧ ∃ ka2 ca2 kc2 cc2 cvs2 M', RefM C ka2 ca2 kc2 cc2 cvs2 M' ∧ SetI M M' L ws ws.length ∧ Inv C (Res.cell r [.slice ka2 M'.length kc2, .slice ca2 M'.length cc2, .int .i64 (L + 1), .int .i64 Mk] 32 :: H) w')) := by
 have hMs0 := hx0.sm
 refine cW Tryz.func9 rfl Tryz.ntmps9 ?_
 simp only [al]
 refine sK fun _ k1 => rL (xA (.int .i64 0) rfl ?_)
 refine xA (.int .i64 0) rfl ?_
 simp only [zP, po]
 refine wK k1 (sK fun _ k2 => ?_)
 refine sK fun _ k3 => rL (xM (.slice ad ws.length c) rfl ?_)
 refine xC s36callable24 rfl ((refWrong_false B _ _ ad c xs ws hr hws (by omega) hv).mono ?_) rfl
 rintro e w5 ⟨bl4, rfl, hbl4, hv⟩
 refine ⟨_, rfl, ?_⟩
 cases bl4
 ·refine xM (.bool false) rfl ?_
  simp only [zP, po]
  refine xM (.pointer (some ⟨r, 0, none⟩)) rfl (xG (.pointer (some ⟨r, 0, none⟩)) rfl (ex_nil rfl rfl) ?_)
  refine xF (.pointer (some ⟨r, 2, none⟩)) rfl (s35fa32_1 _ _ _) ?_
  simp only [zP, po]
  refine xL _ rfl (run_load1 s2na3 (hv.load 0 2 rfl rfl)) ?_
  by_cases hb6 : L = 1152921504606846975
  ·refine xG (.bool true) rfl (ex_eql rfl rfl rfl (decide_eq_true hb6)) (xK false (.bool true) rfl ?_)
   simp only [zP, po]
   refine wK k3 (cT rfl ?_)
   refine sK fun _ k7 => rL (xA (.int .i64 0) rfl ?_)
   refine xA (.int .i64 2) rfl ?_
   simp only [zP, po]
   refine wK k7 (rR ?_)
   refine tR (bodyPost_ret (results_tmp2 rfl _ _ _) rfl ?_)
   exact ⟨B, 0, 2, Base.Le.refl _, rfl, .inl ⟨rfl, rfl, fun h9 => by have h8 := (wall_pre M L ws).1 h9; first | omega | exact hbl4.1 rfl h8.2, hv⟩⟩
  refine xG (.bool false) rfl (ex_eql rfl rfl rfl (decide_eq_false hb6)) (xK false (.bool false) rfl ?_)
  simp only [zP, po]
  refine wK k3 (cF rfl ?_)
  refine kS (tK k2 ?_)
  refine sK fun _ k8 => rL (xM (.pointer (some ⟨r, 0, none⟩)) rfl ?_)
  refine xG (.pointer (some ⟨r, 0, none⟩)) rfl (ex_nil rfl rfl) (xF (.pointer (some ⟨r, 0, none⟩)) rfl (s34fa32_0 _ _ _) ?_)
  simp only [zP, po]
  refine xF (.pointer (some ⟨r, 0, none⟩)) rfl (s33fa30_0 _ _ _) (xL _ rfl (run_load1 s1na27 (hv.load 0 0 rfl rfl)) ?_)
  refine xG (.int .i64 (M.length : Int)) rfl (ex_len0 Tryz.underlying27 rfl rfl) ?_
  simp only [zP, po]
  refine xA (.int .i64 (M.length : Int)) rfl ?_
  simp only [zP, po]
  refine wK k8 (sK fun _ k9 => ?_)
  refine sK fun _ k10 => rL (xA (.int .i64 0) rfl ?_)
  simp only [zP, po]
  refine wK k10 (bB ?_)
  gi_loopw [6, 7] (fun x6 x7 wr => ∃ (i : Nat) (kk : Int), x6 = .int .i64 kk ∧ x7 = .int .i64 (i : Int) ∧ i ≤ ws.length ∧ kk = ((M.length + news M (ws.take i) : Nat) : Int) ∧ (∀ (j : Nat) y, j < i → ws[j]? = some y → (getM M y.key).length < 64) ∧ Inv B (Res.cell r [.slice ka M.length kc, .slice ca M.length cc, .int .i64 L, .int .i64 Mk] 32 :: H) wr) (fun x6 x7 _ => ws.length - (intOf x7).toNat)
  case atStart => exact ⟨0, _, rfl, rfl, Nat.zero_le _, rfl, fun j y h => by omega, hv⟩
  case round =>
   obtain ⟨i, kk, rfl, rfl, hi, hkk, h64, hv⟩ := hrel
   have hnl := news_le M (ws.take i)
   rw [List.length_take] at hnl
   refine sK fun _ k12 => sK fun _ k13 => rL (xM (.int .i64 (i : Int)) rfl ?_)
   refine xM (.slice ad ws.length c) rfl (xG (.int .i64 (ws.length : Int)) rfl (ex_len0 Tryz.underlying33 rfl rfl) ?_)
   simp only [zP, po]
   by_cases hb14 : (i : Int) < (ws.length : Int)
   ·refine xG (.bool true) rfl (ex_lss rfl rfl rfl (decide_eq_true hb14)) ?_
    simp only [zP, po]
    refine wK k13 (cT rfl ?_)
    refine kS (tK k12 ?_)
    refine sK fun _ k15 => bB (sK fun _ k16 => ?_)
    obtain ⟨x, hx⟩ : ∃ x, ws[i]? = some x := ⟨_, List.getElem?_eq_getElem (show i < ws.length by omega)⟩
    obtain ⟨bb, bo, xp, xt, xz, had, hvalx, hrdx⟩ := WrsAt.reads hws hr hx
    subst had
    refine rW mixed [8, 9] [0,1,2,3,4,5,6,7,8,9] 105 rfl (by kernel_rfl) hv ?_
    simp only [qm, opAt]
    refine dM (.pointer (some ⟨r, 0, none⟩)) rfl (dG (.pointer (some ⟨r, 0, none⟩)) rfl (ex_nil rfl rfl) ?_)
    refine dG (.pointer (some ⟨r, 0, none⟩)) rfl (ex_field rfl rfl (s34fa32_0 _ _ _)) ?_
    simp only [zP, po]
    refine dM (.slice (some ⟨bb, bo, none⟩) ws.length c) rfl (dM (.int .i64 (i : Int)) rfl ?_)
    refine dG (.pointer (some ⟨bb, bo + i * 9, none⟩)) rfl (ex_index rfl rfl rfl (run_idx (k := i) Tryz.underlying33 s8es33 (by omega))) ?_
    simp only [zP, po]
    refine dG (.pointer (some ⟨bb, bo + i * 9, none⟩)) rfl (ex_field rfl rfl (s8fa57_0 _ _ _)) (dL _ rfl (fun hv => ex_load rfl rfl (run_load1 s3na9 (hrdx _ _ _ (Base.Le.refl _) no_res hv 0 _ rfl))) ?_)
    refine dS rfl fun w17 hv => mC s34callable25 rfl ((refIxGet B _ _ r ka ca kc cc cvs M L Mk x.key hx0.ix hx0.so hx0.sm hx0.kl [_] (fun r9 hr9 => by rw [List.mem_singleton.1 hr9]; exact List.mem_of_getElem? (i := 0) rfl) reads_cell hx0.ne hv).mono ?_) rfl
    rintro e w18 ⟨q, rfl, hQ, -, hv⟩
    refine ⟨_, rfl, dW hv ?_⟩
    simp only [zP, po]
    refine dS rfl fun w19 hv => Ex.mem (ex_assign rfl rfl) rfl (dW hv ?_)
    refine dE fun w20 hv => ?_
    simp only [zP, po]
    refine tK k16 (sK fun _ k21 => ?_)
    refine sK fun _ k22 => ?_
    obtain ⟨qa, qc, hqe⟩ := hQ.shape
    subst hqe
    have hgl := hx0.cl x.key
    refine rL (xM (.slice qa ((getM M x.key).length) qc) rfl ?_)
    refine xG (.int .i64 (((getM M x.key).length) : Int)) rfl (ex_len0 Tryz.underlying70 rfl rfl) ?_
    by_cases hb23 : (((getM M x.key).length) : Int) ≥ 64
    ·refine xG (.bool true) rfl (ex_geq rfl rfl rfl (decide_eq_true hb23)) ?_
     simp only [zP, po]
     refine wK k22 (cT rfl ?_)
     refine sK fun _ k24 => rL (xA (.int .i64 0) rfl ?_)
     refine xA (.int .i64 22) rfl ?_
     simp only [zP, po]
     refine wK k24 (rR ?_)
     refine tR (bE ?_)
     refine tR (tR ?_)
     refine bE (tR ?_)
     refine bodyPost_ret (results_tmp2 rfl _ _ _) rfl (⟨B, 0, 22, Base.Le.refl _, rfl, .inr (.inl ⟨rfl, rfl, (wall_pre M L ws).2 ⟨by omega, Classical.not_not.1 (fun h => by have h9 := hbl4.2 h; cases h9)⟩, by first | exact .inl ⟨x, List.mem_of_getElem? hx, by omega⟩ | exact .inr (by omega), hv⟩)⟩)
    refine xG (.bool false) rfl (ex_geq rfl rfl rfl (decide_eq_false hb23)) ?_
    simp only [zP, po]
    refine wK k22 (cF rfl ?_)
    refine kS (tK k21 ?_)
    refine sK fun _ k25 => rL (xM (.slice qa ((getM M x.key).length) qc) rfl ?_)
    refine xG (.int .i64 (((getM M x.key).length) : Int)) rfl (ex_len0 Tryz.underlying70 rfl rfl) ?_
    by_cases hb26 : (((getM M x.key).length) : Int) = 0
    ·refine xG (.bool true) rfl (ex_eql rfl rfl rfl (decide_eq_true hb26)) ?_
     simp only [zP, po]
     refine wK k25 (cT rfl ?_)
     refine rL (xM (.int .i64 kk) rfl ?_)
     refine xG (.int .i64 (kk + 1)) rfl (ex_add rfl rfl rfl (i64_in (by omega))) (xA (.int .i64 (kk + 1)) rfl ?_)
     refine wL ?_
     simp only [zP, po]
     refine bN (tK k15 ?_)
     refine rL (xM (.int .i64 (i : Int)) rfl ?_)
     refine xG (.int .i64 ((i + 1 : Nat) : Int)) rfl (ex_add rfl rfl rfl (by rw [i64_in (by omega)]; omega)) (xA (.int .i64 ((i + 1 : Nat) : Int)) rfl ?_)
     refine wL ?_
     simp only [zP, po]
     refine then_normal ?_
     go_roundw
     case rel => exact ⟨i + 1, _, rfl, rfl, by omega, by rw [news_next M hx, if_pos (by omega)]; omega, fun j y hj hy => (by
        rcases Nat.lt_or_ge j i with h | h
        ·exact h64 j y h hy
        rw [show j = i by omega, hx] at hy; cases hy; omega), hv⟩
     case measure => show ws.length - (((i + 1 : Nat) : Int)).toNat < ws.length - ((i : Int)).toNat; omega
    refine xG (.bool false) rfl (ex_eql rfl rfl rfl (decide_eq_false hb26)) ?_
    simp only [zP, po]
    refine wK k25 (cF rfl ?_)
    refine kS (bN ?_)
    refine tK k15 (rL ?_)
    refine xM (.int .i64 (i : Int)) rfl (xG (.int .i64 ((i + 1 : Nat) : Int)) rfl (ex_add rfl rfl rfl (by rw [i64_in (by omega)]; omega)) ?_)
    refine xA (.int .i64 ((i + 1 : Nat) : Int)) rfl (wL ?_)
    simp only [zP, po]
    refine then_normal ?_
    go_roundw
    case rel => exact ⟨i + 1, _, rfl, rfl, by omega, by rw [news_next M hx, if_neg (by omega)]; omega, fun j y hj hy => (by
       rcases Nat.lt_or_ge j i with h | h
       ·exact h64 j y h hy
       rw [show j = i by omega, hx] at hy; cases hy; omega), hv⟩
    case measure => show ws.length - (((i + 1 : Nat) : Int)).toNat < ws.length - ((i : Int)).toNat; omega
   refine xG (.bool false) rfl (ex_lss rfl rfl rfl (decide_eq_false hb14)) ?_
   simp only [zP, po]
   refine wK k13 (cF rfl ?_)
   refine xE (tX ?_)
   refine tX (bH ?_)
   refine tK k9 (sK fun _ k27 => ?_)
   refine sK fun _ k28 => ?_
   obtain rfl : i = ws.length := by omega
   rw [List.take_length] at hkk
   refine rL (xM (.int .i64 kk) rfl ?_)
   by_cases hb29 : kk > 4096
   ·refine xG (.bool true) rfl (ex_gtr rfl rfl rfl (decide_eq_true hb29)) ?_
    simp only [zP, po]
    refine wK k28 (cT rfl ?_)
    refine sK fun _ k30 => rL (xA (.int .i64 0) rfl ?_)
    refine xA (.int .i64 22) rfl ?_
    simp only [zP, po]
    refine wK k30 (rR ?_)
    refine tR (bodyPost_ret (results_tmp2 rfl _ _ _) rfl ?_)
    exact ⟨B, 0, 22, Base.Le.refl _, rfl, .inr (.inl ⟨rfl, rfl, (wall_pre M L ws).2 ⟨by omega, Classical.not_not.1 (fun h => by have h9 := hbl4.2 h; cases h9)⟩, by first | exact .inl ⟨x, List.mem_of_getElem? hx, by omega⟩ | exact .inr (by omega), hv⟩)⟩
   refine xG (.bool false) rfl (ex_gtr rfl rfl rfl (decide_eq_false hb29)) ?_
   simp only [zP, po]
   refine wK k28 (cF rfl ?_)
   refine kS (tK k27 ?_)
   refine sK fun _ k31 => ?_
   have hwall : WAll false ws := Classical.not_not.1 (fun h => by have h9 := hbl4.2 h; cases h9)
   have hnd := hwall.1
   have hpre : AppPre M L ws := (wall_pre M L ws).2 ⟨by omega, hwall⟩
   refine rL (xM (.pointer (some ⟨r, 0, none⟩)) rfl ?_)
   refine xG (.pointer (some ⟨r, 0, none⟩)) rfl (ex_nil rfl rfl) (xF (.pointer (some ⟨r, 2, none⟩)) rfl (s35fa32_1 _ _ _) ?_)
   simp only [zP, po]
   refine xL _ rfl (run_load1 s2na3 (hv.load 0 2 rfl rfl)) (xG (.int .i64 (L + 1)) rfl (ex_add rfl rfl rfl (i64_in (by omega))) ?_)
   refine xG (.pointer (some ⟨r, 0, none⟩)) rfl (ex_nil rfl rfl) ?_
   simp only [zP, po]
   refine xF (.pointer (some ⟨r, 2, none⟩)) rfl (s35fa32_1 _ _ _) (xV 0 (.int .i64 (L + 1)) rfl hv s5sz3 rfl rfl (fun w32 hv => ?_))
   simp only [zO, sp] at hv
   simp only [zP, po]
   refine wK k31 (sK fun _ k33 => ?_)
   refine sK fun _ k34 => rL (xA (.int .i64 0) rfl ?_)
   simp only [zP, po]
   refine wK k34 (bB ?_)
   gi_loopw [9] (fun x9 wr => ∃ (i2 : Nat) (C : Base) (ka2 ca2 : Option Addr) (kc2 cc2 : Nat) (cvs2 : List Value) (M' : Model), x9 = .int .i64 (i2 : Int) ∧ B.Le C ∧ i2 ≤ ws.length ∧ RefM C ka2 ca2 kc2 cc2 cvs2 M' ∧ SetI M M' L ws i2 ∧ Inv C (Res.cell r [.slice ka2 M'.length kc2, .slice ca2 M'.length cc2, .int .i64 (L + 1), .int .i64 Mk] 32 :: H) wr) (fun x9 _ => ws.length - (intOf x9).toNat)
   case atStart => exact ⟨0, B, _, _, _, _, _, M, rfl, Base.Le.refl _, Nat.zero_le _, hx0, ⟨fun j x h => by omega, fun k _ => rfl, by omega⟩, hv⟩
   case round =>
    obtain ⟨i2, C, ka2, ca2, kc2, cc2, cvs2, M', rfl, hBC, hi2, hx2, hset, hv⟩ := hrel
    have hsl := hset.len
    refine sK fun _ k36 => sK fun _ k37 => rL (xM (.int .i64 (i2 : Int)) rfl ?_)
    refine xM (.slice ad ws.length c) rfl (xG (.int .i64 (ws.length : Int)) rfl (ex_len0 Tryz.underlying33 rfl rfl) ?_)
    simp only [zP, po]
    by_cases hb38 : (i2 : Int) < (ws.length : Int)
    ·refine xG (.bool true) rfl (ex_lss rfl rfl rfl (decide_eq_true hb38)) ?_
     simp only [zP, po]
     refine wK k37 (cT rfl ?_)
     refine kS (tK k36 ?_)
     refine sK fun _ k39 => bB (sK fun _ k40 => ?_)
     obtain ⟨x, hx⟩ : ∃ x, ws[i2]? = some x := ⟨_, List.getElem?_eq_getElem (show i2 < ws.length by omega)⟩
     obtain ⟨bb, bo, xp, xt, xz, had, hvalx, hrdx⟩ := WrsAt.reads hws hr hx
     subst had
     have hkw := (hwall.2 x (List.mem_of_getElem? hx)).1
     have hgm : getM M' x.key = getM M x.key := hset.rest x.key (fun j y hj hy e => by
      have h1 : (ws.map (·.key))[j]? = some x.key := by rw [List.getElem?_map, hy, Option.map_some, e]
      have h2 : (ws.map (·.key))[i2]? = some x.key := by rw [List.getElem?_map, hx]; rfl
      have := (List.getElem?_inj (by rw [List.length_map]; omega) hnd).1 (h1.trans h2.symm)
      omega)
     have hg64 := h64 i2 x (by omega) hx
     refine rW mixed [8, 9] [0,1,2,3,4,5,6,7,8,9] 105 rfl (by kernel_rfl) hv ?_
     simp only [qm, opAt]
     refine dM (.pointer (some ⟨r, 0, none⟩)) rfl (dG (.pointer (some ⟨r, 0, none⟩)) rfl (ex_nil rfl rfl) ?_)
     refine dG (.pointer (some ⟨r, 0, none⟩)) rfl (ex_field rfl rfl (s34fa32_0 _ _ _)) ?_
     simp only [zP, po]
     refine dM (.slice (some ⟨bb, bo, none⟩) ws.length c) rfl (dM (.int .i64 (i2 : Int)) rfl ?_)
     refine dG (.pointer (some ⟨bb, bo + i2 * 9, none⟩)) rfl (ex_index rfl rfl rfl (run_idx (k := i2) Tryz.underlying33 s8es33 (by omega))) ?_
     simp only [zP, po]
     refine dG (.pointer (some ⟨bb, bo + i2 * 9, none⟩)) rfl (ex_field rfl rfl (s8fa57_0 _ _ _)) (dL _ rfl (fun hv => ex_load rfl rfl (run_load1 s3na9 (hrdx _ _ _ hBC no_res hv 0 _ rfl))) ?_)
     refine dS rfl fun w41 hv => mC s34callable25 rfl ((refIxGet C _ _ r ka2 ca2 kc2 cc2 cvs2 M' (L + 1) Mk x.key (hx2.more (Base.Le.refl _)).ix hx2.so hx2.sm hx2.kl [_] (fun r9 hr9 => by rw [List.mem_singleton.1 hr9]; exact List.mem_of_getElem? (i := 0) rfl) reads_cell hx2.ne hv).mono ?_) rfl
     rintro e w42 ⟨q, rfl, hQ, -, hv⟩
     refine ⟨_, rfl, dW hv ?_⟩
     simp only [zP, po]
     refine dS rfl fun w43 hv => Ex.mem (ex_assign rfl rfl) rfl (dW hv ?_)
     refine dE fun w44 hv => ?_
     simp only [zP, po]
     refine tK k40 (sK fun _ k45 => ?_)
     refine rL (xM (.slice (some ⟨bb, bo, none⟩) ws.length c) rfl ?_)
     refine xM (.int .i64 (i2 : Int)) rfl (xG (.pointer (some ⟨bb, bo + i2 * 9, none⟩)) rfl (ex_index rfl rfl rfl (run_idx (k := i2) Tryz.underlying33 s8es33 (by omega))) ?_)
     simp only [zP, po]
     refine xF (.pointer (some ⟨bb, bo + i2 * 9 + 1, none⟩)) rfl (s14fa57_1 _ _ _) (xL (.agg #[.int .i64 x.ver.stamp, .bool x.ver.gone, .int .i64 x.ver.expire, .int .i64 x.ver.val.kind, .string ⟨x.ver.val.text.toArray⟩, xp, xt, xz]) rfl (run_loadR (cs := [.int .i64 x.ver.stamp, .bool x.ver.gone, .int .i64 x.ver.expire, .int .i64 x.ver.val.kind, .string ⟨x.ver.val.text.toArray⟩, xp, xt, xz]) s1wd55 (Reads.mid (pre := [.string ⟨x.key.toArray⟩]) (mid := [.int .i64 x.ver.stamp, .bool x.ver.gone, .int .i64 x.ver.expire, .int .i64 x.ver.val.kind, .string ⟨x.ver.val.text.toArray⟩, xp, xt, xz]) (post := []) hrdx _ _ _ hBC no_res hv)) ?_)
     refine sl_alloc tV (wn rfl) rfl hv s38al55 (fun b46 w47 hv => ?_)
     simp only [zP, po]
     refine xS 0 rfl hv s1sz55 rfl (by exact ⟨rfl, rfl, rfl, rfl, rfl, hvalx.p.one, hvalx.t.one, hvalx.z.one, trivial⟩) (fun w48 hv => ?_)
     simp only [zO, sp] at hv
     simp only [zP, po]
     refine wK k45 (sK fun _ k49 => ?_)
     refine rL (xM (.pointer (some ⟨r, 0, none⟩)) rfl ?_)
     refine xG (.pointer (some ⟨r, 0, none⟩)) rfl (ex_nil rfl rfl) (xF (.pointer (some ⟨r, 2, none⟩)) rfl (s35fa32_1 _ _ _) ?_)
     simp only [zP, po]
     refine xL _ rfl (run_load1 s2na3 (hv.load 1 2 rfl rfl)) (xF (.pointer (some ⟨b46, 0, none⟩)) rfl (s2fa55_0 _ _ _) ?_)
     refine xV 0 (.int .i64 (L + 1)) rfl hv s5sz3 rfl rfl (fun w50 hv => ?_)
     simp only [zO, sp] at hv
     simp only [zP, po]
     refine wK k49 (sK fun _ k51 => ?_)
     refine rL (xA (.slice none 0 0) rfl ?_)
     simp only [zP, po]
     refine wK k51 (sK fun _ k52 => ?_)
     obtain ⟨qa, qc, qxs, hqe, qok, qr, qx⟩ := hQ
     subst hqe
     replace hv := hv.rowNil 55 8
     have hqn : (getM M' x.key).length < 64 := by rw [hgm]; exact hg64
     obtain ⟨qn, hqn2⟩ : ∃ n, n = (getM M' x.key).length := ⟨_, rfl⟩
     rw [← hqn2] at hqn qok
     refine rL (xM (.slice none 0 0) rfl ?_)
     refine xM (.slice qa ((getM M' x.key).length) qc) rfl (sl_append (news := qxs) tV (wn rfl) rfl rfl rfl s38el70 hv (hqn2 ▸ qok) qx.len ((qr.more (Base.Le.refl _) (fun _ h => by cases h) : RdV _ _ _ _).src hv) (qx.one) (by unfold maxLen; omega) (by omega) (fun rv53 w56 hv => ?_))
     obtain ⟨ra54, rc55, rfl⟩ := row_slice hv.head
     simp only [zP, po]
     refine xA (.slice ra54 (0 + ((getM M' x.key).length)) rc55) rfl ?_
     simp only [zP, po]
     refine wK k52 (rW mixed [10, 11, 12] [0,1,2,3,4,5,6,7,8,9,10,11,12] 105 rfl (by kernel_rfl) hv ?_)
     simp only [qm, opAt]
     refine dM (.pointer (some ⟨r, 0, none⟩)) rfl (dG (.pointer (some ⟨r, 0, none⟩)) rfl (ex_nil rfl rfl) ?_)
     refine dG (.pointer (some ⟨r, 0, none⟩)) rfl (ex_field rfl rfl (s34fa32_0 _ _ _)) ?_
     simp only [zP, po]
     refine dM (.slice (some ⟨bb, bo, none⟩) ws.length c) rfl (dM (.int .i64 (i2 : Int)) rfl ?_)
     refine dG (.pointer (some ⟨bb, bo + i2 * 9, none⟩)) rfl (ex_index rfl rfl rfl (run_idx (k := i2) Tryz.underlying33 s8es33 (by omega))) ?_
     simp only [zP, po]
     refine dG (.pointer (some ⟨bb, bo + i2 * 9, none⟩)) rfl (ex_field rfl rfl (s8fa57_0 _ _ _)) (dF _ rfl (fun hv => ex_load rfl rfl (run_load1 s3na9 (hrdx _ _ _ hBC no_res hv 0 _ rfl))) fun f57 hf57 => ?_)
     refine dM (.slice ra54 (0 + ((getM M' x.key).length)) rc55) rfl ?_
     simp only [zP, po]
     refine dL (.agg #[.int .i64 (L + 1), .bool x.ver.gone, .int .i64 x.ver.expire, .int .i64 x.ver.val.kind, .string ⟨x.ver.val.text.toArray⟩, xp, xt, xz]) rfl (fun hv => ex_load rfl rfl (run_load_mid (pre := []) (mid := [.int .i64 (L + 1), .bool x.ver.gone, .int .i64 x.ver.expire, .int .i64 x.ver.val.kind, .string ⟨x.ver.val.text.toArray⟩, xp, xt, xz]) (post := []) s1wd55 (show Blk _ b46 ([] ++ [.int .i64 (L + 1), .bool x.ver.gone, .int .i64 x.ver.expire, .int .i64 x.ver.val.kind, .string ⟨x.ver.val.text.toArray⟩, xp, xt, xz] ++ []) _ from hv.get 1 rfl) rfl)) (dS rfl fun w58 hv => ?_)
     refine mem_rowAgg (L := [.int .i64 (L + 1), .bool x.ver.gone, .int .i64 x.ver.expire, .int .i64 x.ver.val.kind, .string ⟨x.ver.val.text.toArray⟩, xp, xt, xz]) rfl rfl rfl hv s38el70 rfl (by decide) (fun b59 w60 hv => ?_)
     refine dV hv (fC (fun ww hv => hf57 ww (ex_load rfl rfl (run_load1 s3na9 (hrdx _ _ _ hBC no_res hv 0 _ rfl)))) fN) (dS rfl fun w61 hv => ?_)
     replace hv := hv.front 1 rfl
     simp only [List.eraseIdx_cons_succ, List.eraseIdx_cons_zero] at hv
     refine mem_append (news := [.int .i64 (L + 1), .bool x.ver.gone, .int .i64 x.ver.expire, .int .i64 x.ver.val.kind, .string ⟨x.ver.val.text.toArray⟩, xp, xt, xz]) rfl rfl rfl rfl s38el70 hv (ok_full (by omega)) rfl (rd_all (hv.get 1 rfl)) (verCells_one (v := { x.ver with stamp := L + 1 }) hvalx) (by unfold maxLen; omega) (by omega) (fun v w64 hv => ?_)
     obtain ⟨va62, vc63, rfl⟩ := row_slice hv.head
     refine dV hv (fC (fun ww hv => hf57 ww (ex_load rfl rfl (run_load1 s3na9 (hrdx _ _ _ hBC no_res hv 0 _ rfl)))) fN) ?_
     simp only [zP, po]
     refine dS rfl fun w65 hv => ?_
     obtain ⟨E, hE, hv, hrE, hokE, -⟩ := hv.rowBy
     have hnl : (newC M L x).length = (0 + ((getM M' x.key).length)) + 1 := by unfold newC; rw [List.length_append, ← hgm]; simp
     have hq9 : ChainB E (.slice va62 ((0 + ((getM M' x.key).length)) + 1) vc63) (newC M L x) := ⟨va62, vc63, _, by rw [hnl], by rw [hnl]; exact hokE, hrE, by
      have h9 := VersAt.append (VersAt.single (v := { x.ver with stamp := L + 1 }) ((hvalx.more hBC).more hE)) (qx.more hE)
      rw [hgm] at h9
      exact h9⟩
     refine mC s36callable26 rfl ((refIxSet E _ _ r ka2 ca2 kc2 cc2 cvs2 M' (L + 1) Mk x.key ((hx2.more (Base.Le.refl _)).more hE).ix hx2.so hx2.sm hx2.kl _ (newC M L x) hq9 (by omega) (hv.front 2 rfl)).mono ?_) rfl
     rintro e w66 ⟨rfl, G, ka3, kc3, ca3, cc3, cvs3, i9, ok9, hA1, hFk, hA2, hv⟩
     have hEG := hE.trans hA1
     refine ⟨_, rfl, dV hv (fK rfl fN) ?_⟩
     refine dE fun w67 hv => ?_
     simp only [zP, po]
     refine bN (tK k39 ?_)
     have hnl : (newC M L x).length = (getM M x.key).length + 1 := by unfold newC; rw [List.length_append]; rfl
     have hge := setK_len_ge hFk (l := newC M L x) (by unfold newC; simp)
     refine rL (xM (.int .i64 (i2 : Int)) rfl ?_)
     refine xG (.int .i64 ((i2 + 1 : Nat) : Int)) rfl (ex_add rfl rfl rfl (by rw [i64_in (by omega)]; omega)) (xA (.int .i64 ((i2 + 1 : Nat) : Int)) rfl ?_)
     refine wL ?_
     simp only [zP, po]
     refine then_normal ?_
     go_roundw
     case rel => exact ⟨i2 + 1, G, _, _, _, _, _, _, rfl, (hBC.trans hEG), by omega, hx2.set hFk hA2 (by omega) (by omega) (by omega), hset.next hnd hx (getM_findK hx2.so hFk) hge, (hv.sub (List.Sublist.cons_cons _ (List.Sublist.cons _ (List.Sublist.cons _ (List.Sublist.refl _)))))⟩
     case measure => show ws.length - (((i2 + 1 : Nat) : Int)).toNat < ws.length - ((i2 : Int)).toNat; omega
    refine xG (.bool false) rfl (ex_lss rfl rfl rfl (decide_eq_false hb38)) ?_
    simp only [zP, po]
    refine wK k37 (cF rfl ?_)
    refine xE (tX ?_)
    refine tX (bH ?_)
    refine tK k33 (sK fun _ k68 => ?_)
    refine rL (xM (.pointer (some ⟨r, 0, none⟩)) rfl ?_)
    refine xG (.pointer (some ⟨r, 0, none⟩)) rfl (ex_nil rfl rfl) (xF (.pointer (some ⟨r, 2, none⟩)) rfl (s35fa32_1 _ _ _) ?_)
    simp only [zP, po]
    refine xL _ rfl (run_load1 s2na3 (hv.load 0 2 rfl rfl)) (xA (.int .i64 (L + 1)) rfl ?_)
    refine xA (.int .i64 0) rfl ?_
    simp only [zP, po]
    refine wK k68 (rR ?_)
    refine bodyPost_ret (results_tmp2 rfl _ _ _) rfl ?_
    obtain rfl : i2 = ws.length := by omega
    exact ⟨C, _, 0, hBC, rfl, .inr (.inr ⟨rfl, rfl, hpre, fun x hx => (by obtain ⟨j, hj⟩ := List.mem_iff_getElem?.1 hx; exact h64 j x (List.getElem?_eq_some_iff.1 hj).1 hj), by omega, ka2, ca2, kc2, cc2, cvs2, M', hx2, hset, hv⟩)⟩
 refine xM (.bool true) rfl ?_
 simp only [zP, po]
 iterate 5 refine yN rfl ?_
 refine xK true (.bool true) rfl ?_
 simp only [zP, po]
 refine wK k3 (cT rfl ?_)
 refine sK fun _ k69 => rL (xA (.int .i64 0) rfl ?_)
 refine xA (.int .i64 2) rfl ?_
 simp only [zP, po]
 refine wK k69 (rR ?_)
 refine tR (bodyPost_ret (results_tmp2 rfl _ _ _) rfl ?_)
 exact ⟨B, 0, 2, Base.Le.refl _, rfl, .inl ⟨rfl, rfl, fun h9 => by have h8 := (wall_pre M L ws).1 h9; first | omega | exact hbl4.1 rfl h8.2, hv⟩⟩
end Go.Proofs.YtffmbdagjpdieaaGreat
/- StoreActs: an act's key; looks. -/
namespace Go.Proofs.YtffmbdagjpdieaaGreat
open Go.RowKit Go.Pm
theorem storeReadZ (B : Base) (H : List Res) (w : World) (s p : Nat) (v : Value) (X : List (List Ent)) (bvs : List Value) (M : Model) (last mark : Int) (stamp clock : Int) (key : List UInt8) (hx : IxM B X M) (hasc : AscM M) (hv : Inv B (Res.cell s [.pointer (some ⟨p, 0, none⟩), .int .i64 last, .int .i64 mark] 65 :: ixS 89 101 100 p v (M.length : Int) X bvs :: H) w) : Calls Tryz.prog 19 #[.pointer (some ⟨s, 0, none⟩), .string ⟨key.toArray⟩, .int .i64 stamp, .int .i64 clock] w
  fun e w' => ∃ C x p' t' z' ok, B.Le C ∧ e = .returned (.tuple #[.agg (verCells x p' t' z').toArray, .bool ok]) ∧ ((ok = true ∧ readV (getM M key) stamp clock = some x) ∨ (ok = false ∧ readV (getM M key) stamp clock = none ∧ x = zver)) ∧ ValAt C x.val p' t' z' ∧ Inv C (Res.cell s [.pointer (some ⟨p, 0, none⟩), .int .i64 last, .int .i64 mark] 65 :: ixS 89 101 100 p v (M.length : Int) X bvs :: H) w' := by
 refine (storeRead B H w s p v X bvs M last mark stamp clock key hx hv).mono ?_
 rintro e w' ⟨C, x, p', t', z', ok, h1, h2, h3, h4, h5⟩
 refine ⟨C, x, p', t', z', ok, h1, h2, ?_, h4, h5⟩
 rcases readV_of (hasc key) h3 with h | ⟨h6, h7⟩
 ·exact .inl h
 refine .inr ⟨h6, h7, ?_⟩
 rcases h3 with ⟨h8, -⟩ | ⟨-, h8, -⟩
 ·rw [h6] at h8; cases h8
 exact h8
def actKey (ws : List Wr) : List UInt8 := (ws.head?.map (·.key)).getD [97]
def rdOk (l : List Ver) (s c : Int) : Bool := (readV l s c).isSome
def rdVer (l : List Ver) (s c : Int) : Ver := (readV l s c).getD zver
theorem rd_of {l : List Ver} {s c : Int} {x : Ver} {ok : Bool} (h : (ok = true ∧ readV l s c = some x) ∨ (ok = false ∧ readV l s c = none ∧ x = zver)) : ok = rdOk l s c ∧ x = rdVer l s c := by
 unfold rdOk rdVer
 rcases h with ⟨h1, h2⟩ | ⟨h1, h2, h3⟩ <;> rw [h2] <;> simp [*]
theorem readF_of {B : Base} {cvs : List Value} {M : Model} {key : List UInt8} {s c : Int} {x : Ver} {p t z : Value} {ok : Bool} (h : ReadF B cvs M key s c x p t z ok) : ok = rdOk (getM M key) s c ∧ x = rdVer (getM M key) s c := by
 rcases h with ⟨h1, h2, -⟩ | ⟨h1, h2, h3, -⟩
 ·exact rd_of (.inl ⟨h1, h2⟩)
 exact rd_of (.inr ⟨h1, h2, h3⟩)
theorem s39fa35_3 (w : World) (b o : Nat) : (Instr.fieldAt 35 (.pointer (some ⟨b, o, none⟩)) 3).run Tryz.prog w = .ok (.pointer (some ⟨b, o + 3, none⟩)) w := by kernel_rfl
theorem s39na33 (w : World) : (isAgg 33).run Tryz.prog w = .ok false w := by kernel_rfl
set_option maxHeartbeats 2000000 in
theorem actKeyC (B : Base) (H : List Res) (w : World) (kind stamp clock : Int) (wa : Option Addr) (wc : Nat) (wxs : List Value) (ws : List Wr) (hwr : RdV B [] wa wxs) (hwat : WrsAt B ws wxs) (hv : Inv B H w) :
  Calls Tryz.prog 46 #[.agg #[.int .i64 kind, .int .i64 stamp, .int .i64 clock, .slice wa ws.length wc]] w fun e w' => e = .returned (.string ⟨(actKey ws).toArray⟩) ∧ Inv B H w' := by
 refine cW Tryz.func46 rfl Tryz.ntmps46 ?_
 simp only [al]
 refine sK fun _ k1 => rL (sl_box (L := [.int .i64 kind, .int .i64 stamp, .int .i64 clock, .slice wa ws.length wc]) tV (wn rfl) rfl rfl hv (fun w => by kernel_rfl) (fun b2 w3 hv => ?_))
 refine xA (.string ⟨([] : List UInt8).toArray⟩) rfl ?_
 simp only [zP, po]
 refine wK k1 (sK fun _ k4 => ?_)
 refine sK fun _ k5 => rL (xF (.pointer (some ⟨b2, 3, none⟩)) rfl (s39fa35_3 _ _ _) ?_)
 refine xL _ rfl (run_load1 s39na33 (hv.load 0 3 rfl rfl)) (xG (.int .i64 (ws.length : Int)) rfl (ex_len0 Tryz.underlying33 rfl rfl) ?_)
 simp only [zP, po]
 by_cases hb6 : (ws.length : Int) > 0
 ·refine xG (.bool true) rfl (ex_gtr rfl rfl rfl (decide_eq_true hb6)) ?_
  simp only [zP, po]
  refine wK k5 (cT rfl ?_)
  refine sK fun _ k7 => ?_
  obtain ⟨x, hx⟩ : ∃ x, ws[0]? = some x := ⟨_, List.getElem?_eq_getElem (show 0 < ws.length by omega)⟩
  obtain ⟨bb, bo, xp, xt, xz, had, hvalx, hrdx⟩ := WrsAt.reads hwat hwr hx
  subst had
  refine rL (xF (.pointer (some ⟨b2, 3, none⟩)) rfl (s39fa35_3 _ _ _) ?_)
  refine xL _ rfl (run_load1 s39na33 (hv.load 0 3 rfl rfl)) (xG (.pointer (some ⟨bb, bo + 0 * 9, none⟩)) rfl (ex_index rfl rfl rfl (run_idx (k := 0) Tryz.underlying33 s8es33 (by omega))) ?_)
  simp only [zP, po]
  refine xF (.pointer (some ⟨bb, bo + 0 * 9, none⟩)) rfl (s8fa57_0 _ _ _) (xL _ rfl (run_load1 s3na9 (hrdx _ _ _ (Base.Le.refl _) no_res hv 0 _ rfl)) ?_)
  refine xA (.string ⟨x.key.toArray⟩) rfl ?_
  simp only [zP, po]
  refine wK k7 (rR ?_)
  refine tR (bR rfl rfl ?_)
  exact ⟨by unfold actKey; rw [List.head?_eq_getElem?, hx]; rfl, (hv.sub (List.Sublist.cons _ (List.Sublist.refl _)))⟩
 refine xG (.bool false) rfl (ex_gtr rfl rfl rfl (decide_eq_false hb6)) ?_
 simp only [zP, po]
 refine wK k5 (cF rfl ?_)
 refine kS (tK k4 ?_)
 refine sK fun _ k8 => rL (xA (.string ⟨([97] : List UInt8).toArray⟩) rfl ?_)
 simp only [zP, po]
 refine wK k8 (rR ?_)
 refine bR rfl rfl (⟨by rw [List.eq_nil_of_length_eq_zero (show ws.length = 0 by omega)]; rfl, (hv.sub (List.Sublist.cons _ (List.Sublist.refl _)))⟩)
theorem refSame1Y (B : Base) (H : List Res) (w : World) (u u' : Ver) (p t z p' t' z' : Value) (h : ValAt B u.val p t z) (hu : u = u') (h' : ValAt B u'.val p' t' z') (hv : Inv B H w) : Calls Tryz.prog 40 #[.agg (verCells u p t z).toArray, .agg (verCells u' p' t' z').toArray] w fun e w' => e = .returned (.bool true) ∧ Inv B H w' := by
 subst hu
 exact refSame1 B H w u p t z p' t' z' h h' hv
theorem s39fa35_1 (w : World) (b o : Nat) : (Instr.fieldAt 35 (.pointer (some ⟨b, o, none⟩)) 1).run Tryz.prog w = .ok (.pointer (some ⟨b, o + 1, none⟩)) w := by kernel_rfl
theorem s39fa35_2 (w : World) (b o : Nat) : (Instr.fieldAt 35 (.pointer (some ⟨b, o, none⟩)) 2).run Tryz.prog w = .ok (.pointer (some ⟨b, o + 2, none⟩)) w := by kernel_rfl
theorem s39callable38 : Callable Tryz.prog 38 := ⟨_, Tryz.func38, by kernel_rfl, by kernel_rfl⟩
theorem s39callable13 : Callable Tryz.prog 13 := ⟨_, Tryz.func13, by kernel_rfl, by kernel_rfl⟩
theorem s39callable15 : Callable Tryz.prog 15 := ⟨_, Tryz.func15, by kernel_rfl, by kernel_rfl⟩
theorem s39callable39 : Callable Tryz.prog 39 := ⟨_, Tryz.func39, by kernel_rfl, by kernel_rfl⟩
theorem s39al55 (w : World) : (Instr.alloc 55 true (.tuple #[])).run Tryz.prog w = .ok (.pointer (some ⟨w.heap.size, 0, none⟩)) (w.alloc (.cells ([.int .i64 0, .bool false, .int .i64 0, .int .i64 0, .string ⟨([] : List UInt8).toArray⟩, .slice none 0 0, .slice none 0 0, .slice none 0 0] : List Value).toArray 55)) := by kernel_rfl
theorem s39callable41 : Callable Tryz.prog 41 := ⟨_, Tryz.func41, by kernel_rfl, by kernel_rfl⟩
theorem s39callable42 : Callable Tryz.prog 42 := ⟨_, Tryz.func42, by kernel_rfl, by kernel_rfl⟩
theorem s39callable43 : Callable Tryz.prog 43 := ⟨_, Tryz.func43, by kernel_rfl, by kernel_rfl⟩
theorem s39callable44 : Callable Tryz.prog 44 := ⟨_, Tryz.func44, by kernel_rfl, by kernel_rfl⟩
theorem s39callable45 : Callable Tryz.prog 45 := ⟨_, Tryz.func45, by kernel_rfl, by kernel_rfl⟩
theorem s39wd35 : Wide Tryz.prog 35 4 := wide_of (fun w => by kernel_rfl) (by kernel_rfl)
theorem s39callable46 : Callable Tryz.prog 46 := ⟨_, Tryz.func46, by kernel_rfl, by kernel_rfl⟩
set_option maxHeartbeats 8000000 in
theorem lawLooks (B : Base) (H : List Res) (w : World) (s p : Nat) (v : Value) (X : List (List Ent)) (bvs : List Value) (M : Model) (last mark : Int) (r : Nat) (ka ca : Option Addr) (kc cc : Nat) (cvs : List Value) (kind stamp clock : Int) (wa : Option Addr) (wc : Nat) (wxs : List Value) (ws : List Wr) (hx : IxM B X M) (hrf : RefM B ka ca kc cc cvs M) (hasc : AscM M) (hwr : RdV B [] wa wxs) (hwat : WrsAt B ws wxs) (hv : Inv B (Res.cell s [.pointer (some ⟨p, 0, none⟩), .int .i64 last, .int .i64 mark] 65 :: ixS 89 101 100 p v (M.length : Int) X bvs :: Res.cell r [.slice ka M.length kc, .slice ca M.length cc, .int .i64 last, .int .i64 mark] 32 :: H) w) :
  Calls Tryz.prog 16 #[.pointer (some ⟨s, 0, none⟩), .pointer (some ⟨r, 0, none⟩), .agg #[.int .i64 kind, .int .i64 stamp, .int .i64 clock, .slice wa ws.length wc]] w fun e w' => ∃ C, B.Le C ∧ e = .returned (.bool true) ∧ Inv C (Res.cell s [.pointer (some ⟨p, 0, none⟩), .int .i64 last, .int .i64 mark] 65 :: ixS 89 101 100 p v (M.length : Int) X bvs :: Res.cell r [.slice ka M.length kc, .slice ca M.length cc, .int .i64 last, .int .i64 mark] 32 :: H) w' := by
 refine cW Tryz.func16 rfl Tryz.ntmps16 ?_
 simp only [al]
 refine sK fun _ k1 => rL (sl_box (L := [.int .i64 kind, .int .i64 stamp, .int .i64 clock, .slice wa ws.length wc]) tV (wn rfl) rfl rfl hv (fun w => by kernel_rfl) (fun b2 w3 hv => ?_))
 refine xA (.bool false) rfl ?_
 simp only [zP, po]
 refine wK k1 (sK fun _ k4 => ?_)
 refine rL (xM (.pointer (some ⟨r, 0, none⟩)) rfl ?_)
 refine xF (.pointer (some ⟨b2, 1, none⟩)) rfl (s39fa35_1 _ _ _) (xL _ rfl (run_load1 s2na3 (hv.load 0 1 rfl rfl)) ?_)
 simp only [zP, po]
 refine xF (.pointer (some ⟨b2, 2, none⟩)) rfl (s39fa35_2 _ _ _) (xL _ rfl (run_load1 s2na3 (hv.load 0 2 rfl rfl)) ?_)
 refine xC s35callable35 rfl ((refNames B _ _ r ka ca kc cc cvs M last mark stamp clock hrf [_] (fun r9 hr9 => by rw [List.mem_singleton.1 hr9]; exact List.mem_of_getElem? (i := 3) rfl) reads_cell hv).mono ?_) rfl
 rintro e w5 ⟨na1, nc1, rfl, hv⟩
 refine ⟨_, rfl, ?_⟩
 obtain ⟨K1, hK1, hv7, hrK1, -, -⟩ := hv.rowBy
 clear hv
 have hv := hv7
 clear hv7
 have hnle := namesM_le M stamp clock
 have hMs := hx.sm
 have hdle := dumpM_le M last clock
 simp only [zP, po]
 refine xA (.slice na1 ((namesM M stamp clock).length) nc1) rfl ?_
 simp only [zP, po]
 refine wK k4 (sK fun _ k6 => ?_)
 refine sK fun _ k7 => rW mixed [5, 7, 13, 17, 18] [0,1,2,3,4,6,5,7,8,9,10,11,12,14,15,16,13,17,18,19,20] 142 rfl (by kernel_rfl) hv ?_
 simp only [qm, opAt]
 refine dM (.pointer (some ⟨s, 0, none⟩)) rfl (dG (.pointer (some ⟨b2, 1, none⟩)) rfl (ex_field rfl rfl (s39fa35_1 _ _ _)) ?_)
 refine dL _ rfl (fun hv => ex_load rfl rfl (run_load1 s2na3 (hv.load 0 1 rfl rfl))) ?_
 simp only [zP, po]
 refine dG (.pointer (some ⟨b2, 2, none⟩)) rfl (ex_field rfl rfl (s39fa35_2 _ _ _)) (dL _ rfl (fun hv => ex_load rfl rfl (run_load1 s2na3 (hv.load 0 2 rfl rfl))) ?_)
 refine dM (.slice na1 ((namesM M stamp clock).length) nc1) rfl ?_
 simp only [zP, po]
 refine dS rfl fun w8 hv => mC s39callable38 rfl ((storeNames K1 _ _ s p v X bvs M last mark stamp clock (hx.more hK1) hasc ((((hv.front 3 rfl).front 1 rfl).front 3 rfl).front 3 rfl)).mono ?_) rfl
 rintro e w9 ⟨na2, nc2, rfl, hv⟩
 obtain ⟨K2, hK2, hv7, hRK2, -, -⟩ := hv.rowBy
 clear hv
 have hv := hv7
 clear hv7
 refine ⟨_, rfl, dW hv ?_⟩
 refine dS rfl fun w10 hv => mC s18callable37 rfl ((refWords K2 _ _ na2 na1 nc2 nc1 (namesM M stamp clock) (hRK2.more (Base.Le.refl _) (fun _ h => h)) (hrK1.more hK2 (fun _ h => h)) (by omega) hv).mono ?_) rfl
 rintro e w11 ⟨rfl, hv⟩
 refine ⟨_, rfl, dW hv ?_⟩
 refine dG (.bool false) rfl (ex_not rfl rfl rfl) ?_
 simp only [zP, po]
 refine dM (.bool false) rfl (dM (.pointer (some ⟨s, 0, none⟩)) rfl ?_)
 refine dG (.pointer (some ⟨b2, 2, none⟩)) rfl (ex_field rfl rfl (s39fa35_2 _ _ _)) ?_
 simp only [zP, po]
 refine dL _ rfl (fun hv => ex_load rfl rfl (run_load1 s2na3 (hv.load 2 2 rfl rfl))) (dM (.pointer (some ⟨r, 0, none⟩)) rfl ?_)
 refine dG (.pointer (some ⟨b2, 2, none⟩)) rfl (ex_field rfl rfl (s39fa35_2 _ _ _)) ?_
 simp only [zP, po]
 refine dF _ rfl (fun hv => ex_load rfl rfl (run_load1 s2na3 (hv.load 2 2 rfl rfl))) fun f12 hf12 => dS rfl fun w13 hv => mC s39callable13 rfl ((storeDump K2 _ _ s p v X bvs M last mark clock (hx.more (hK1.trans hK2)) hasc ((((hv.front 3 rfl).front 3 rfl).front 3 rfl).front 3 rfl)).mono ?_) rfl
 rintro e w14 ⟨D1, da1, dc1, dys1, hD1, rfl, -, hDR1, hDW1, hv⟩
 refine ⟨_, rfl, dV hv (fC (fun ww hv => hf12 ww (ex_load rfl rfl (run_load1 s2na3 (hv.load 2 2 rfl rfl)))) fN) ?_⟩
 refine dS rfl fun w15 hv => mC s39callable15 rfl ((refDump D1 _ _ r ka ca kc cc cvs M last mark clock (hrf.more ((hK1.trans hK2).trans hD1)) [_] (fun r9 hr9 => by rw [List.mem_singleton.1 hr9]; exact List.mem_of_getElem? (i := 3) rfl) reads_cell hasc hv).mono ?_) rfl
 rintro e w16 ⟨D2, da2, dc2, dys2, hD2, rfl, -, hDR2, hDW2, hv⟩
 refine ⟨_, rfl, dV hv (fK rfl fN) ?_⟩
 simp only [zP, po]
 refine dS rfl fun w17 hv => mC s39callable39 rfl ((refSameW D2 _ _ da1 da2 dc1 dc2 dys1 dys2 (dumpM M last clock) (hDR1.more hD2 (fun _ h => h)) (hDW1.more hD2) (hDR2.more (Base.Le.refl _) (fun _ h => h)) (hDW2.more (Base.Le.refl _)) (by omega) hv).mono ?_) rfl
 rintro e w18 ⟨rfl, hv⟩
 refine ⟨_, rfl, dV hv (fK rfl fN) ?_⟩
 refine dG (.bool false) rfl (ex_not rfl rfl rfl) (dK false (.bool false) rfl ?_)
 refine dE fun w19 hv => ?_
 simp only [zP, po]
 refine tK k7 (cF rfl ?_)
 refine kS (tK k6 ?_)
 refine sK fun _ k20 => sK fun _ k21 => rL (xA (.int .i64 0) rfl ?_)
 simp only [zP, po]
 refine wK k21 (bB ?_)
 gi_loopw [8] (fun x8 wr => ∃ (i : Nat) (E : Base), x8 = .int .i64 (i : Int) ∧ B.Le E ∧ i ≤ M.length ∧ Inv E (Res.cell s [.pointer (some ⟨p, 0, none⟩), .int .i64 last, .int .i64 mark] 65 :: ixS 89 101 100 p v (M.length : Int) X bvs :: Res.cell r [.slice ka M.length kc, .slice ca M.length cc, .int .i64 last, .int .i64 mark] 32 :: Res.cell b2 [.int .i64 kind, .int .i64 stamp, .int .i64 clock, .slice wa ws.length wc] 35 :: H) wr) (fun x8 _ => M.length - (intOf x8).toNat)
 case atStart => exact ⟨0, _, rfl, (((hK1.trans hK2).trans hD1).trans hD2), Nat.zero_le _, ((((hv.front 2 rfl).front 3 rfl).front 3 rfl).front 3 rfl)⟩
 case round =>
  obtain ⟨i, E, rfl, hBE, hi, hv⟩ := hrel
  refine sK fun _ k23 => sK fun _ k24 => rL (xM (.int .i64 (i : Int)) rfl ?_)
  refine xM (.pointer (some ⟨r, 0, none⟩)) rfl (xG (.pointer (some ⟨r, 0, none⟩)) rfl (ex_nil rfl rfl) ?_)
  simp only [zP, po]
  refine xF (.pointer (some ⟨r, 0, none⟩)) rfl (s34fa32_0 _ _ _) (xF (.pointer (some ⟨r, 0, none⟩)) rfl (s33fa30_0 _ _ _) ?_)
  refine xL _ rfl (run_load1 s1na27 (hv.load 2 0 rfl rfl)) ?_
  simp only [zP, po]
  refine xG (.int .i64 (M.length : Int)) rfl (ex_len0 Tryz.underlying27 rfl rfl) ?_
  by_cases hb25 : (i : Int) < (M.length : Int)
  ·refine xG (.bool true) rfl (ex_lss rfl rfl rfl (decide_eq_true hb25)) ?_
   simp only [zP, po]
   refine wK k24 (cT rfl ?_)
   refine kS (tK k23 ?_)
   refine sK fun _ k26 => bB (sK fun _ k27 => ?_)
   obtain ⟨m, hm⟩ : ∃ m, M[i]? = some m := ⟨_, List.getElem?_eq_getElem (show i < M.length by omega)⟩
   obtain ⟨kb, ko, had, hrdk⟩ := text_reads hrf.ix.keys (key_at0 hm)
   subst had
   refine rL (xM (.pointer (some ⟨r, 0, none⟩)) rfl ?_)
   refine xG (.pointer (some ⟨r, 0, none⟩)) rfl (ex_nil rfl rfl) (xF (.pointer (some ⟨r, 0, none⟩)) rfl (s34fa32_0 _ _ _) ?_)
   simp only [zP, po]
   refine xF (.pointer (some ⟨r, 0, none⟩)) rfl (s33fa30_0 _ _ _) (xL _ rfl (run_load1 s1na27 (hv.load 2 0 rfl rfl)) ?_)
   refine xM (.int .i64 (i : Int)) rfl ?_
   simp only [zP, po]
   refine xG (.pointer (some ⟨kb, ko + i, none⟩)) rfl (ex_index rfl rfl rfl (run_idx1 (k := i) Tryz.underlying27 s9es27 (by omega))) (xL _ rfl (run_load1 s3na9 (hrdk _ _ _ hBE no_res hv 0 _ rfl)) ?_)
   refine xA (.string ⟨m.1.toArray⟩) rfl ?_
   simp only [zP, po]
   refine wK k27 (sK fun _ k28 => ?_)
   refine rL (xM (.pointer (some ⟨s, 0, none⟩)) rfl ?_)
   refine xM (.string ⟨m.1.toArray⟩) rfl (xF (.pointer (some ⟨b2, 1, none⟩)) rfl (s39fa35_1 _ _ _) ?_)
   simp only [zP, po]
   refine xL _ rfl (run_load1 s2na3 (hv.load 3 1 rfl rfl)) (xF (.pointer (some ⟨b2, 2, none⟩)) rfl (s39fa35_2 _ _ _) ?_)
   refine xL _ rfl (run_load1 s2na3 (hv.load 3 2 rfl rfl)) ?_
   simp only [zP, po]
   refine xC s26callable19 rfl ((storeReadZ E _ _ s p v X bvs M last mark stamp clock m.1 (hx.more hBE) hasc ((((hv.front 3 rfl).front 3 rfl).front 3 rfl).front 3 rfl)).mono ?_) rfl
   rintro e w29 ⟨F, y, p3, t3, z3, ok, hF, rfl, hrd9, hvy, hv⟩
   refine ⟨_, rfl, ?_⟩
   obtain ⟨hok1, hy1⟩ := rd_of hrd9
   clear hrd9
   refine xM (.tuple #[.agg #[.int .i64 y.stamp, .bool y.gone, .int .i64 y.expire, .int .i64 y.val.kind, .string ⟨y.val.text.toArray⟩, p3, t3, z3], .bool ok]) rfl (xG (.agg #[.int .i64 y.stamp, .bool y.gone, .int .i64 y.expire, .int .i64 y.val.kind, .string ⟨y.val.text.toArray⟩, p3, t3, z3]) rfl (ex_extract rfl rfl rfl) ?_)
   simp only [zP, po]
   refine xG (.bool ok) rfl (ex_extract rfl rfl rfl) (sl_alloc tV (wn rfl) rfl hv s39al55 (fun b30 w31 hv => ?_))
   refine xS 0 rfl hv s1sz55 rfl (by exact ⟨rfl, rfl, rfl, rfl, rfl, hvy.p.one, hvy.t.one, hvy.z.one, trivial⟩) (fun w32 hv => ?_)
   simp only [zO, sp] at hv
   simp only [zP, po]
   refine xA (.bool ok) rfl ?_
   simp only [zP, po]
   refine wK k28 (sK fun _ k33 => ?_)
   refine rL (xM (.pointer (some ⟨r, 0, none⟩)) rfl ?_)
   refine xM (.string ⟨m.1.toArray⟩) rfl (xF (.pointer (some ⟨b2, 1, none⟩)) rfl (s39fa35_1 _ _ _) ?_)
   simp only [zP, po]
   refine xL _ rfl (run_load1 s2na3 (hv.load 4 1 rfl rfl)) (xF (.pointer (some ⟨b2, 2, none⟩)) rfl (s39fa35_2 _ _ _) ?_)
   refine xL _ rfl (run_load1 s2na3 (hv.load 4 2 rfl rfl)) ?_
   simp only [zP, po]
   refine xC s34callable36 rfl ((refRead F _ _ r _ ca kc cc cvs M last mark stamp clock m.1 (hrf.more (hBE.trans hF)) [_] (fun r9 hr9 => by rw [List.mem_singleton.1 hr9]; exact List.mem_of_getElem? (i := 3) rfl) reads_cell hv).mono ?_) rfl
   rintro e w34 ⟨y2, p4, t4, z4, ok2, rfl, hF2, hvy2, hv⟩
   refine ⟨_, rfl, ?_⟩
   obtain ⟨hok2, hy2⟩ := readF_of hF2
   clear hF2
   obtain rfl : ok2 = ok := hok2.trans hok1.symm
   have hyy : y = y2 := hy1.trans hy2.symm
   clear hok1 hok2 hy1 hy2
   refine xM (.tuple #[.agg #[.int .i64 y2.stamp, .bool y2.gone, .int .i64 y2.expire, .int .i64 y2.val.kind, .string ⟨y2.val.text.toArray⟩, p4, t4, z4], .bool ok2]) rfl (xG (.agg #[.int .i64 y2.stamp, .bool y2.gone, .int .i64 y2.expire, .int .i64 y2.val.kind, .string ⟨y2.val.text.toArray⟩, p4, t4, z4]) rfl (ex_extract rfl rfl rfl) ?_)
   simp only [zP, po]
   refine xG (.bool ok2) rfl (ex_extract rfl rfl rfl) (sl_alloc tV (wn rfl) rfl hv s39al55 (fun b35 w36 hv => ?_))
   refine xS 0 rfl hv s1sz55 rfl (by exact ⟨rfl, rfl, rfl, rfl, rfl, hvy2.p.one, hvy2.t.one, hvy2.z.one, trivial⟩) (fun w37 hv => ?_)
   simp only [zO, sp] at hv
   simp only [zP, po]
   refine xA (.bool ok2) rfl ?_
   simp only [zP, po]
   refine wK k33 (sK fun _ k38 => ?_)
   refine rW mixed [6, 12, 17, 18, 24, 29, 30] [0,1,2,3,4,5,6,7,8,9,10,11,13,14,15,16,12,17,18,19,20,21,22,23,25,26,27,28,24,29,30,31,32] 142 rfl (by kernel_rfl) hv ?_
   simp only [qm, opAt]
   refine dM (.bool ok2) rfl (dM (.bool ok2) rfl ?_)
   refine dG (.bool false) rfl (ex_bneq Tryz.underlying4 rfl rfl rfl (by cases ok2 <;> rfl)) ?_
   simp only [zP, po]
   refine dM (.bool false) rfl (dL (.agg #[.int .i64 y.stamp, .bool y.gone, .int .i64 y.expire, .int .i64 y.val.kind, .string ⟨y.val.text.toArray⟩, p3, t3, z3]) rfl (fun hv => ex_load rfl rfl (run_load_mid (pre := []) (mid := [.int .i64 y.stamp, .bool y.gone, .int .i64 y.expire, .int .i64 y.val.kind, .string ⟨y.val.text.toArray⟩, p3, t3, z3]) (post := []) s1wd55 (show Blk _ b30 ([] ++ [.int .i64 y.stamp, .bool y.gone, .int .i64 y.expire, .int .i64 y.val.kind, .string ⟨y.val.text.toArray⟩, p3, t3, z3] ++ []) _ from hv.get 1 rfl) rfl)) ?_)
   refine dL (.agg #[.int .i64 y2.stamp, .bool y2.gone, .int .i64 y2.expire, .int .i64 y2.val.kind, .string ⟨y2.val.text.toArray⟩, p4, t4, z4]) rfl (fun hv => ex_load rfl rfl (run_load_mid (pre := []) (mid := [.int .i64 y2.stamp, .bool y2.gone, .int .i64 y2.expire, .int .i64 y2.val.kind, .string ⟨y2.val.text.toArray⟩, p4, t4, z4]) (post := []) s1wd55 (show Blk _ b35 ([] ++ [.int .i64 y2.stamp, .bool y2.gone, .int .i64 y2.expire, .int .i64 y2.val.kind, .string ⟨y2.val.text.toArray⟩, p4, t4, z4] ++ []) _ from hv.get 0 rfl) rfl)) ?_
   simp only [zP, po]
   refine dS rfl fun w39 hv => mC s35callable40 rfl ((refSame1Y F _ _ y y2 _ _ _ _ _ _ (hvy.more (Base.Le.refl _)) hyy (hvy2.more (Base.Le.refl _)) hv).mono ?_) rfl
   rintro e w40 ⟨rfl, hv⟩
   refine ⟨_, rfl, dW hv ?_⟩
   refine dG (.bool false) rfl (ex_not rfl rfl rfl) (dK false (.bool false) rfl ?_)
   simp only [zP, po]
   refine dM (.bool false) rfl (dM (.pointer (some ⟨s, 0, none⟩)) rfl ?_)
   refine dM (.string ⟨m.1.toArray⟩) rfl ?_
   simp only [zP, po]
   refine dM (.pointer (some ⟨r, 0, none⟩)) rfl (dG (.pointer (some ⟨r, 0, none⟩)) rfl (ex_nil rfl rfl) ?_)
   refine dG (.pointer (some ⟨r, 0, none⟩)) rfl (ex_field rfl rfl (s34fa32_0 _ _ _)) ?_
   simp only [zP, po]
   refine dM (.string ⟨m.1.toArray⟩) rfl (dS rfl fun w41 hv => ?_)
   refine mC s39callable41 rfl ((storeLatest F _ _ s p v X bvs M last mark m.1 (hx.more (hBE.trans hF)) ((((((hv.front 5 rfl).front 5 rfl).front 3 rfl).front 3 rfl).front 5 rfl).front 5 rfl)).mono ?_) rfl
   rintro e w43 ⟨C42, hC42, rfl, hv⟩
   refine ⟨_, rfl, dW hv ?_⟩
   refine dS rfl fun w44 hv => mC s34callable25 rfl ((refIxGet C42 _ _ r _ ca kc cc cvs M last mark m.1 (hrf.more ((hBE.trans hF).trans hC42)).ix hrf.so hrf.sm hrf.kl [_] (fun r9 hr9 => by rw [List.mem_singleton.1 hr9]; exact List.mem_of_getElem? (i := 4) rfl) reads_cell hrf.ne hv).mono ?_) rfl
   rintro e w46 ⟨q45, rfl, hQq45, -, hv⟩
   obtain ⟨q45a, q45c, h9⟩ := hQq45.shape
   subst h9
   refine ⟨_, rfl, dW hv ?_⟩
   simp only [zP, po]
   refine dS rfl fun w47 hv => mC s39callable42 rfl ((refLatestX C42 _ _ _ (getM M m.1) (hQq45.more (Base.Le.refl _)) (by have := hrf.cl m.1; omega) hv).mono ?_) rfl
   rintro e w48 ⟨rfl, hv⟩
   refine ⟨_, rfl, dW hv ?_⟩
   refine dG (.bool false) rfl (ex_neq rfl rfl rfl (decide_eq_false (fun h => h rfl))) (dK false (.bool false) rfl ?_)
   simp only [zP, po]
   refine dM (.bool false) rfl (dM (.pointer (some ⟨s, 0, none⟩)) rfl ?_)
   refine dM (.string ⟨m.1.toArray⟩) rfl ?_
   simp only [zP, po]
   refine dM (.pointer (some ⟨r, 0, none⟩)) rfl (dG (.pointer (some ⟨r, 0, none⟩)) rfl (ex_nil rfl rfl) ?_)
   refine dG (.pointer (some ⟨r, 0, none⟩)) rfl (ex_field rfl rfl (s34fa32_0 _ _ _)) ?_
   simp only [zP, po]
   refine dM (.string ⟨m.1.toArray⟩) rfl (dS rfl fun w49 hv => ?_)
   refine mC s39callable43 rfl ((storeVersions C42 _ _ s p v X bvs M last mark m.1 (hx.more ((hBE.trans hF).trans hC42)) ((((((hv.front 5 rfl).front 5 rfl).front 5 rfl).front 5 rfl).front 5 rfl).front 5 rfl)).mono ?_) rfl
   rintro e w51 ⟨C50, hC50, rfl, hv⟩
   refine ⟨_, rfl, dW hv ?_⟩
   refine dS rfl fun w52 hv => mC s34callable25 rfl ((refIxGet C50 _ _ r _ ca kc cc cvs M last mark m.1 (hrf.more (((hBE.trans hF).trans hC42).trans hC50)).ix hrf.so hrf.sm hrf.kl [_] (fun r9 hr9 => by rw [List.mem_singleton.1 hr9]; exact List.mem_of_getElem? (i := 4) rfl) reads_cell hrf.ne hv).mono ?_) rfl
   rintro e w54 ⟨q53, rfl, hQq53, -, hv⟩
   obtain ⟨q53a, q53c, h9⟩ := hQq53.shape
   subst h9
   refine ⟨_, rfl, dW hv ?_⟩
   simp only [zP, po]
   refine dS rfl fun w55 hv => Ex.mem (ex_len0 Tryz.underlying70 rfl rfl) rfl (dW hv ?_)
   refine dG (.bool false) rfl (ex_neq rfl rfl rfl (decide_eq_false (fun h => h rfl))) (dK false (.bool false) rfl ?_)
   refine dE fun w56 hv => ?_
   simp only [zP, po]
   refine tK k38 (cF rfl ?_)
   refine kS (bN ?_)
   refine tK k26 (rL ?_)
   refine xM (.int .i64 (i : Int)) rfl (xG (.int .i64 ((i + 1 : Nat) : Int)) rfl (ex_add rfl rfl rfl (by rw [i64_in (by omega)]; omega)) ?_)
   refine xA (.int .i64 ((i + 1 : Nat) : Int)) rfl (wL ?_)
   simp only [zP, po]
   refine then_normal ?_
   go_roundw
   case rel => exact ⟨i + 1, _, rfl, (((hBE.trans hF).trans hC42).trans hC50), by omega, (((((hv.front 5 rfl).front 5 rfl).front 3 rfl).front 3 rfl).sub (List.Sublist.cons_cons _ (List.Sublist.cons_cons _ (List.Sublist.cons_cons _ (List.Sublist.cons_cons _ (List.Sublist.cons _ (List.Sublist.cons _ (List.Sublist.refl _))))))))⟩
   case measure => show M.length - (((i + 1 : Nat) : Int)).toNat < M.length - ((i : Int)).toNat; omega
  refine xG (.bool false) rfl (ex_lss rfl rfl rfl (decide_eq_false hb25)) ?_
  simp only [zP, po]
  refine wK k24 (cF rfl ?_)
  refine xE (tX ?_)
  refine tX (bH ?_)
  refine tK k20 (sK fun _ k57 => ?_)
  refine rW mixed [1, 9, 19, 20, 25, 26, 27] [0,2,3,4,5,1,6,7,8,10,11,12,13,9,14,15,16,17,18,21,22,23,24,19,20,25,26,27,28,29,30] 142 rfl (by kernel_rfl) hv ?_
  simp only [qm, opAt]
  refine dM (.pointer (some ⟨s, 0, none⟩)) rfl (dM (.pointer (some ⟨r, 0, none⟩)) rfl ?_)
  refine dG (.pointer (some ⟨r, 0, none⟩)) rfl (ex_nil rfl rfl) ?_
  simp only [zP, po]
  refine dG (.pointer (some ⟨r, 2, none⟩)) rfl (ex_field rfl rfl (s35fa32_1 _ _ _)) (dF _ rfl (fun hv => ex_load rfl rfl (run_load1 s2na3 (hv.load 2 2 rfl rfl))) fun f58 hf58 => ?_)
  refine dS rfl fun w59 hv => mC s39callable44 rfl ((storeLast E _ _ s p last mark (hv.front 0 rfl)).mono ?_) rfl
  rintro e w60 ⟨rfl, hv⟩
  refine ⟨_, rfl, dV hv (fC (fun ww hv => hf58 ww (ex_load rfl rfl (run_load1 s2na3 (hv.load 2 2 rfl rfl)))) fN) ?_⟩
  simp only [zP, po]
  refine dG (.bool true) rfl (ex_eql rfl rfl rfl (decide_eq_true (rfl))) (dM (.bool true) rfl ?_)
  refine dM (.pointer (some ⟨s, 0, none⟩)) rfl ?_
  simp only [zP, po]
  refine dM (.pointer (some ⟨r, 0, none⟩)) rfl (dG (.pointer (some ⟨r, 0, none⟩)) rfl (ex_nil rfl rfl) ?_)
  refine dG (.pointer (some ⟨r, 3, none⟩)) rfl (ex_field rfl rfl (s36fa32_2 _ _ _)) ?_
  simp only [zP, po]
  refine dF _ rfl (fun hv => ex_load rfl rfl (run_load1 s2na3 (hv.load 2 3 rfl rfl))) fun f61 hf61 => dS rfl fun w62 hv => mC s39callable45 rfl ((storeMark E _ _ s p last mark (hv.front 0 rfl)).mono ?_) rfl
  rintro e w63 ⟨rfl, hv⟩
  refine ⟨_, rfl, dV hv (fC (fun ww hv => hf61 ww (ex_load rfl rfl (run_load1 s2na3 (hv.load 2 3 rfl rfl)))) (fK rfl fN)) ?_⟩
  refine dG (.bool true) rfl (ex_eql rfl rfl rfl (decide_eq_true (rfl))) ?_
  simp only [zP, po]
  refine dK true (.bool true) rfl (dM (.bool true) rfl ?_)
  refine dM (.pointer (some ⟨s, 0, none⟩)) rfl ?_
  simp only [zP, po]
  refine dL (.agg #[.int .i64 kind, .int .i64 stamp, .int .i64 clock, .slice wa ws.length wc]) rfl (fun hv => ex_load rfl rfl (run_load_mid (pre := []) (mid := [.int .i64 kind, .int .i64 stamp, .int .i64 clock, .slice wa ws.length wc]) (post := []) s39wd35 (show Blk _ b2 ([] ++ [.int .i64 kind, .int .i64 stamp, .int .i64 clock, .slice wa ws.length wc] ++ []) _ from hv.get 3 rfl) rfl)) (dM (.pointer (some ⟨r, 0, none⟩)) rfl ?_)
  refine dG (.pointer (some ⟨r, 0, none⟩)) rfl (ex_nil rfl rfl) ?_
  simp only [zP, po]
  refine dG (.pointer (some ⟨r, 0, none⟩)) rfl (ex_field rfl rfl (s34fa32_0 _ _ _)) (dF (.agg #[.int .i64 kind, .int .i64 stamp, .int .i64 clock, .slice wa ws.length wc]) rfl (fun hv => ex_load rfl rfl (run_load_mid (pre := []) (mid := [.int .i64 kind, .int .i64 stamp, .int .i64 clock, .slice wa ws.length wc]) (post := []) s39wd35 (show Blk _ b2 ([] ++ [.int .i64 kind, .int .i64 stamp, .int .i64 clock, .slice wa ws.length wc] ++ []) _ from hv.get 3 rfl) rfl)) fun f64 hf64 => ?_)
  refine dS rfl fun w65 hv => mC s39callable46 rfl ((actKeyC E _ _ kind stamp clock wa wc wxs ws (hwr.more hBE (fun _ h => h)) (hwat.more hBE) hv).mono ?_) rfl
  rintro e w66 ⟨rfl, hv⟩
  refine ⟨_, rfl, dV hv (fC (fun ww hv => hf64 ww (ex_load rfl rfl (run_load_mid (pre := []) (mid := [.int .i64 kind, .int .i64 stamp, .int .i64 clock, .slice wa ws.length wc]) (post := []) s39wd35 (show Blk _ b2 ([] ++ [.int .i64 kind, .int .i64 stamp, .int .i64 clock, .slice wa ws.length wc] ++ []) _ from hv.get 3 rfl) rfl))) (fK rfl (fK rfl fN))) ?_⟩
  simp only [zP, po]
  refine dS rfl fun w67 hv => mC s39callable41 rfl ((storeLatest E _ _ s p v X bvs M last mark (actKey ws) (hx.more hBE) ((((hv.front 3 rfl).front 3 rfl).front 3 rfl).front 3 rfl)).mono ?_) rfl
  rintro e w69 ⟨C68, hC68, rfl, hv⟩
  refine ⟨_, rfl, dV hv (fC (fun ww hv => hf64 ww (ex_load rfl rfl (run_load_mid (pre := []) (mid := [.int .i64 kind, .int .i64 stamp, .int .i64 clock, .slice wa ws.length wc]) (post := []) s39wd35 (show Blk _ b2 ([] ++ [.int .i64 kind, .int .i64 stamp, .int .i64 clock, .slice wa ws.length wc] ++ []) _ from hv.get 3 rfl) rfl))) (fK rfl (fK rfl fN))) ?_⟩
  refine dS rfl fun w70 hv => mC s39callable46 rfl ((actKeyC C68 _ _ kind stamp clock wa wc wxs ws (hwr.more (hBE.trans hC68) (fun _ h => h)) (hwat.more (hBE.trans hC68)) hv).mono ?_) rfl
  rintro e w71 ⟨rfl, hv⟩
  refine ⟨_, rfl, dV hv (fK rfl (fK rfl (fK rfl fN))) ?_⟩
  refine dS rfl fun w72 hv => mC s34callable25 rfl ((refIxGet C68 _ _ r _ ca kc cc cvs M last mark (actKey ws) (hrf.more (hBE.trans hC68)).ix hrf.so hrf.sm hrf.kl [_] (fun r9 hr9 => by rw [List.mem_singleton.1 hr9]; exact List.mem_of_getElem? (i := 2) rfl) reads_cell hrf.ne hv).mono ?_) rfl
  rintro e w74 ⟨q73, rfl, hQq73, -, hv⟩
  obtain ⟨q73a, q73c, h9⟩ := hQq73.shape
  subst h9
  refine ⟨_, rfl, dV hv (fK rfl (fK rfl (fK rfl fN))) ?_⟩
  simp only [zP, po]
  refine dS rfl fun w75 hv => mC s39callable42 rfl ((refLatestX C68 _ _ _ (getM M (actKey ws)) (hQq73.more (Base.Le.refl _)) (by have := hrf.cl (actKey ws); omega) hv).mono ?_) rfl
  rintro e w76 ⟨rfl, hv⟩
  refine ⟨_, rfl, dV hv (fK rfl (fK rfl (fK rfl fN))) ?_⟩
  refine dG (.bool true) rfl (ex_eql rfl rfl rfl (decide_eq_true (rfl))) (dK true (.bool true) rfl ?_)
  simp only [zP, po]
  refine dA (.bool true) rfl (dE fun w77 hv => ?_)
  simp only [zP, po]
  refine tK k57 (rR ?_)
  refine bR rfl rfl (⟨_, (hBE.trans hC68), rfl, ((((hv.front 2 rfl).front 2 rfl).front 2 rfl).sub (List.Sublist.cons_cons _ (List.Sublist.cons_cons _ (List.Sublist.cons_cons _ (List.Sublist.cons _ (List.Sublist.refl _))))))⟩)
end Go.Proofs.YtffmbdagjpdieaaGreat
