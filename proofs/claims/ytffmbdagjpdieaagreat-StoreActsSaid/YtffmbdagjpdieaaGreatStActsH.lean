/- chain.Prune. -/
import Derived.Test.YtffmbdagjpdieaaGreatStActsB
import Derived.Test.YtffmbdagjpdieaaGreatStActsF
import Derived.Test.YtffmbdagjpdieaaGreatStActsG
import Derived.Test.YtffmbdagjpdieaaGreatRows
import Derived.Scope
import Derived.Test.YtffmbdagjpdieaaGreatStActsC
import Derived.Test.YtffmbdagjpdieaaGreatStActsD
import Derived.Laws.StructEq
set_option maxRecDepth 100000
namespace Go.Proofs.YtffmbdagjpdieaaGreat
open Go.RowKit Go.Pm
theorem s22mk55 : (Tryz.prog.info? 55).map (fun i => (i.zero, i.size, i.bytes)) = some (some (.agg #[.int .i64 0, .bool false, .int .i64 0, .int .i64 0, .string ⟨([] : List UInt8).toArray⟩, .slice none 0 0, .slice none 0 0, .slice none 0 0]), 8, 120) := by kernel_rfl
theorem s22el70 : Elem Tryz.prog 70 55 (.agg #[.int .i64 0, .bool false, .int .i64 0, .int .i64 0, .string ⟨([] : List UInt8).toArray⟩, .slice none 0 0, .slice none 0 0, .slice none 0 0]) 8 120 := elem_of Tryz.underlying70 s22mk55 (by rfl) (by decide)
theorem s22al55 (w : World) : (Instr.alloc 55 true (.tuple #[])).run Tryz.prog w = .ok (.pointer (some ⟨w.heap.size, 0, none⟩)) (w.alloc (.cells ([.int .i64 0, .bool false, .int .i64 0, .int .i64 0, .string ⟨([] : List UInt8).toArray⟩, .slice none 0 0, .slice none 0 0, .slice none 0 0] : List Value).toArray 55)) := by kernel_rfl
set_option maxHeartbeats 4000000 in
theorem chainPrune (B : Base) (H : List Res) (w : World) (ad : Option Addr) (c : Nat) (mark clock : Int) (xs : List Value) (l : List Ver) (hok : SliceOk ad l.length c) (hr : RdV B [] ad xs) (hxs : VersAt B l xs) (hm : l.length ≤ 100000) (hv : Inv B H w) :
  Calls Tryz.prog 29 #[.slice ad l.length c, .int .i64 mark, .int .i64 clock] w fun e w' => ∃ C v' n, B.Le C ∧ e = .returned v' ∧ PruneN l mark clock n ∧ ChainB C v' (l.drop n) ∧ Inv C H w' := by
 refine cW Tryz.func29 rfl Tryz.ntmps29 ?_
 simp only [al]
 refine sK fun _ k1 => rL (xA (.slice none 0 0) rfl ?_)
 simp only [zP, po]
 refine wK k1 (sK fun _ k2 => ?_)
 refine rL (xM (.slice ad l.length c) rfl ?_)
 refine xM (.int .i64 mark) rfl (xC s2callable57 rfl ((chainUpto B _ _ ad c mark xs l hr hxs (by omega) hv).mono ?_) rfl)
 rintro e w3 ⟨i, hu, rfl, hv⟩
 refine ⟨_, rfl, ?_⟩
 simp only [zP, po]
 refine xA (.int .i64 (i : Int)) rfl ?_
 simp only [zP, po]
 refine wK k2 (sK fun _ k4 => ?_)
 refine sK fun _ k5 => rL (xM (.int .i64 (i : Int)) rfl ?_)
 by_cases hb6 : (i : Int) > 0
 ·refine xG (.bool true) rfl (ex_gtr rfl rfl rfl (decide_eq_true hb6)) ?_
  obtain ⟨j, hij⟩ : ∃ j : Nat, i = j + 1 := ⟨i - 1, by omega⟩
  have hjl : j < l.length := by have := hu.1; omega
  obtain ⟨x, hx⟩ : ∃ x, l[j]? = some x := ⟨_, List.getElem?_eq_getElem (show j < l.length by omega)⟩
  obtain ⟨bb, bo, xp, xt, xz, had, hvalx, hrdx⟩ := VersAt.reads hxs hr hx
  subst had
  refine xM (.bool true) rfl ?_
  simp only [zP, po]
  refine xM (.slice (some ⟨bb, bo, none⟩) l.length c) rfl (xM (.int .i64 (i : Int)) rfl ?_)
  refine xG (.int .i64 (j : Int)) rfl (ex_sub rfl rfl rfl (by rw [i64_in (by omega)]; omega)) ?_
  simp only [zP, po]
  refine xG (.pointer (some ⟨bb, bo + j * 8, none⟩)) rfl (ex_index rfl rfl rfl (run_idx (k := j) Tryz.underlying70 s1es70 (by omega))) (xL (.agg #[.int .i64 x.stamp, .bool x.gone, .int .i64 x.expire, .int .i64 x.val.kind, .string ⟨x.val.text.toArray⟩, xp, xt, xz]) rfl (run_loadR (cs := [.int .i64 x.stamp, .bool x.gone, .int .i64 x.expire, .int .i64 x.val.kind, .string ⟨x.val.text.toArray⟩, xp, xt, xz]) s1wd55 (Reads.mid (pre := []) (mid := [.int .i64 x.stamp, .bool x.gone, .int .i64 x.expire, .int .i64 x.val.kind, .string ⟨x.val.text.toArray⟩, xp, xt, xz]) (post := []) hrdx _ _ _ (Base.Le.refl _) no_res hv)) ?_)
  refine xM (.int .i64 clock) rfl ?_
  simp only [zP, po]
  refine xC s15callable48 rfl ((chainAlive B _ _ x xp xt xz clock hv).mono ?_) rfl
  rintro e w7 ⟨rfl, hv⟩
  refine ⟨_, rfl, ?_⟩
  refine xK true (.bool (aliveB x clock)) rfl ?_
  simp only [zP, po]
  refine wK k5 (wpIn_cond_split (t := aliveB x clock) rfl (fun hc8 => ?_) (fun hc8 => ?_))
  ·refine rL (xM (.int .i64 (i : Int)) rfl ?_)
   refine xG (.int .i64 (j : Int)) rfl (ex_sub rfl rfl rfl (by rw [i64_in (by omega)]; omega)) (xA (.int .i64 (j : Int)) rfl ?_)
   simp only [zP, po]
   refine wK k4 (sK fun _ k9 => ?_)
   have hn : PruneN l mark clock j := ⟨i, hu, .inl ⟨x, hij, hx, hc8⟩⟩
   obtain ⟨n, hne⟩ : ∃ n, n = j := ⟨_, rfl⟩
   rw [← hne] at hn
   have hnl := hn.le
   obtain ⟨l2, hl2⟩ : ∃ l2, l2 = l.drop n := ⟨_, rfl⟩
   have hl2l : l2.length = l.length - n := by rw [hl2, List.length_drop]
   clear hvalx hrdx
   obtain ⟨a2, ha2, hr2⟩ := sliced_rdV 8 hr hxs.len hok.le hnl (by decide)
   rw [← hl2l] at ha2
   have hxs2 : VersAt B l2 (xs.drop (n * 8)) := by rw [hl2]; exact hxs.drop n
   rw [hne] at ha2
   refine rL (xM (.slice (some ⟨bb, bo, none⟩) l.length c) rfl ?_)
   refine xG (.int .i64 (l.length : Int)) rfl (ex_len0 Tryz.underlying70 rfl rfl) (xM (.int .i64 (j : Int)) rfl ?_)
   simp only [zP, po]
   refine xG (.int .i64 ((l.length - j : Nat) : Int)) rfl (ex_sub rfl rfl rfl (by rw [i64_in (by omega)]; omega)) (sl_makeRow (cap := (l.length - j : Nat)) tV (wn rfl) rfl rfl rfl s22el70 (by unfold maxLen; omega) (by omega) hv (fun b10 w11 hv => ?_))
   refine xA (.slice (some ⟨b10, 0, none⟩) 0 (l.length - j : Nat)) rfl ?_
   simp only [zP, po]
   refine wK k9 (sK fun _ k12 => ?_)
   refine sK fun _ k13 => rL (xM (.slice (some ⟨bb, bo, none⟩) l.length c) rfl ?_)
   refine xM (.int .i64 (j : Int)) rfl (xG (.slice a2 l2.length (c - j)) rfl (ex_slice (lo' := some (.int .i64 (j : Int))) rfl rfl (congrArg some rfl) rfl rfl ((run_fromAny Tryz.underlying70 s1es70 (by omega)).trans (by rw [ha2]))) ?_)
   simp only [zP, po]
   refine xG (.int .i64 (l2.length : Int)) rfl (ex_len0 Tryz.underlying70 rfl rfl) (xM (.int .i64 0) rfl ?_)
   simp only [zP, po]
   refine wK k13 (bB ?_)
   gi_loopw [8, 36] (fun x8 x36 wr => ∃ (k : Nat) (C : Base) (ra : Option Addr) (rc : Nat) (ys : List Value), x8 = .slice ra k rc ∧ x36 = .int .i64 (k : Int) ∧ B.Le C ∧ k ≤ l2.length ∧ VersAt C (l2.take k) ys ∧ Inv C (Res.row 55 8 (.slice ra k rc) k ys :: H) wr) (fun x8 x36 _ => l2.length - (intOf x36).toNat)
   case atStart => exact ⟨0, B, _, _, [], rfl, rfl, Base.Le.refl _, Nat.zero_le _, rfl, hv⟩
   case round =>
    obtain ⟨k, C, ra, rc, ys, rfl, rfl, hBC, hk, hys, hv⟩ := hrel
    refine sK fun _ k15 => rL ?_
    by_cases hb16 : (k : Int) < (l2.length : Int)
    ·refine xG (.bool true) rfl (ex_lss rfl rfl rfl (decide_eq_true hb16)) ?_
     simp only [zP, po]
     refine wK k15 (sK fun _ k17 => ?_)
     refine cT rfl (kS ?_)
     refine tK k17 (sK fun _ k18 => ?_)
     refine bB (sK fun _ k19 => ?_)
     obtain ⟨y, hy⟩ : ∃ x, l2[k]? = some x := ⟨_, List.getElem?_eq_getElem (show k < l2.length by omega)⟩
     obtain ⟨b2, o2, yp, yt, yz, had, hvaly, hrdy⟩ := VersAt.reads hxs2 hr2 hy
     subst had
     refine rL (xG (.pointer (some ⟨b2, o2 + k * 8, none⟩)) rfl (ex_index rfl rfl rfl (run_idx (k := k) Tryz.underlying70 s1es70 (by omega))) ?_)
     refine xL (.agg #[.int .i64 y.stamp, .bool y.gone, .int .i64 y.expire, .int .i64 y.val.kind, .string ⟨y.val.text.toArray⟩, yp, yt, yz]) rfl (run_loadR (cs := [.int .i64 y.stamp, .bool y.gone, .int .i64 y.expire, .int .i64 y.val.kind, .string ⟨y.val.text.toArray⟩, yp, yt, yz]) s1wd55 (Reads.mid (pre := []) (mid := [.int .i64 y.stamp, .bool y.gone, .int .i64 y.expire, .int .i64 y.val.kind, .string ⟨y.val.text.toArray⟩, yp, yt, yz]) (post := []) hrdy _ _ _ hBC no_res hv)) (sl_alloc tV (wn rfl) rfl hv s22al55 (fun b20 w21 hv => ?_))
     simp only [zP, po]
     refine xS 0 rfl hv s1sz55 rfl (by exact ⟨rfl, rfl, rfl, rfl, rfl, hvaly.p.one, hvaly.t.one, hvaly.z.one, trivial⟩) (fun w22 hv => ?_)
     simp only [zO, sp] at hv
     simp only [zP, po]
     refine wK k19 (rL ?_)
     refine xM (.slice ra k rc) rfl (xL (.agg #[.int .i64 y.stamp, .bool y.gone, .int .i64 y.expire, .int .i64 y.val.kind, .string ⟨y.val.text.toArray⟩, yp, yt, yz]) rfl (run_load_mid (pre := []) (mid := [.int .i64 y.stamp, .bool y.gone, .int .i64 y.expire, .int .i64 y.val.kind, .string ⟨y.val.text.toArray⟩, yp, yt, yz]) (post := []) s1wd55 (show Blk _ b20 ([] ++ [.int .i64 y.stamp, .bool y.gone, .int .i64 y.expire, .int .i64 y.val.kind, .string ⟨y.val.text.toArray⟩, yp, yt, yz] ++ []) _ from hv.get 0 rfl) rfl) ?_)
     refine xC s2callable58 rfl ((chainClone _ _ _ y yp yt yz (hvaly.more hBC) hv).mono ?_) rfl
     rintro e w27 ⟨C23, p24, t25, z26, hC23, rfl, hp24, hv⟩
     refine ⟨_, rfl, ?_⟩
     simp only [zP, po]
     refine sl_rowAgg (L := [.int .i64 y.stamp, .bool y.gone, .int .i64 y.expire, .int .i64 y.val.kind, .string ⟨y.val.text.toArray⟩, p24, t25, z26]) tV (wn rfl) rfl rfl hv s22el70 rfl (by decide) (fun b28 w29 hv => ?_)
     replace hv := hv.front 2 rfl
     simp only [List.eraseIdx_cons_succ, List.eraseIdx_cons_zero] at hv
     refine sl_append (news := [.int .i64 y.stamp, .bool y.gone, .int .i64 y.expire, .int .i64 y.val.kind, .string ⟨y.val.text.toArray⟩, p24, t25, z26]) tV (wn rfl) rfl rfl rfl s22el70 hv (ok_full (by omega)) rfl (rd_all (hv.get 1 rfl)) (verCells_one (v := y) hp24) (by unfold maxLen; omega) (by omega) (fun rv30 w33 hv => ?_)
     obtain ⟨ra31, rc32, rfl⟩ := row_slice hv.head
     refine xA (.slice ra31 (k + 1) rc32) rfl (wL ?_)
     simp only [zP, po]
     refine bN (tK k18 ?_)
     refine rL (xG (.int .i64 ((k + 1 : Nat) : Int)) rfl (ex_add rfl rfl rfl (by rw [i64_in (by omega)]; omega)) ?_)
     refine xM (.int .i64 ((k + 1 : Nat) : Int)) rfl (wL ?_)
     simp only [zP, po]
     refine then_normal ?_
     go_roundw
     case rel => exact ⟨k + 1, _, _, _, _, rfl, rfl, (hBC.trans hC23), by omega, (hys.more hC23).next hy hp24, (hv.sub (List.Sublist.cons_cons _ (List.Sublist.cons _ (List.Sublist.cons _ (List.Sublist.refl _)))))⟩
     case measure => show l2.length - (((k + 1 : Nat) : Int)).toNat < l2.length - ((k : Int)).toNat; omega
    refine xG (.bool false) rfl (ex_lss rfl rfl rfl (decide_eq_false hb16)) ?_
    simp only [zP, po]
    refine wK k15 (sK fun _ k34 => ?_)
    refine cF rfl (xE ?_)
    refine tX (tX ?_)
    refine bH (tK k12 ?_)
    refine sK fun _ k35 => rL (xM (.slice ra k rc) rfl ?_)
    refine xA (.slice ra k rc) rfl ?_
    simp only [zP, po]
    refine wK k35 (rR ?_)
    refine bR rfl rfl ?_
    obtain rfl : k = l2.length := by omega
    rw [List.take_length] at hys
    obtain ⟨D, hCD, hv, hrD, hokD, -⟩ := (hv).rowBy
    exact ⟨D, _, n, hBC.trans hCD, rfl, hn, by rw [← hl2]; exact ⟨ra, rc, ys, rfl, hokD, hrD, hys.more hCD⟩, hv⟩
  refine kS (tK k4 ?_)
  refine sK fun _ k36 => ?_
  have hn : PruneN l mark clock i := ⟨i, hu, .inr ⟨rfl, fun k y hk hy => by rw [show k = j by omega, hx] at hy; cases hy; exact hc8⟩⟩
  obtain ⟨n, hne⟩ : ∃ n, n = i := ⟨_, rfl⟩
  rw [← hne] at hn
  have hnl := hn.le
  obtain ⟨l2, hl2⟩ : ∃ l2, l2 = l.drop n := ⟨_, rfl⟩
  have hl2l : l2.length = l.length - n := by rw [hl2, List.length_drop]
  clear hvalx hrdx
  obtain ⟨a2, ha2, hr2⟩ := sliced_rdV 8 hr hxs.len hok.le hnl (by decide)
  rw [← hl2l] at ha2
  have hxs2 : VersAt B l2 (xs.drop (n * 8)) := by rw [hl2]; exact hxs.drop n
  rw [hne] at ha2
  refine rL (xM (.slice (some ⟨bb, bo, none⟩) l.length c) rfl ?_)
  refine xG (.int .i64 (l.length : Int)) rfl (ex_len0 Tryz.underlying70 rfl rfl) (xM (.int .i64 (i : Int)) rfl ?_)
  simp only [zP, po]
  refine xG (.int .i64 ((l.length - i : Nat) : Int)) rfl (ex_sub rfl rfl rfl (by rw [i64_in (by omega)]; omega)) (sl_makeRow (cap := (l.length - i : Nat)) tV (wn rfl) rfl rfl rfl s22el70 (by unfold maxLen; omega) (by omega) hv (fun b37 w38 hv => ?_))
  refine xA (.slice (some ⟨b37, 0, none⟩) 0 (l.length - i : Nat)) rfl ?_
  simp only [zP, po]
  refine wK k36 (sK fun _ k39 => ?_)
  refine sK fun _ k40 => rL (xM (.slice (some ⟨bb, bo, none⟩) l.length c) rfl ?_)
  refine xM (.int .i64 (i : Int)) rfl (xG (.slice a2 l2.length (c - i)) rfl (ex_slice (lo' := some (.int .i64 (i : Int))) rfl rfl (congrArg some rfl) rfl rfl ((run_fromAny Tryz.underlying70 s1es70 (by omega)).trans (by rw [ha2]))) ?_)
  simp only [zP, po]
  refine xG (.int .i64 (l2.length : Int)) rfl (ex_len0 Tryz.underlying70 rfl rfl) (xM (.int .i64 0) rfl ?_)
  simp only [zP, po]
  refine wK k40 (bB ?_)
  gi_loopw [8, 36] (fun x8 x36 wr => ∃ (k : Nat) (C : Base) (ra : Option Addr) (rc : Nat) (ys : List Value), x8 = .slice ra k rc ∧ x36 = .int .i64 (k : Int) ∧ B.Le C ∧ k ≤ l2.length ∧ VersAt C (l2.take k) ys ∧ Inv C (Res.row 55 8 (.slice ra k rc) k ys :: H) wr) (fun x8 x36 _ => l2.length - (intOf x36).toNat)
  case atStart => exact ⟨0, B, _, _, [], rfl, rfl, Base.Le.refl _, Nat.zero_le _, rfl, hv⟩
  case round =>
   obtain ⟨k, C, ra, rc, ys, rfl, rfl, hBC, hk, hys, hv⟩ := hrel
   refine sK fun _ k42 => rL ?_
   by_cases hb43 : (k : Int) < (l2.length : Int)
   ·refine xG (.bool true) rfl (ex_lss rfl rfl rfl (decide_eq_true hb43)) ?_
    simp only [zP, po]
    refine wK k42 (sK fun _ k44 => ?_)
    refine cT rfl (kS ?_)
    refine tK k44 (sK fun _ k45 => ?_)
    refine bB (sK fun _ k46 => ?_)
    obtain ⟨y, hy⟩ : ∃ x, l2[k]? = some x := ⟨_, List.getElem?_eq_getElem (show k < l2.length by omega)⟩
    obtain ⟨b2, o2, yp, yt, yz, had, hvaly, hrdy⟩ := VersAt.reads hxs2 hr2 hy
    subst had
    refine rL (xG (.pointer (some ⟨b2, o2 + k * 8, none⟩)) rfl (ex_index rfl rfl rfl (run_idx (k := k) Tryz.underlying70 s1es70 (by omega))) ?_)
    refine xL (.agg #[.int .i64 y.stamp, .bool y.gone, .int .i64 y.expire, .int .i64 y.val.kind, .string ⟨y.val.text.toArray⟩, yp, yt, yz]) rfl (run_loadR (cs := [.int .i64 y.stamp, .bool y.gone, .int .i64 y.expire, .int .i64 y.val.kind, .string ⟨y.val.text.toArray⟩, yp, yt, yz]) s1wd55 (Reads.mid (pre := []) (mid := [.int .i64 y.stamp, .bool y.gone, .int .i64 y.expire, .int .i64 y.val.kind, .string ⟨y.val.text.toArray⟩, yp, yt, yz]) (post := []) hrdy _ _ _ hBC no_res hv)) (sl_alloc tV (wn rfl) rfl hv s22al55 (fun b47 w48 hv => ?_))
    simp only [zP, po]
    refine xS 0 rfl hv s1sz55 rfl (by exact ⟨rfl, rfl, rfl, rfl, rfl, hvaly.p.one, hvaly.t.one, hvaly.z.one, trivial⟩) (fun w49 hv => ?_)
    simp only [zO, sp] at hv
    simp only [zP, po]
    refine wK k46 (rL ?_)
    refine xM (.slice ra k rc) rfl (xL (.agg #[.int .i64 y.stamp, .bool y.gone, .int .i64 y.expire, .int .i64 y.val.kind, .string ⟨y.val.text.toArray⟩, yp, yt, yz]) rfl (run_load_mid (pre := []) (mid := [.int .i64 y.stamp, .bool y.gone, .int .i64 y.expire, .int .i64 y.val.kind, .string ⟨y.val.text.toArray⟩, yp, yt, yz]) (post := []) s1wd55 (show Blk _ b47 ([] ++ [.int .i64 y.stamp, .bool y.gone, .int .i64 y.expire, .int .i64 y.val.kind, .string ⟨y.val.text.toArray⟩, yp, yt, yz] ++ []) _ from hv.get 0 rfl) rfl) ?_)
    refine xC s2callable58 rfl ((chainClone _ _ _ y yp yt yz (hvaly.more hBC) hv).mono ?_) rfl
    rintro e w54 ⟨C50, p51, t52, z53, hC50, rfl, hp51, hv⟩
    refine ⟨_, rfl, ?_⟩
    simp only [zP, po]
    refine sl_rowAgg (L := [.int .i64 y.stamp, .bool y.gone, .int .i64 y.expire, .int .i64 y.val.kind, .string ⟨y.val.text.toArray⟩, p51, t52, z53]) tV (wn rfl) rfl rfl hv s22el70 rfl (by decide) (fun b55 w56 hv => ?_)
    replace hv := hv.front 2 rfl
    simp only [List.eraseIdx_cons_succ, List.eraseIdx_cons_zero] at hv
    refine sl_append (news := [.int .i64 y.stamp, .bool y.gone, .int .i64 y.expire, .int .i64 y.val.kind, .string ⟨y.val.text.toArray⟩, p51, t52, z53]) tV (wn rfl) rfl rfl rfl s22el70 hv (ok_full (by omega)) rfl (rd_all (hv.get 1 rfl)) (verCells_one (v := y) hp51) (by unfold maxLen; omega) (by omega) (fun rv57 w60 hv => ?_)
    obtain ⟨ra58, rc59, rfl⟩ := row_slice hv.head
    refine xA (.slice ra58 (k + 1) rc59) rfl (wL ?_)
    simp only [zP, po]
    refine bN (tK k45 ?_)
    refine rL (xG (.int .i64 ((k + 1 : Nat) : Int)) rfl (ex_add rfl rfl rfl (by rw [i64_in (by omega)]; omega)) ?_)
    refine xM (.int .i64 ((k + 1 : Nat) : Int)) rfl (wL ?_)
    simp only [zP, po]
    refine then_normal ?_
    go_roundw
    case rel => exact ⟨k + 1, _, _, _, _, rfl, rfl, (hBC.trans hC50), by omega, (hys.more hC50).next hy hp51, (hv.sub (List.Sublist.cons_cons _ (List.Sublist.cons _ (List.Sublist.cons _ (List.Sublist.refl _)))))⟩
    case measure => show l2.length - (((k + 1 : Nat) : Int)).toNat < l2.length - ((k : Int)).toNat; omega
   refine xG (.bool false) rfl (ex_lss rfl rfl rfl (decide_eq_false hb43)) ?_
   simp only [zP, po]
   refine wK k42 (sK fun _ k61 => ?_)
   refine cF rfl (xE ?_)
   refine tX (tX ?_)
   refine bH (tK k39 ?_)
   refine sK fun _ k62 => rL (xM (.slice ra k rc) rfl ?_)
   refine xA (.slice ra k rc) rfl ?_
   simp only [zP, po]
   refine wK k62 (rR ?_)
   refine bR rfl rfl ?_
   obtain rfl : k = l2.length := by omega
   rw [List.take_length] at hys
   obtain ⟨D, hCD, hv, hrD, hokD, -⟩ := (hv).rowBy
   exact ⟨D, _, n, hBC.trans hCD, rfl, hn, by rw [← hl2]; exact ⟨ra, rc, ys, rfl, hokD, hrD, hys.more hCD⟩, hv⟩
 refine xG (.bool false) rfl (ex_gtr rfl rfl rfl (decide_eq_false hb6)) (xM (.bool false) rfl ?_)
 simp only [zP, po]
 iterate 7 refine yN rfl ?_
 refine xK false (.bool false) rfl ?_
 simp only [zP, po]
 refine wK k5 (cF rfl ?_)
 refine kS (tK k4 ?_)
 refine sK fun _ k63 => ?_
 have hn : PruneN l mark clock i := ⟨i, hu, .inr ⟨rfl, fun k y hk hy => by omega⟩⟩
 obtain ⟨n, hne⟩ : ∃ n, n = i := ⟨_, rfl⟩
 rw [← hne] at hn
 have hnl := hn.le
 obtain ⟨l2, hl2⟩ : ∃ l2, l2 = l.drop n := ⟨_, rfl⟩
 have hl2l : l2.length = l.length - n := by rw [hl2, List.length_drop]
 obtain ⟨a2, ha2, hr2⟩ := sliced_rdV 8 hr hxs.len hok.le hnl (by decide)
 rw [← hl2l] at ha2
 have hxs2 : VersAt B l2 (xs.drop (n * 8)) := by rw [hl2]; exact hxs.drop n
 rw [hne] at ha2
 refine rL (xM (.slice ad l.length c) rfl ?_)
 refine xG (.int .i64 (l.length : Int)) rfl (ex_len0 Tryz.underlying70 rfl rfl) (xM (.int .i64 (i : Int)) rfl ?_)
 simp only [zP, po]
 refine xG (.int .i64 ((l.length - i : Nat) : Int)) rfl (ex_sub rfl rfl rfl (by rw [i64_in (by omega)]; omega)) (sl_makeRow (cap := (l.length - i : Nat)) tV (wn rfl) rfl rfl rfl s22el70 (by unfold maxLen; omega) (by omega) hv (fun b64 w65 hv => ?_))
 refine xA (.slice (some ⟨b64, 0, none⟩) 0 (l.length - i : Nat)) rfl ?_
 simp only [zP, po]
 refine wK k63 (sK fun _ k66 => ?_)
 refine sK fun _ k67 => rL (xM (.slice ad l.length c) rfl ?_)
 refine xM (.int .i64 (i : Int)) rfl (xG (.slice a2 l2.length (c - i)) rfl (ex_slice (lo' := some (.int .i64 (i : Int))) rfl rfl (congrArg some rfl) rfl rfl ((run_fromAny Tryz.underlying70 s1es70 (by omega)).trans (by rw [ha2]))) ?_)
 simp only [zP, po]
 refine xG (.int .i64 (l2.length : Int)) rfl (ex_len0 Tryz.underlying70 rfl rfl) (xM (.int .i64 0) rfl ?_)
 simp only [zP, po]
 refine wK k67 (bB ?_)
 gi_loopw [8, 36] (fun x8 x36 wr => ∃ (k : Nat) (C : Base) (ra : Option Addr) (rc : Nat) (ys : List Value), x8 = .slice ra k rc ∧ x36 = .int .i64 (k : Int) ∧ B.Le C ∧ k ≤ l2.length ∧ VersAt C (l2.take k) ys ∧ Inv C (Res.row 55 8 (.slice ra k rc) k ys :: H) wr) (fun x8 x36 _ => l2.length - (intOf x36).toNat)
 case atStart => exact ⟨0, B, _, _, [], rfl, rfl, Base.Le.refl _, Nat.zero_le _, rfl, hv⟩
 case round =>
  obtain ⟨k, C, ra, rc, ys, rfl, rfl, hBC, hk, hys, hv⟩ := hrel
  refine sK fun _ k69 => rL ?_
  by_cases hb70 : (k : Int) < (l2.length : Int)
  ·refine xG (.bool true) rfl (ex_lss rfl rfl rfl (decide_eq_true hb70)) ?_
   simp only [zP, po]
   refine wK k69 (sK fun _ k71 => ?_)
   refine cT rfl (kS ?_)
   refine tK k71 (sK fun _ k72 => ?_)
   refine bB (sK fun _ k73 => ?_)
   obtain ⟨y, hy⟩ : ∃ x, l2[k]? = some x := ⟨_, List.getElem?_eq_getElem (show k < l2.length by omega)⟩
   obtain ⟨b2, o2, yp, yt, yz, had, hvaly, hrdy⟩ := VersAt.reads hxs2 hr2 hy
   subst had
   refine rL (xG (.pointer (some ⟨b2, o2 + k * 8, none⟩)) rfl (ex_index rfl rfl rfl (run_idx (k := k) Tryz.underlying70 s1es70 (by omega))) ?_)
   refine xL (.agg #[.int .i64 y.stamp, .bool y.gone, .int .i64 y.expire, .int .i64 y.val.kind, .string ⟨y.val.text.toArray⟩, yp, yt, yz]) rfl (run_loadR (cs := [.int .i64 y.stamp, .bool y.gone, .int .i64 y.expire, .int .i64 y.val.kind, .string ⟨y.val.text.toArray⟩, yp, yt, yz]) s1wd55 (Reads.mid (pre := []) (mid := [.int .i64 y.stamp, .bool y.gone, .int .i64 y.expire, .int .i64 y.val.kind, .string ⟨y.val.text.toArray⟩, yp, yt, yz]) (post := []) hrdy _ _ _ hBC no_res hv)) (sl_alloc tV (wn rfl) rfl hv s22al55 (fun b74 w75 hv => ?_))
   simp only [zP, po]
   refine xS 0 rfl hv s1sz55 rfl (by exact ⟨rfl, rfl, rfl, rfl, rfl, hvaly.p.one, hvaly.t.one, hvaly.z.one, trivial⟩) (fun w76 hv => ?_)
   simp only [zO, sp] at hv
   simp only [zP, po]
   refine wK k73 (rL ?_)
   refine xM (.slice ra k rc) rfl (xL (.agg #[.int .i64 y.stamp, .bool y.gone, .int .i64 y.expire, .int .i64 y.val.kind, .string ⟨y.val.text.toArray⟩, yp, yt, yz]) rfl (run_load_mid (pre := []) (mid := [.int .i64 y.stamp, .bool y.gone, .int .i64 y.expire, .int .i64 y.val.kind, .string ⟨y.val.text.toArray⟩, yp, yt, yz]) (post := []) s1wd55 (show Blk _ b74 ([] ++ [.int .i64 y.stamp, .bool y.gone, .int .i64 y.expire, .int .i64 y.val.kind, .string ⟨y.val.text.toArray⟩, yp, yt, yz] ++ []) _ from hv.get 0 rfl) rfl) ?_)
   refine xC s2callable58 rfl ((chainClone _ _ _ y yp yt yz (hvaly.more hBC) hv).mono ?_) rfl
   rintro e w81 ⟨C77, p78, t79, z80, hC77, rfl, hp78, hv⟩
   refine ⟨_, rfl, ?_⟩
   simp only [zP, po]
   refine sl_rowAgg (L := [.int .i64 y.stamp, .bool y.gone, .int .i64 y.expire, .int .i64 y.val.kind, .string ⟨y.val.text.toArray⟩, p78, t79, z80]) tV (wn rfl) rfl rfl hv s22el70 rfl (by decide) (fun b82 w83 hv => ?_)
   replace hv := hv.front 2 rfl
   simp only [List.eraseIdx_cons_succ, List.eraseIdx_cons_zero] at hv
   refine sl_append (news := [.int .i64 y.stamp, .bool y.gone, .int .i64 y.expire, .int .i64 y.val.kind, .string ⟨y.val.text.toArray⟩, p78, t79, z80]) tV (wn rfl) rfl rfl rfl s22el70 hv (ok_full (by omega)) rfl (rd_all (hv.get 1 rfl)) (verCells_one (v := y) hp78) (by unfold maxLen; omega) (by omega) (fun rv84 w87 hv => ?_)
   obtain ⟨ra85, rc86, rfl⟩ := row_slice hv.head
   refine xA (.slice ra85 (k + 1) rc86) rfl (wL ?_)
   simp only [zP, po]
   refine bN (tK k72 ?_)
   refine rL (xG (.int .i64 ((k + 1 : Nat) : Int)) rfl (ex_add rfl rfl rfl (by rw [i64_in (by omega)]; omega)) ?_)
   refine xM (.int .i64 ((k + 1 : Nat) : Int)) rfl (wL ?_)
   simp only [zP, po]
   refine then_normal ?_
   go_roundw
   case rel => exact ⟨k + 1, _, _, _, _, rfl, rfl, (hBC.trans hC77), by omega, (hys.more hC77).next hy hp78, (hv.sub (List.Sublist.cons_cons _ (List.Sublist.cons _ (List.Sublist.cons _ (List.Sublist.refl _)))))⟩
   case measure => show l2.length - (((k + 1 : Nat) : Int)).toNat < l2.length - ((k : Int)).toNat; omega
  refine xG (.bool false) rfl (ex_lss rfl rfl rfl (decide_eq_false hb70)) ?_
  simp only [zP, po]
  refine wK k69 (sK fun _ k88 => ?_)
  refine cF rfl (xE ?_)
  refine tX (tX ?_)
  refine bH (tK k66 ?_)
  refine sK fun _ k89 => rL (xM (.slice ra k rc) rfl ?_)
  refine xA (.slice ra k rc) rfl ?_
  simp only [zP, po]
  refine wK k89 (rR ?_)
  refine bR rfl rfl ?_
  obtain rfl : k = l2.length := by omega
  rw [List.take_length] at hys
  obtain ⟨D, hCD, hv, hrD, hokD, -⟩ := (hv).rowBy
  exact ⟨D, _, n, hBC.trans hCD, rfl, hn, by rw [← hl2]; exact ⟨ra, rc, ys, rfl, hokD, hrD, hys.more hCD⟩, hv⟩
theorem chainPruneX (B : Base) (H : List Res) (w : World) (v : Value) (mark clock : Int) (l : List Ver) (h : ChainB B v l) (hm : l.length ≤ 100000) (hv : Inv B H w) : Calls Tryz.prog 29 #[v, .int .i64 mark, .int .i64 clock] w fun e w' => ∃ C v' n, B.Le C ∧ e = .returned v' ∧ PruneN l mark clock n ∧ ChainB C v' (l.drop n) ∧ Inv C H w' := by
 obtain ⟨ad, c, xs, rfl, hok, hr, hxs⟩ := h
 exact chainPrune B H w ad c mark clock xs l hok hr hxs hm hv
end Go.Proofs.YtffmbdagjpdieaaGreat
/- Scopes out of which no jump goes. -/
namespace Go.Pm
section
variable {P : Program} {Q : Exit → Act → World → Prop} {a : Act} {w : World} {n : Nat} {c : Code}
theorem wpIn_scopeW (h : c.wpIn Fence.wide n P (Exit.noGoto Q) a w) : (Code.scope c).wpIn Fence.wide n P Q a w := wpIn_wide.2 (wp_scope_straight (wpIn_wide.1 h))
theorem scope_ret (h : Q .ret a w) : Exit.noGoto Q .ret a w := h
end
section
variable {P : Program} {a : Act} {w : World} {o : Oper} {t u : TypeId} {x y : Operand}
theorem ex_beqS {p q b : Bool} (ht : P.underlying t = some .bool) (ho : o.op = .binOp .eql t x y u) (hx : a.eval x = .bool p) (hy : a.eval y = .bool q) (hb : (p == q) = b) : Ex P a o w (.bool b) w := by
 subst hb
 have he : (Op.equal t (.bool p) (.bool q)).run P w = .ok (p == q) w := run_equal_bool w t p q ht
 unfold Ex; simp [execOp, ho, hx, hy, eqGuard, binOp, he]
end
end Go.Pm
/- index.Keys. -/
namespace Go.Proofs.YtffmbdagjpdieaaGreat
open Go.RowKit Go.Pm
theorem find_nil {X : List (List Ent)} {i j : Nat} {ok : Bool} (h : FindI X [] i j ok) : i = 0 ∧ j = 0 := by
 have hl : ∀ a : List UInt8, Op.bytesLess a [] = false := by intro a; cases a <;> rfl
 constructor
 ·cases i with
  | zero => rfl
  | succ k =>
   exfalso
   obtain ⟨es, hes⟩ : ∃ es, X[k]? = some es := ⟨_, List.getElem?_eq_getElem (by have := h.le; omega)⟩
   obtain ⟨la, -, h2⟩ := h.lo k es rfl hes
   rw [hl] at h2; cases h2
 rcases Nat.lt_or_ge i X.length with hi | hi
 ·obtain ⟨es, hes⟩ : ∃ es, X[i]? = some es := ⟨_, List.getElem?_eq_getElem hi⟩
  obtain ⟨e, he, -, -, h3⟩ := h.at_ es hes
  cases j with
  | zero => rfl
  | succ k =>
   exfalso
   obtain ⟨f, hf⟩ : ∃ f, es[k]? = some f := ⟨_, List.getElem?_eq_getElem (by have := (List.getElem?_eq_some_iff.1 he).1; omega)⟩
   have h2 := h3 k f rfl hf
   rw [hl] at h2; cases h2
 exact (h.out (by have := h.le; omega)).1
def keyCells (l : List Ent) : List Value := textCells (l.map (·.1))
theorem keyCells_append (l r : List Ent) : keyCells (l ++ r) = keyCells l ++ keyCells r := by simp [keyCells, textCells]
theorem keyCells_next {l : List Ent} {m : Nat} {f : Ent} (pre : List Ent) (h : l[m]? = some f) : keyCells (pre ++ l.take (m + 1)) = keyCells (pre ++ l.take m) ++ [strV f.1] := by
 rw [take_next h, ← List.append_assoc, keyCells_append]; rfl
theorem flat_next {X : List (List Ent)} {i : Nat} {es : List Ent} (h : X[i]? = some es) : (X.take (i + 1)).flatten = (X.take i).flatten ++ es := by
 rw [take_next h]; simp
theorem flat_le (X : List (List Ent)) (i : Nat) : (X.take i).flatten.length ≤ X.flatten.length := by
 conv => rhs; rw [← List.take_append_drop i X, List.flatten_append, List.length_append]
 omega
theorem mods_mem0 {B : Base} {l : List Ent} {M : Model} (h : Mods B l M) {e : Ent} (he : e ∈ l) : ∃ m, m ∈ M ∧ e.1 = m.1 ∧ ChainB B e.2 m.2 := by
 obtain ⟨k, hk⟩ := List.mem_iff_getElem?.1 he
 obtain ⟨m, h1, h2, h3⟩ := h.get hk
 exact ⟨m, List.mem_of_getElem? h1, h2, h3⟩
theorem s23wd100 : Wide Tryz.prog 100 2 := wide_of (fun w => by kernel_rfl) (by kernel_rfl)
theorem s23al100 (w : World) : (Instr.alloc 100 true (.tuple #[])).run Tryz.prog w = .ok (.pointer (some ⟨w.heap.size, 0, none⟩)) (w.alloc (.cells ([.string ⟨([] : List UInt8).toArray⟩, .slice none 0 0] : List Value).toArray 100)) := by kernel_rfl
theorem s23sz100 : (Tryz.prog.info? 100).map (·.size) = some 2 := by kernel_rfl
theorem s23mk9 : (Tryz.prog.info? 9).map (fun i => (i.zero, i.size, i.bytes)) = some (some (.string ⟨([] : List UInt8).toArray⟩), 1, 16) := by kernel_rfl
theorem s23el27 : Elem Tryz.prog 27 9 (.string ⟨([] : List UInt8).toArray⟩) 1 16 := elem_of Tryz.underlying27 s23mk9 (by rfl) (by decide)
set_option maxHeartbeats 4000000 in
theorem ixKeys0 (B : Base) (H : List Res) (w : World) (p : Nat) (n : Int) (X : List (List Ent)) (ad : Option Addr) (c : Nat) (bvs : List Value) (R : List Res) (hRH : ∀ r ∈ R, r ∈ H) (hp : Reads B R p 0 [.slice ad X.length c, .int .i64 n]) (hr : RdW B R ad bvs) (hbv : BlksAt B R X bvs) (M : Model) (hx : IxM B X M) (hv : Inv B H w) :
  Calls Tryz.prog 27 #[.pointer (some ⟨p, 0, none⟩), .string ⟨([] : List UInt8).toArray⟩, .int .i64 0] w fun e w' => ∃ ra rc, e = .returned (.slice ra M.length rc) ∧ Inv B (Res.row 9 1 (.slice ra M.length rc) M.length (textCells (keysM M)) :: H) w' := by
 refine cW Tryz.func27 rfl Tryz.ntmps27 ?_
 simp only [al]
 refine sK fun _ k1 => rL (xA (.slice none 0 0) rfl ?_)
 simp only [zP, po]
 refine wK k1 (wpIn_scopeW ?_)
 refine sK fun _ k2 => rL (xM (.pointer (some ⟨p, 0, none⟩)) rfl ?_)
 refine xM (.string ⟨([] : List UInt8).toArray⟩) rfl (xC s3callable51 rfl ((ixFind B _ _ p n X ad c bvs [] R hRH hp hr hbv hx.ok hv).mono ?_) rfl)
 rintro e w3 ⟨i0, j0, ok0, hfi, rfl, hv⟩
 refine ⟨_, rfl, ?_⟩
 obtain ⟨rfl, rfl⟩ := find_nil hfi
 simp only [zP, po]
 refine xM (.tuple #[.int .i64 ((0 : Nat) : Int), .int .i64 ((0 : Nat) : Int), .bool ok0]) rfl (xG (.int .i64 ((0 : Nat) : Int)) rfl (ex_extract rfl rfl rfl) ?_)
 refine xG (.int .i64 ((0 : Nat) : Int)) rfl (ex_extract rfl rfl rfl) ?_
 simp only [zP, po]
 refine xG (.bool ok0) rfl (ex_extract rfl rfl rfl) (xA (.int .i64 ((0 : Nat) : Int)) rfl ?_)
 refine xA (.int .i64 ((0 : Nat) : Int)) rfl ?_
 simp only [zP, po]
 refine xA (.bool ok0) rfl ?_
 simp only [zP, po]
 refine wK k2 (sK fun _ k4 => ?_)
 refine rL (xA (.slice none 0 0) rfl ?_)
 simp only [zP, po]
 refine wK k4 (sK fun _ k5 => ?_)
 refine wpIn_label (tK k5 ?_)
 refine sK fun _ k6 => bB ?_
 gi_loopw [7, 8, 10] (fun x7 x8 x10 wr => ∃ (i n1 : Nat) (ra : Option Addr) (rc : Nat), x7 = .int .i64 (i : Int) ∧ x8 = .int .i64 ((0 : Nat) : Int) ∧ x10 = .slice ra n1 rc ∧ i ≤ X.length ∧ n1 = (X.take i).flatten.length ∧ Inv B (Res.row 9 1 (.slice ra n1 rc) n1 (keyCells (X.take i).flatten) :: H) wr) (fun x7 x8 x10 _ => X.length - (intOf x7).toNat)
 case atStart => exact ⟨0, 0, none, 0, rfl, rfl, rfl, Nat.zero_le _, rfl, hv.rowNil 9 1⟩
 case round =>
  obtain ⟨i, n1, ra, rc, rfl, rfl, rfl, hi, hn1, hv⟩ := hrel
  have hn1b := flat_le X i
  have hfl := hx.mo.len
  have hMs := hx.sm
  have hXl := hx.ok.lenX
  refine sK fun _ k8 => sK fun _ k9 => rL (xM (.int .i64 (i : Int)) rfl ?_)
  refine xM (.pointer (some ⟨p, 0, none⟩)) rfl (xG (.pointer (some ⟨p, 0, none⟩)) rfl (ex_nil rfl rfl) ?_)
  simp only [zP, po]
  refine xF (.pointer (some ⟨p, 0, none⟩)) rfl (s3fa89_0 _ _ _) (xL _ rfl (run_load1 s3na87 (hp _ _ _ (Base.Le.refl _) (fun r9 hr9 => (List.mem_cons_of_mem _ (hRH r9 hr9))) hv 0 _ rfl)) ?_)
  refine xG (.int .i64 (X.length : Int)) rfl (ex_len0 Tryz.underlying87 rfl rfl) ?_
  simp only [zP, po]
  by_cases hb10 : (i : Int) < (X.length : Int)
  ·refine xG (.bool true) rfl (ex_lss rfl rfl rfl (decide_eq_true hb10)) ?_
   simp only [zP, po]
   refine wK k9 (cT rfl ?_)
   refine kS (tK k8 ?_)
   refine sK fun _ k11 => bB (sK fun _ k12 => ?_)
   refine sK fun _ k13 => ?_
   obtain ⟨es, hes⟩ : ∃ es, X[i]? = some es := ⟨_, List.getElem?_eq_getElem (show i < X.length by omega)⟩
   have hfl2 := flat_le X (i + 1)
   rw [flat_next hes, List.length_append] at hfl2
   obtain ⟨ead, ec, hbve, hoke, hree⟩ := hbv.2 _ _ hes
   obtain ⟨bb, bo, had, hrb⟩ := row1_reads hr hbve
   subst had
   obtain ⟨a2, ha2, hre2⟩ := sliced_rdW 2 hree (entCells_len es) hoke.le (Nat.zero_le _) (by decide)
   rw [Nat.zero_mul, List.drop_zero] at hre2
   rw [Nat.sub_zero, Nat.sub_zero] at ha2
   refine rL (xM (.pointer (some ⟨p, 0, none⟩)) rfl ?_)
   refine xG (.pointer (some ⟨p, 0, none⟩)) rfl (ex_nil rfl rfl) (xF (.pointer (some ⟨p, 0, none⟩)) rfl (s3fa89_0 _ _ _) ?_)
   simp only [zP, po]
   refine xL _ rfl (run_load1 s3na87 (hp _ _ _ (Base.Le.refl _) (fun r9 hr9 => (List.mem_cons_of_mem _ (hRH r9 hr9))) hv 0 _ rfl)) (xM (.int .i64 (i : Int)) rfl ?_)
   refine xG (.pointer (some ⟨bb, bo + i, none⟩)) rfl (ex_index rfl rfl rfl (run_idx1 (k := i) Tryz.underlying87 s3es87 (by omega))) ?_
   simp only [zP, po]
   refine xL _ rfl (run_load1 s3na101 (hrb _ _ _ (Base.Le.refl _) (fun r9 hr9 => (List.mem_cons_of_mem _ (hRH r9 hr9))) hv 0 _ rfl)) (xM (.int .i64 ((0 : Nat) : Int)) rfl ?_)
   refine xG (.slice a2 es.length ec) rfl (ex_slice (lo' := some (.int .i64 ((0 : Nat) : Int))) rfl rfl (congrArg some rfl) rfl rfl ((run_fromAny (l := 0) Tryz.underlying101 s3es101 (by omega)).trans (by rw [ha2]))) ?_
   simp only [zP, po]
   refine xG (.int .i64 (es.length : Int)) rfl (ex_len0 Tryz.underlying101 rfl rfl) (xM (.int .i64 0) rfl ?_)
   simp only [zP, po]
   refine wK k13 (bB ?_)
   gi_loopw [39, 10] (fun x39 x10 wr => ∃ (m : Nat) (ra : Option Addr) (rc : Nat), x39 = .int .i64 (m : Int) ∧ x10 = .slice ra (n1 + m) rc ∧ m ≤ es.length ∧ Inv B (Res.row 9 1 (.slice ra (n1 + m) rc) (n1 + m) (keyCells ((X.take i).flatten ++ es.take m)) :: H) wr) (fun x39 x10 _ => es.length - (intOf x39).toNat)
   case atStart => exact ⟨0, _, _, rfl, rfl, Nat.zero_le _, by rw [List.take_zero, List.append_nil]; exact hv⟩
   case round =>
    obtain ⟨m, ra, rc, rfl, rfl, hm, hv⟩ := hrel
    refine sK fun _ k15 => rL ?_
    by_cases hb16 : (m : Int) < (es.length : Int)
    ·refine xG (.bool true) rfl (ex_lss rfl rfl rfl (decide_eq_true hb16)) ?_
     simp only [zP, po]
     refine wK k15 (sK fun _ k17 => ?_)
     refine cT rfl (kS ?_)
     refine tK k17 (sK fun _ k18 => ?_)
     refine bB (sK fun _ k19 => ?_)
     obtain ⟨f, hf⟩ : ∃ f, es[m]? = some f := ⟨_, List.getElem?_eq_getElem (show m < es.length by omega)⟩
     obtain ⟨eb, eo, had2, hrdb⟩ := ent_reads hre2 hf
     subst had2
     obtain ⟨mm, -, -, hch⟩ := mods_mem0 hx.mo (List.mem_flatten.2 ⟨es, List.mem_of_getElem? hes, List.mem_of_getElem? hf⟩)
     refine rL (xG (.pointer (some ⟨eb, eo + m * 2, none⟩)) rfl (ex_index rfl rfl rfl (run_idx (k := m) Tryz.underlying101 s3es101 (by omega))) ?_)
     refine xL (.agg #[.string ⟨f.1.toArray⟩, f.2]) rfl (run_loadR (cs := [.string ⟨f.1.toArray⟩, f.2]) s23wd100 (Reads.mid (pre := []) (mid := [.string ⟨f.1.toArray⟩, f.2]) (post := []) hrdb _ _ _ (Base.Le.refl _) (fun r9 hr9 => (List.mem_cons_of_mem _ (hRH r9 hr9))) hv)) (sl_alloc tV (wn rfl) rfl hv s23al100 (fun b20 w21 hv => ?_))
     simp only [zP, po]
     refine xS 0 rfl hv s23sz100 rfl (by exact ⟨rfl, hch.one, trivial⟩) (fun w22 hv => ?_)
     simp only [zO, sp] at hv
     simp only [zP, po]
     refine wK k19 (sK fun _ k23 => ?_)
     refine sK fun _ k24 => rL (xM (.int .i64 0) rfl ?_)
     refine xG (.bool false) rfl (ex_geq rfl rfl rfl (by decide)) (xM (.bool false) rfl ?_)
     simp only [zP, po]
     refine yP rfl (yP rfl ?_)
     refine yP rfl ?_
     simp only [zP, po]
     refine yP rfl (xK false (.bool false) rfl ?_)
     simp only [zP, po]
     refine wK k24 (cF rfl ?_)
     refine kS (tK k23 ?_)
     refine rL (xM (.slice ra (n1 + m) rc) rfl ?_)
     refine xF (.pointer (some ⟨b20, 0, none⟩)) rfl (s3fa100_0 _ _ _) (xL _ rfl (run_load1 s3na9 (hv.load 0 0 rfl rfl)) ?_)
     simp only [zP, po]
     refine sl_rowOne (v := .string ⟨f.1.toArray⟩) tV (wn rfl) rfl rfl hv s23el27 rfl (fun b25 w26 hv => ?_)
     replace hv := hv.front 2 rfl
     simp only [List.eraseIdx_cons_succ, List.eraseIdx_cons_zero] at hv
     refine sl_append (news := [.string ⟨f.1.toArray⟩]) tV (wn rfl) rfl rfl rfl s23el27 hv (ok_full (by omega)) rfl (rd_all (hv.get 1 rfl)) (by intro u hu; simp only [List.mem_cons, List.not_mem_nil, or_false] at hu; rcases hu with rfl <;> rfl) (by unfold maxLen; omega) (by omega) (fun rv27 w30 hv => ?_)
     obtain ⟨ra28, rc29, rfl⟩ := row_slice hv.head
     refine xA (.slice ra28 ((n1 + m) + 1) rc29) rfl (wL ?_)
     simp only [zP, po]
     refine bN (tK k18 ?_)
     refine rL (xG (.int .i64 ((m + 1 : Nat) : Int)) rfl (ex_add rfl rfl rfl (by rw [i64_in (by omega)]; omega)) ?_)
     refine xM (.int .i64 ((m + 1 : Nat) : Int)) rfl (wL ?_)
     simp only [zP, po]
     refine then_normal ?_
     go_roundw
     case rel => exact ⟨m + 1, _, _, rfl, rfl, by omega, by rw [keyCells_next _ hf]; exact (hv.sub (List.Sublist.cons_cons _ (List.Sublist.cons _ (List.Sublist.cons _ (List.Sublist.refl _)))))⟩
     case measure => show es.length - (((m + 1 : Nat) : Int)).toNat < es.length - ((m : Int)).toNat; omega
    refine xG (.bool false) rfl (ex_lss rfl rfl rfl (decide_eq_false hb16)) ?_
    simp only [zP, po]
    refine wK k15 (sK fun _ k31 => ?_)
    refine cF rfl (xE ?_)
    refine tX (tX ?_)
    refine bH (tK k12 ?_)
    obtain rfl : m = es.length := by omega
    rw [List.take_length] at hv
    refine rL (xA (.int .i64 0) rfl ?_)
    refine wL ?_
    simp only [zP, po]
    refine bN (tK k11 ?_)
    refine rL (xM (.int .i64 (i : Int)) rfl ?_)
    refine xG (.int .i64 ((i + 1 : Nat) : Int)) rfl (ex_add rfl rfl rfl (by rw [i64_in (by omega)]; omega)) (xA (.int .i64 ((i + 1 : Nat) : Int)) rfl ?_)
    refine wL ?_
    simp only [zP, po]
    refine then_normal ?_
    go_roundw
    case rel => exact ⟨i + 1, n1 + es.length, _, _, rfl, rfl, rfl, by omega, by rw [flat_next hes, List.length_append, hn1], by rw [flat_next hes]; exact hv⟩
    case measure => show X.length - (((i + 1 : Nat) : Int)).toNat < X.length - ((i : Int)).toNat; omega
  refine xG (.bool false) rfl (ex_lss rfl rfl rfl (decide_eq_false hb10)) ?_
  simp only [zP, po]
  refine wK k9 (cF rfl ?_)
  refine xE (tX ?_)
  refine tX (bH ?_)
  refine tK k6 (sK fun _ k32 => ?_)
  refine rL (xM (.slice ra n1 rc) rfl ?_)
  refine xA (.slice ra n1 rc) rfl ?_
  simp only [zP, po]
  refine wK k32 (rR ?_)
  refine scope_ret (bR rfl rfl ?_)
  obtain rfl : i = X.length := by omega
  rw [List.take_length] at hv hn1
  have hk : keyCells X.flatten = textCells (keysM M) := by unfold keyCells; rw [hx.mo.keysEq]
  obtain rfl : n1 = M.length := by omega
  rw [hk] at hv
  exact ⟨_, _, rfl, hv⟩
theorem ixKeys (B : Base) (H : List Res) (w : World) (p : Nat) (v : Value) (X : List (List Ent)) (bvs : List Value) (M : Model) (hx : IxM B X M) (hv : Inv B (ixS 89 101 100 p v (M.length : Int) X bvs :: H) w) : Calls Tryz.prog 27 #[.pointer (some ⟨p, 0, none⟩), .string ⟨([] : List UInt8).toArray⟩, .int .i64 0] w fun e w' => ∃ ra rc, e = .returned (.slice ra M.length rc) ∧ Inv B (Res.row 9 1 (.slice ra M.length rc) M.length (textCells (keysM M)) :: ixS 89 101 100 p v (M.length : Int) X bvs :: H) w' := by
 obtain ⟨ad, c, rfl, hok0, hp, hr, hbv⟩ := ixS_facts hv List.mem_cons_self
 exact ixKeys0 B _ w p _ X ad c bvs _ (fun r hr => by rw [List.mem_singleton.1 hr]; exact List.mem_cons_self) hp hr hbv M hx hv
end Go.Proofs.YtffmbdagjpdieaaGreat
/- store.Prune. -/
namespace Go.Proofs.YtffmbdagjpdieaaGreat
open Go.RowKit Go.Pm
theorem ixSetAny (B : Base) (H : List Res) (w : World) (p : Nat) (v : Value) (X : List (List Ent)) (bvs : List Value) (M : Model) (key : List UInt8) (cv : Value) (l : List Ver) (hx : IxM B X M) (hM : M.length < 100000) (hc : ChainB B cv l) (hl : l.length ≤ 1000) (hv : Inv B (ixS 89 101 100 p v (M.length : Int) X bvs :: H) w) :
  Calls Tryz.prog 23 #[.pointer (some ⟨p, 0, none⟩), .string ⟨key.toArray⟩, cv] w fun e w' => e = .returned (.tuple #[]) ∧ ∃ C v' X' bvs' M', B.Le C ∧ IxM C X' M' ∧ (∀ k, getM M' k = if k = key then l else getM M k) ∧ Inv C (ixS 89 101 100 p v' (M'.length : Int) X' bvs' :: H) w' := by
 by_cases h0 : l = []
 ·subst h0
  obtain ⟨cad, cc, cxs, rfl, -⟩ := hc
  refine (ixDel0 B H w p v X bvs M key cad cc hx hv).mono ?_
  rintro e w' ⟨he, v', X', bvs', M', h1, h2, -, h3⟩
  exact ⟨he, B, v', X', bvs', M', Base.Le.refl _, h1, h2, h3⟩
 refine (ixSet B H w p v X bvs M key cv l hx hM hc h0 hl hv).mono ?_
 rintro e w' ⟨he, C, v', X', bvs', M', h1, h2, h3, -, h4⟩
 exact ⟨he, C, v', X', bvs', M', h1, h2, h3, h4⟩
theorem s25fa65_2 (w : World) (b o : Nat) : (Instr.fieldAt 65 (.pointer (some ⟨b, o, none⟩)) 2).run Tryz.prog w = .ok (.pointer (some ⟨b, o + 2, none⟩)) w := by kernel_rfl
theorem s25callable27 : Callable Tryz.prog 27 := ⟨_, Tryz.func27, by kernel_rfl, by kernel_rfl⟩
theorem s25callable29 : Callable Tryz.prog 29 := ⟨_, Tryz.func29, by kernel_rfl, by kernel_rfl⟩
set_option maxHeartbeats 4000000 in
theorem storePrune (B : Base) (H : List Res) (w : World) (s p : Nat) (v : Value) (X : List (List Ent)) (bvs : List Value) (M : Model) (last mark mk clock : Int) (hx : IxM B X M) (hM : M.length ≤ 90000) (hasc : AscM M) (hv : Inv B (Res.cell s [.pointer (some ⟨p, 0, none⟩), .int .i64 last, .int .i64 mark] 65 :: ixS 89 101 100 p v (M.length : Int) X bvs :: H) w) :
  Calls Tryz.prog 10 #[.pointer (some ⟨s, 0, none⟩), .int .i64 mk, .int .i64 clock] w fun e w' => ∃ C n ec, B.Le C ∧ e = .returned (.tuple #[.int .i64 n, .int .i64 ec]) ∧ ((¬ (mark ≤ mk ∧ mk ≤ last) ∧ n = 0 ∧ ec = 2 ∧ Inv C (Res.cell s [.pointer (some ⟨p, 0, none⟩), .int .i64 last, .int .i64 mark] 65 :: ixS 89 101 100 p v (M.length : Int) X bvs :: H) w') ∨ ((mark ≤ mk ∧ mk ≤ last) ∧ ec = 0 ∧ n = (goneN M mk clock : Int) ∧ ∃ v' X' bvs' M', IxM C X' M' ∧ (∀ k, getM M' k = pruneC (getM M k) mk clock) ∧ Inv C (Res.cell s [.pointer (some ⟨p, 0, none⟩), .int .i64 last, .int .i64 mk] 65 :: ixS 89 101 100 p v' (M'.length : Int) X' bvs' :: H) w')) := by
 refine cW Tryz.func10 rfl Tryz.ntmps10 ?_
 simp only [al]
 refine sK fun _ k1 => rL (xA (.int .i64 0) rfl ?_)
 refine xA (.int .i64 0) rfl ?_
 simp only [zP, po]
 refine wK k1 (sK fun _ k2 => ?_)
 refine sK fun _ k3 => rL (xM (.int .i64 mk) rfl ?_)
 refine xM (.pointer (some ⟨s, 0, none⟩)) rfl (xG (.pointer (some ⟨s, 0, none⟩)) rfl (ex_nil rfl rfl) ?_)
 simp only [zP, po]
 refine xF (.pointer (some ⟨s, 2, none⟩)) rfl (s25fa65_2 _ _ _) (xL _ rfl (run_load1 s2na3 (hv.load 0 2 rfl rfl)) ?_)
 by_cases hb4 : mk < mark
 ·refine xG (.bool true) rfl (ex_lss rfl rfl rfl (decide_eq_true hb4)) ?_
  simp only [zP, po]
  refine xM (.bool true) rfl ?_
  iterate 6 refine yN rfl ?_
  refine xK true (.bool true) rfl ?_
  simp only [zP, po]
  refine wK k3 (cT rfl ?_)
  refine sK fun _ k5 => rL (xA (.int .i64 0) rfl ?_)
  refine xA (.int .i64 2) rfl ?_
  simp only [zP, po]
  refine wK k5 (rR ?_)
  refine tR (bodyPost_ret (results_tmp2 rfl _ _ _) rfl ?_)
  exact ⟨B, 0, 2, Base.Le.refl _, rfl, .inl ⟨by omega, rfl, rfl, ((hv.front 1 rfl).front 1 rfl)⟩⟩
 refine xG (.bool false) rfl (ex_lss rfl rfl rfl (decide_eq_false hb4)) ?_
 simp only [zP, po]
 refine xM (.bool false) rfl (xM (.int .i64 mk) rfl ?_)
 refine xM (.pointer (some ⟨s, 0, none⟩)) rfl ?_
 simp only [zP, po]
 refine xG (.pointer (some ⟨s, 0, none⟩)) rfl (ex_nil rfl rfl) (xF (.pointer (some ⟨s, 1, none⟩)) rfl (s15fa65_1 _ _ _) ?_)
 refine xL _ rfl (run_load1 s2na3 (hv.load 0 1 rfl rfl)) ?_
 simp only [zP, po]
 by_cases hb6 : mk > last
 ·refine xG (.bool true) rfl (ex_gtr rfl rfl rfl (decide_eq_true hb6)) (xK false (.bool true) rfl ?_)
  simp only [zP, po]
  refine wK k3 (cT rfl ?_)
  refine sK fun _ k7 => rL (xA (.int .i64 0) rfl ?_)
  refine xA (.int .i64 2) rfl ?_
  simp only [zP, po]
  refine wK k7 (rR ?_)
  refine tR (bodyPost_ret (results_tmp2 rfl _ _ _) rfl ?_)
  exact ⟨B, 0, 2, Base.Le.refl _, rfl, .inl ⟨by omega, rfl, rfl, ((hv.front 1 rfl).front 1 rfl)⟩⟩
 refine xG (.bool false) rfl (ex_gtr rfl rfl rfl (decide_eq_false hb6)) (xK false (.bool false) rfl ?_)
 simp only [zP, po]
 refine wK k3 (cF rfl ?_)
 refine kS (tK k2 ?_)
 refine sK fun _ k8 => rL (xA (.int .i64 0) rfl ?_)
 simp only [zP, po]
 refine wK k8 (sK fun _ k9 => ?_)
 refine sK fun _ k10 => rL (xM (.pointer (some ⟨s, 0, none⟩)) rfl ?_)
 refine xG (.pointer (some ⟨s, 0, none⟩)) rfl (ex_nil rfl rfl) (xF (.pointer (some ⟨s, 0, none⟩)) rfl (s15fa65_0 _ _ _) ?_)
 simp only [zP, po]
 refine xL _ rfl (run_load1 s3na62 (hv.load 0 0 rfl rfl)) ?_
 replace hv := hv.front 1 rfl
 simp only [List.eraseIdx_cons_succ, List.eraseIdx_cons_zero] at hv
 refine xC s25callable27 rfl ((ixKeys B _ _ p v X bvs M hx hv).mono ?_) rfl
 rintro e w11 ⟨ka, kc, rfl, hv⟩
 refine ⟨_, rfl, ?_⟩
 obtain ⟨K0, hK0, hv7, hrk, -, -⟩ := hv.rowBy
 clear hv
 have hv := hv7
 clear hv7
 refine xG (.int .i64 (M.length : Int)) rfl (ex_len0 Tryz.underlying27 rfl rfl) ?_
 simp only [zP, po]
 refine xM (.int .i64 0) rfl ?_
 simp only [zP, po]
 refine wK k10 (bB ?_)
 gi_loopw [8, 33] (fun x8 x33 wr => ∃ (i gn : Nat) (C : Base) (v' : Value) (X' : List (List Ent)) (bvs' : List Value) (M' : Model), x8 = .int .i64 (gn : Int) ∧ x33 = .int .i64 (i : Int) ∧ K0.Le C ∧ i ≤ M.length ∧ IxM C X' M' ∧ PrI M M' mk clock i ∧ gn = goneN (M.take i) mk clock ∧ gn ≤ 1000 * i ∧ Inv C (Res.cell s [.pointer (some ⟨p, 0, none⟩), .int .i64 last, .int .i64 mark] 65 :: ixS 89 101 100 p v' (M'.length : Int) X' bvs' :: H) wr) (fun x8 x33 _ => M.length - (intOf x33).toNat)
 case atStart => exact ⟨0, 0, K0, v, X, bvs, M, rfl, rfl, Base.Le.refl _, Nat.zero_le _, hx.more hK0, PrI.zero, rfl, Nat.le_refl _, (hv.front 1 rfl)⟩
 case round =>
  obtain ⟨i, gn, C, v', X', bvs', M', rfl, rfl, hKC, hi, hxm, hpr, hgn, hgb, hv⟩ := hrel
  refine sK fun _ k13 => rL ?_
  by_cases hb14 : (i : Int) < (M.length : Int)
  ·refine xG (.bool true) rfl (ex_lss rfl rfl rfl (decide_eq_true hb14)) ?_
   simp only [zP, po]
   refine wK k13 (sK fun _ k15 => ?_)
   refine cT rfl (kS ?_)
   refine tK k15 (sK fun _ k16 => ?_)
   refine bB (sK fun _ k17 => ?_)
   obtain ⟨m, hm⟩ : ∃ m, M[i]? = some m := ⟨_, List.getElem?_eq_getElem (show i < M.length by omega)⟩
   obtain ⟨bb, bo, had, hrd⟩ := text_reads hrk (key_at hm)
   subst had
   have hml0 := hpr.old hx.sorted hm
   have hch := hx.ch m (List.mem_of_getElem? hm)
   have hasm : Asc m.2 := by have := hasc m.1; rw [getM_at hx.sorted (List.mem_of_getElem? hm)] at this; exact this
   have hMl := len_le hx hxm hpr.sub
   refine rL (xG (.pointer (some ⟨bb, bo + i, none⟩)) rfl (ex_index rfl rfl rfl (run_idx1 (k := i) Tryz.underlying27 s9es27 (by omega))) ?_)
   refine xL _ rfl (run_load1 s3na9 (hrd _ _ _ hKC no_res hv 0 _ rfl)) (xA (.string ⟨m.1.toArray⟩) rfl ?_)
   simp only [zP, po]
   refine wK k17 (sK fun _ k18 => ?_)
   refine rL (xM (.pointer (some ⟨s, 0, none⟩)) rfl ?_)
   refine xG (.pointer (some ⟨s, 0, none⟩)) rfl (ex_nil rfl rfl) (xF (.pointer (some ⟨s, 0, none⟩)) rfl (s15fa65_0 _ _ _) ?_)
   simp only [zP, po]
   refine xL _ rfl (run_load1 s3na62 (hv.load 0 0 rfl rfl)) (xM (.string ⟨m.1.toArray⟩) rfl ?_)
   replace hv := hv.front 1 rfl
   simp only [List.eraseIdx_cons_succ, List.eraseIdx_cons_zero] at hv
   refine xC s15callable28 rfl ((ixGetS C _ _ p v' X' bvs' M' m.1 (hxm.more (Base.Le.refl _)) hv).mono ?_) rfl
   rintro e w19 ⟨D, q, hCD, rfl, hQ, hv⟩
   refine ⟨_, rfl, ?_⟩
   obtain ⟨l, hml⟩ : ∃ l, l = m.2 := ⟨_, rfl⟩
   rw [hml0, ← hml] at hQ
   rw [← hml] at hch hasm
   obtain ⟨qa, qc, hqe⟩ := hQ.shape
   subst hqe
   simp only [zP, po]
   refine xA (.slice qa l.length qc) rfl ?_
   simp only [zP, po]
   refine wK k18 (sK fun _ k20 => ?_)
   refine rL (xM (.slice qa l.length qc) rfl ?_)
   refine xM (.int .i64 mk) rfl (xM (.int .i64 clock) rfl ?_)
   simp only [zP, po]
   refine xC s25callable29 rfl ((chainPruneX D _ _ _ mk clock l (hQ.more (Base.Le.refl _)) (by omega) hv).mono ?_) rfl
   rintro e w21 ⟨E, q2, n, hDE, rfl, hpn, hQ2, hv⟩
   refine ⟨_, rfl, ?_⟩
   have hpc := pruneC_of hasm hpn
   obtain ⟨l2, hl2⟩ : ∃ l2, l2 = l.drop n := ⟨_, rfl⟩
   have hl2n : l2.length ≤ l.length := by rw [hl2, List.length_drop]; omega
   rw [← hl2] at hpc hQ2
   obtain ⟨qa2, qc2, hqe2⟩ := hQ2.shape
   subst hqe2
   refine xA (.slice qa2 l2.length qc2) rfl ?_
   simp only [zP, po]
   refine wK k20 (sK fun _ k22 => ?_)
   refine rL (xM (.slice qa2 l2.length qc2) rfl ?_)
   refine xG (.int .i64 (l2.length : Int)) rfl (ex_len0 Tryz.underlying70 rfl rfl) (xM (.slice qa l.length qc) rfl ?_)
   simp only [zP, po]
   refine xG (.int .i64 (l.length : Int)) rfl (ex_len0 Tryz.underlying70 rfl rfl) ?_
   by_cases hb23 : (l2.length : Int) < (l.length : Int)
   ·refine xG (.bool true) rfl (ex_lss rfl rfl rfl (decide_eq_true hb23)) ?_
    simp only [zP, po]
    refine wK k22 (cT rfl ?_)
    refine sK fun _ k24 => rL (xM (.int .i64 (gn : Int)) rfl ?_)
    refine xM (.slice qa l.length qc) rfl (xG (.int .i64 (l.length : Int)) rfl (ex_len0 Tryz.underlying70 rfl rfl) ?_)
    simp only [zP, po]
    refine xM (.slice qa2 l2.length qc2) rfl (xG (.int .i64 (l2.length : Int)) rfl (ex_len0 Tryz.underlying70 rfl rfl) ?_)
    refine xG (.int .i64 ((l.length - l2.length : Nat) : Int)) rfl (ex_sub rfl rfl rfl (by rw [i64_in (by omega)]; omega)) ?_
    simp only [zP, po]
    refine xG (.int .i64 ((gn + (l.length - l2.length) : Nat) : Int)) rfl (ex_add rfl rfl rfl (by rw [i64_in (by omega)]; omega)) (xA (.int .i64 ((gn + (l.length - l2.length) : Nat) : Int)) rfl ?_)
    simp only [zP, po]
    refine wK k24 (rL ?_)
    refine xM (.pointer (some ⟨s, 0, none⟩)) rfl (xG (.pointer (some ⟨s, 0, none⟩)) rfl (ex_nil rfl rfl) ?_)
    refine xF (.pointer (some ⟨s, 0, none⟩)) rfl (s15fa65_0 _ _ _) ?_
    simp only [zP, po]
    refine xL _ rfl (run_load1 s3na62 (hv.load 1 0 rfl rfl)) (xM (.string ⟨m.1.toArray⟩) rfl ?_)
    refine xM (.slice qa2 l2.length qc2) rfl ?_
    simp only [zP, po]
    refine xC s17callable23 rfl ((ixSetAny E _ _ p v' X' bvs' M' m.1 _ l2 (hxm.more (hCD.trans hDE)) (by omega) (hQ2.more (Base.Le.refl _)) (by omega) hv).mono ?_) rfl
    rintro e w25 ⟨rfl, E3, v2, X2, bvs2, M2, hA1, hA2, hA3, hv⟩
    refine ⟨_, rfl, ?_⟩
    refine wL ?_
    simp only [zP, po]
    refine bN (tK k16 ?_)
    refine rL (xG (.int .i64 ((i + 1 : Nat) : Int)) rfl (ex_add rfl rfl rfl (by rw [i64_in (by omega)]; omega)) ?_)
    refine xM (.int .i64 ((i + 1 : Nat) : Int)) rfl (wL ?_)
    simp only [zP, po]
    refine then_normal ?_
    go_roundw
    case rel => exact ⟨i + 1, gn + (l.length - l2.length), E3, _, _, _, M2, rfl, rfl, (((hKC.trans hCD).trans hDE).trans hA1), by omega, hA2, hpr.next hx.sorted hm (by rw [← hml, ← hpc]; exact hA3), by rw [goneN_next hm, hgn, ← hml, ← hpc], by omega, (hv.front 1 rfl)⟩
    case measure => show M.length - (((i + 1 : Nat) : Int)).toNat < M.length - ((i : Int)).toNat; omega
   refine xG (.bool false) rfl (ex_lss rfl rfl rfl (decide_eq_false hb23)) ?_
   simp only [zP, po]
   refine wK k22 (cF rfl ?_)
   refine kS (bN ?_)
   refine tK k16 ?_
   have hsame : l2 = l := by rw [hl2]; exact drop_same (by rw [← hl2]; omega)
   refine rL (xG (.int .i64 ((i + 1 : Nat) : Int)) rfl (ex_add rfl rfl rfl (by rw [i64_in (by omega)]; omega)) ?_)
   refine xM (.int .i64 ((i + 1 : Nat) : Int)) rfl (wL ?_)
   simp only [zP, po]
   refine then_normal ?_
   go_roundw
   case rel => exact ⟨i + 1, gn, _, _, _, _, M', rfl, rfl, ((hKC.trans hCD).trans hDE), by omega, hxm.more (hCD.trans hDE), hpr.same hx.sorted hm (by rw [← hml, ← hpc]; exact hsame), by rw [goneN_next hm, hgn, ← hml, ← hpc, hsame, Nat.sub_self]; rfl, by omega, (hv.front 1 rfl)⟩
   case measure => show M.length - (((i + 1 : Nat) : Int)).toNat < M.length - ((i : Int)).toNat; omega
  refine xG (.bool false) rfl (ex_lss rfl rfl rfl (decide_eq_false hb14)) ?_
  simp only [zP, po]
  refine wK k13 (sK fun _ k26 => ?_)
  refine cF rfl (xE ?_)
  refine tX (tX ?_)
  refine bH (tK k9 ?_)
  refine sK fun _ k27 => rL (xM (.pointer (some ⟨s, 0, none⟩)) rfl ?_)
  refine xM (.int .i64 mk) rfl (xG (.pointer (some ⟨s, 0, none⟩)) rfl (ex_nil rfl rfl) ?_)
  simp only [zP, po]
  refine xF (.pointer (some ⟨s, 2, none⟩)) rfl (s25fa65_2 _ _ _) (xV 0 (.int .i64 mk) rfl hv s5sz3 rfl rfl (fun w28 hv => ?_))
  simp only [zO, sp] at hv
  simp only [zP, po]
  refine wK k27 (sK fun _ k29 => ?_)
  refine rL (xM (.int .i64 (gn : Int)) rfl ?_)
  refine xA (.int .i64 (gn : Int)) rfl (xA (.int .i64 0) rfl ?_)
  simp only [zP, po]
  refine wK k29 (rR ?_)
  refine bodyPost_ret (results_tmp2 rfl _ _ _) rfl ?_
  obtain rfl : i = M.length := by omega
  rw [List.take_length] at hgn
  exact ⟨C, _, 0, hK0.trans hKC, rfl, .inr ⟨by omega, rfl, by rw [hgn], v', X', bvs', M', hxm, hpr.done, ((hv.front 1 rfl).front 1 rfl)⟩⟩
end Go.Proofs.YtffmbdagjpdieaaGreat
/- store.Load. -/
namespace Go.Proofs.YtffmbdagjpdieaaGreat
open Go.RowKit Go.Pm
noncomputable def fitB (stamp : Int) (x : Wr) : Bool := wrOkB x && !x.ver.gone && decide (1 ≤ x.ver.stamp) && decide (x.ver.stamp ≤ stamp)
theorem fitB_iff (stamp : Int) (x : Wr) : fitB stamp x = true ↔ WrOk x ∧ x.ver.gone = false ∧ 1 ≤ x.ver.stamp ∧ x.ver.stamp ≤ stamp := by
 unfold fitB
 rw [Bool.and_eq_true, Bool.and_eq_true, Bool.and_eq_true, wrOkB_iff, decide_eq_true_iff, decide_eq_true_iff, Bool.not_eq_true', and_assoc, and_assoc]
set_option maxHeartbeats 2000000 in
theorem loadFits (B : Base) (H : List Res) (w : World) (g4 : Nat) (stamp : Int) (x : Wr) (p t z : Value) (h : ValAt B x.ver.val p t z) (hv : Inv B (Res.cell g4 [.int .i64 stamp] 3 :: H) w) :
  Calls Tryz.prog 31 #[.agg #[.string ⟨x.key.toArray⟩, .int .i64 x.ver.stamp, .bool x.ver.gone, .int .i64 x.ver.expire, .int .i64 x.ver.val.kind, .string ⟨x.ver.val.text.toArray⟩, p, t, z], .pointer (some ⟨g4, 0, none⟩)] w fun e w' => e = .returned (.bool (fitB stamp x)) ∧ Inv B (Res.cell g4 [.int .i64 stamp] 3 :: H) w' := by
 refine cW Tryz.func31 rfl Tryz.ntmps31 ?_
 simp only [al]
 refine sK fun _ k1 => rL (sl_box (L := [.string ⟨x.key.toArray⟩, .int .i64 x.ver.stamp, .bool x.ver.gone, .int .i64 x.ver.expire, .int .i64 x.ver.val.kind, .string ⟨x.ver.val.text.toArray⟩, p, t, z]) tV (wn rfl) rfl rfl hv (fun w => by kernel_rfl) (fun b2 w3 hv => ?_))
 refine xA (.bool false) rfl ?_
 simp only [zP, po]
 refine wK k1 (sK fun _ k4 => ?_)
 refine rL (xL (.agg #[.string ⟨x.key.toArray⟩, .int .i64 x.ver.stamp, .bool x.ver.gone, .int .i64 x.ver.expire, .int .i64 x.ver.val.kind, .string ⟨x.ver.val.text.toArray⟩, p, t, z]) rfl (run_load_mid (pre := []) (mid := [.string ⟨x.key.toArray⟩, .int .i64 x.ver.stamp, .bool x.ver.gone, .int .i64 x.ver.expire, .int .i64 x.ver.val.kind, .string ⟨x.ver.val.text.toArray⟩, p, t, z]) (post := []) s8wd57 (show Blk _ b2 ([] ++ [.string ⟨x.key.toArray⟩, .int .i64 x.ver.stamp, .bool x.ver.gone, .int .i64 x.ver.expire, .int .i64 x.ver.val.kind, .string ⟨x.ver.val.text.toArray⟩, p, t, z] ++ []) _ from hv.get 0 rfl) rfl) ?_)
 refine xC s14callable32 rfl ((storeValid B _ _ x p t z h hv).mono ?_) rfl
 rintro e w5 ⟨rfl, hv⟩
 refine ⟨_, rfl, ?_⟩
 cases hwo : wrOkB x
 ·refine xM (.bool false) rfl ?_
  simp only [zP, po]
  iterate 4 refine yN rfl ?_
  refine xK false (.bool false) rfl (xM (.bool false) rfl ?_)
  iterate 4 refine yN rfl ?_
  refine xK false (.bool false) rfl ?_
  simp only [zP, po]
  refine xM (.bool false) rfl ?_
  iterate 5 refine yN rfl ?_
  refine xK false (.bool false) rfl (xA (.bool false) rfl ?_)
  simp only [zP, po]
  refine wK k4 (rR ?_)
  refine bR rfl rfl (⟨congrArg (fun b => Ending.returned (Value.bool b)) (by unfold fitB; simp [*]), ((hv.front 1 rfl).sub (List.Sublist.cons_cons _ (List.Sublist.cons _ (List.Sublist.refl _))))⟩)
 refine xM (.bool true) rfl ?_
 simp only [zP, po]
 refine xF (.pointer (some ⟨b2, 1, none⟩)) rfl (s14fa57_1 _ _ _) (xF (.pointer (some ⟨b2, 2, none⟩)) rfl (s2fa55_1 _ _ _) ?_)
 cases hgo : x.ver.gone
 ·refine xL (.bool false) rfl (by rw [← hgo]; exact run_load1 s2na4 (hv.load 0 2 rfl rfl)) ?_
  simp only [zP, po]
  refine xG (.bool true) rfl (ex_not rfl rfl rfl) (xK true (.bool true) rfl ?_)
  refine xM (.bool true) rfl ?_
  simp only [zP, po]
  refine xF (.pointer (some ⟨b2, 1, none⟩)) rfl (s14fa57_1 _ _ _) (xF (.pointer (some ⟨b2, 1, none⟩)) rfl (s2fa55_0 _ _ _) ?_)
  refine xL _ rfl (run_load1 s2na3 (hv.load 0 1 rfl rfl)) ?_
  simp only [zP, po]
  by_cases hb6 : x.ver.stamp ≥ 1
  ·refine xG (.bool true) rfl (ex_geq rfl rfl rfl (decide_eq_true hb6)) (xK true (.bool true) rfl ?_)
   refine xM (.bool true) rfl ?_
   simp only [zP, po]
   refine xF (.pointer (some ⟨b2, 1, none⟩)) rfl (s14fa57_1 _ _ _) (xF (.pointer (some ⟨b2, 1, none⟩)) rfl (s2fa55_0 _ _ _) ?_)
   refine xL _ rfl (run_load1 s2na3 (hv.load 0 1 rfl rfl)) ?_
   simp only [zP, po]
   refine xL _ rfl (run_load1 s2na3 (hv.load 1 0 rfl rfl)) ?_
   by_cases hb7 : x.ver.stamp ≤ stamp
   ·refine xG (.bool true) rfl (ex_leq rfl rfl rfl (decide_eq_true hb7)) (xK true (.bool true) rfl ?_)
    simp only [zP, po]
    refine xA (.bool true) rfl ?_
    simp only [zP, po]
    refine wK k4 (rR ?_)
    refine bR rfl rfl (⟨congrArg (fun b => Ending.returned (Value.bool b)) (by unfold fitB; simp [*]), ((hv.front 1 rfl).sub (List.Sublist.cons_cons _ (List.Sublist.cons _ (List.Sublist.refl _))))⟩)
   refine xG (.bool false) rfl (ex_leq rfl rfl rfl (decide_eq_false hb7)) (xK true (.bool false) rfl ?_)
   simp only [zP, po]
   refine xA (.bool false) rfl ?_
   simp only [zP, po]
   refine wK k4 (rR ?_)
   refine bR rfl rfl (⟨congrArg (fun b => Ending.returned (Value.bool b)) (by unfold fitB; simp [*]), ((hv.front 1 rfl).sub (List.Sublist.cons_cons _ (List.Sublist.cons _ (List.Sublist.refl _))))⟩)
  refine xG (.bool false) rfl (ex_geq rfl rfl rfl (decide_eq_false hb6)) (xK true (.bool false) rfl ?_)
  refine xM (.bool false) rfl ?_
  simp only [zP, po]
  iterate 5 refine yN rfl ?_
  refine xK false (.bool false) rfl (xA (.bool false) rfl ?_)
  simp only [zP, po]
  refine wK k4 (rR ?_)
  refine bR rfl rfl (⟨congrArg (fun b => Ending.returned (Value.bool b)) (by unfold fitB; simp [*]), ((hv.front 1 rfl).sub (List.Sublist.cons_cons _ (List.Sublist.cons _ (List.Sublist.refl _))))⟩)
 refine xL (.bool true) rfl (by rw [← hgo]; exact run_load1 s2na4 (hv.load 0 2 rfl rfl)) ?_
 simp only [zP, po]
 refine xG (.bool false) rfl (ex_not rfl rfl rfl) (xK true (.bool false) rfl ?_)
 refine xM (.bool false) rfl ?_
 simp only [zP, po]
 iterate 4 refine yN rfl ?_
 refine xK false (.bool false) rfl (xM (.bool false) rfl ?_)
 iterate 5 refine yN rfl ?_
 refine xK false (.bool false) rfl ?_
 simp only [zP, po]
 refine xA (.bool false) rfl ?_
 simp only [zP, po]
 refine wK k4 (rR ?_)
 refine bR rfl rfl (⟨congrArg (fun b => Ending.returned (Value.bool b)) (by unfold fitB; simp [*]), ((hv.front 1 rfl).sub (List.Sublist.cons_cons _ (List.Sublist.cons _ (List.Sublist.refl _))))⟩)
theorem s28callable31 : Callable Tryz.prog 31 := ⟨_, Tryz.func31, by kernel_rfl, by kernel_rfl⟩
set_option maxHeartbeats 2000000 in
theorem loadAllFn (B : Base) (H : List Res) (w : World) (g1 g4 : Nat) (stamp : Int) (x : Wr) (p t z : Value) (h : ValAt B x.ver.val p t z) (hv : Inv B (Res.cell g1 [.func (.func 31) #[] #[.pointer (some ⟨g4, 0, none⟩)]] 75 :: Res.cell g4 [.int .i64 stamp] 3 :: H) w) :
  Calls Tryz.prog 62 #[.agg #[.string ⟨x.key.toArray⟩, .int .i64 x.ver.stamp, .bool x.ver.gone, .int .i64 x.ver.expire, .int .i64 x.ver.val.kind, .string ⟨x.ver.val.text.toArray⟩, p, t, z], .pointer (some ⟨g1, 0, none⟩)] w fun e w' => e = .returned (.bool (!fitB stamp x)) ∧ Inv B (Res.cell g1 [.func (.func 31) #[] #[.pointer (some ⟨g4, 0, none⟩)]] 75 :: Res.cell g4 [.int .i64 stamp] 3 :: H) w' := by
 refine cW Tryz.func62 rfl Tryz.ntmps62 ?_
 simp only [al]
 refine sK fun _ k1 => rL (sl_box (L := [.string ⟨x.key.toArray⟩, .int .i64 x.ver.stamp, .bool x.ver.gone, .int .i64 x.ver.expire, .int .i64 x.ver.val.kind, .string ⟨x.ver.val.text.toArray⟩, p, t, z]) tV (wn rfl) rfl rfl hv (fun w => by kernel_rfl) (fun b2 w3 hv => ?_))
 refine xA (.bool false) rfl ?_
 simp only [zP, po]
 refine wK k1 (sK fun _ k4 => ?_)
 refine rL (xL _ rfl (run_load1 s14na75 (hv.load 1 0 rfl rfl)) ?_)
 refine xL (.agg #[.string ⟨x.key.toArray⟩, .int .i64 x.ver.stamp, .bool x.ver.gone, .int .i64 x.ver.expire, .int .i64 x.ver.val.kind, .string ⟨x.ver.val.text.toArray⟩, p, t, z]) rfl (run_load_mid (pre := []) (mid := [.string ⟨x.key.toArray⟩, .int .i64 x.ver.stamp, .bool x.ver.gone, .int .i64 x.ver.expire, .int .i64 x.ver.val.kind, .string ⟨x.ver.val.text.toArray⟩, p, t, z]) (post := []) s8wd57 (show Blk _ b2 ([] ++ [.string ⟨x.key.toArray⟩, .int .i64 x.ver.stamp, .bool x.ver.gone, .int .i64 x.ver.expire, .int .i64 x.ver.val.kind, .string ⟨x.ver.val.text.toArray⟩, p, t, z] ++ []) _ from hv.get 0 rfl) rfl) ?_
 replace hv := hv.front 2 rfl
 simp only [List.eraseIdx_cons_succ, List.eraseIdx_cons_zero] at hv
 refine wpi_callV s28callable31 tV wideC rfl (wn rfl) rfl rfl (args := #[.agg #[.string ⟨x.key.toArray⟩, .int .i64 x.ver.stamp, .bool x.ver.gone, .int .i64 x.ver.expire, .int .i64 x.ver.val.kind, .string ⟨x.ver.val.text.toArray⟩, p, t, z]]) (by simp only [List.map_toArray, List.map_cons, List.map_nil]; rfl) ((loadFits B _ _ g4 stamp x p t z h hv).mono ?_)
 rintro e w5 ⟨rfl, hv⟩
 refine ⟨_, rfl, ?_⟩
 simp only [zP, po]
 refine xG (.bool (!(fitB stamp x))) rfl (ex_not rfl rfl rfl) (xA (.bool (!(fitB stamp x))) rfl ?_)
 simp only [zP, po]
 refine wK k4 (rR ?_)
 refine bR rfl rfl (⟨rfl, ((hv.front 2 rfl).sub (List.Sublist.cons_cons _ (List.Sublist.cons_cons _ (List.Sublist.cons _ (List.Sublist.refl _)))))⟩)
set_option maxHeartbeats 2000000 in
theorem loadAll (B : Base) (H : List Res) (w : World) (ad : Option Addr) (c : Nat) (g4 : Nat) (stamp : Int) (xs : List Value) (l : List Wr) (hr : RdV B [] ad xs) (hxs : WrsAt B l xs) (hm : l.length ≤ 1000000) (hv : Inv B (Res.cell g4 [.int .i64 stamp] 3 :: H) w) :
  Calls Tryz.prog 34 #[.slice ad l.length c, .func (.func 31) #[] #[.pointer (some ⟨g4, 0, none⟩)]] w fun e w' => e = .returned (.bool (!l.any (fun x => !fitB stamp x))) ∧ Inv B (Res.cell g4 [.int .i64 stamp] 3 :: H) w' := by
 refine cW Tryz.func34 rfl Tryz.ntmps34 ?_
 simp only [al]
 refine sK fun _ k1 => rL (sl_box (L := [.func (.func 31) #[] #[.pointer (some ⟨g4, 0, none⟩)]]) tV (wn rfl) rfl rfl hv (fun w => by kernel_rfl) (fun b2 w3 hv => ?_))
 refine xA (.bool false) rfl ?_
 simp only [zP, po]
 refine wK k1 (sK fun _ k4 => ?_)
 refine rL (xM (.slice ad l.length c) rfl ?_)
 refine xG (.func (.func 62) #[] #[.pointer (some ⟨b2, 0, none⟩)]) rfl (ex_makeFunc (c' := #[.pointer (some ⟨b2, 0, none⟩)]) rfl (by simp only [List.map_toArray, List.map_nil]) (by simp only [List.map_toArray, List.map_cons, List.map_nil]; rfl)) (xC s14callable61 rfl ((containsFuncWr B _ _ 62 #[.pointer (some ⟨b2, 0, none⟩)] ad c l (fun x => !fitB stamp x) xs hr hxs hm s14callable62 (fun x _ p t z h w hv => loadAllFn B H w _ g4 stamp x p t z h hv) hv).mono ?_) rfl)
 rintro e w5 ⟨rfl, hv⟩
 refine ⟨_, rfl, ?_⟩
 simp only [zP, po]
 refine xG (.bool (!(l.any (fun x => !fitB stamp x)))) rfl (ex_not rfl rfl rfl) (xA (.bool (!(l.any (fun x => !fitB stamp x)))) rfl ?_)
 simp only [zP, po]
 refine wK k4 (rR ?_)
 refine bR rfl rfl (⟨rfl, ((hv.front 1 rfl).sub (List.Sublist.cons_cons _ (List.Sublist.cons _ (List.Sublist.refl _))))⟩)
theorem loadAllX (B : Base) (H : List Res) (w : World) (ad : Option Addr) (c : Nat) (g4 : Nat) (stamp : Int) (xs : List Value) (l : List Wr) (hr : RdV B [] ad xs) (hxs : WrsAt B l xs) (hm : l.length ≤ 1000000) (hv : Inv B (Res.cell g4 [.int .i64 stamp] 3 :: H) w) : Calls Tryz.prog 34 #[.slice ad l.length c, .func (.func 31) #[] #[.pointer (some ⟨g4, 0, none⟩)]] w fun e w' => ∃ b, e = .returned (.bool b) ∧ (b = true ↔ ∀ x ∈ l, WrOk x ∧ x.ver.gone = false ∧ 1 ≤ x.ver.stamp ∧ x.ver.stamp ≤ stamp) ∧ Inv B (Res.cell g4 [.int .i64 stamp] 3 :: H) w' := by
 refine (loadAll B H w ad c g4 stamp xs l hr hxs hm hv).mono ?_
 rintro e w' ⟨h1, h2⟩
 refine ⟨_, h1, ?_, h2⟩
 rw [Bool.not_eq_true', List.any_eq_false]
 constructor
 ·intro h x hx
  have := h x hx
  rw [← fitB_iff]
  simpa using this
 intro h x hx
 have := (fitB_iff stamp x).2 (h x hx)
 simp [this]
theorem nodup_sub : ∀ {l l2 : List (List UInt8)}, l.Nodup → (∀ k ∈ l, k ∈ l2) → l.length ≤ l2.length
 | [], _, _, _ => Nat.zero_le _
 | a :: l, l2, h, hs => by
  obtain ⟨h1, h2⟩ := List.nodup_cons.1 h
  have ha := hs a List.mem_cons_self
  have ih := nodup_sub (l := l) (l2 := l2.erase a) h2 (fun k hk => by
   rw [List.mem_erase_of_ne (fun e => h1 (by rw [← e]; exact hk))]
   exact hs k (List.mem_cons_of_mem _ hk))
  rw [List.length_erase_of_mem ha] at ih
  have : 0 < l2.length := List.length_pos_of_mem ha
  rw [List.length_cons]
  omega
structure LoadOk (ws : List Wr) (stamp : Int) : Prop where
 lo : 0 ≤ stamp
 hi : stamp ≤ 1152921504606846975
 nd : (ws.map (·.key)).Nodup
 wr : ∀ x ∈ ws, WrOk x ∧ x.ver.gone = false ∧ 1 ≤ x.ver.stamp ∧ x.ver.stamp ≤ stamp
structure LoadI (M : Model) (ws : List Wr) (i : Nat) : Prop where
 got : ∀ j x, j < i → ws[j]? = some x → getM M x.key = [x.ver]
 rest : ∀ k, (∀ j x, j < i → ws[j]? = some x → x.key ≠ k) → getM M k = []
theorem LoadI.next {M M2 : Model} {ws : List Wr} {i : Nat} (h : LoadI M ws i) (hn : (ws.map (·.key)).Nodup) {x : Wr} (hx : ws[i]? = some x) (hg : ∀ k, getM M2 k = if k = x.key then [x.ver] else getM M k) : LoadI M2 ws (i + 1) := by
 have hkey : ∀ j y, j < i → ws[j]? = some y → y.key ≠ x.key := fun j y hj hy e => by
  have h1 : (ws.map (·.key))[j]? = some x.key := by rw [List.getElem?_map, hy, Option.map_some, e]
  have h2 : (ws.map (·.key))[i]? = some x.key := by rw [List.getElem?_map, hx]; rfl
  have hi := (List.getElem?_eq_some_iff.1 hx).1
  have := (List.getElem?_inj (by rw [List.length_map]; omega) hn).1 (h1.trans h2.symm)
  omega
 refine ⟨fun j y hj hy => ?_, fun k hk => ?_⟩
 ·rcases Nat.lt_or_ge j i with h3 | h3
  ·rw [hg, if_neg (hkey j y h3 hy)]
   exact h.got j y h3 hy
  rw [show j = i by omega, hx] at hy
  cases hy
  rw [hg, if_pos rfl]
 rw [hg, if_neg (fun e => hk i x (by omega) hx e.symm)]
 exact h.rest k fun j y hj hy => hk j y (by omega) hy
theorem LoadI.len {B : Base} {X : List (List Ent)} {M : Model} {ws : List Wr} {i : Nat} (h : LoadI M ws i) (hx : IxM B X M) (hi : i ≤ ws.length) : M.length ≤ i := by
 have hsub : ∀ k ∈ keysM M, k ∈ (ws.take i).map (·.key) := fun k hk => by
  refine Classical.byContradiction fun hno => (keysM_mem hx k).1 hk (h.rest k fun j x hj hx e => hno ?_)
  rw [List.mem_map]
  refine ⟨x, ?_, e⟩
  refine List.mem_iff_getElem?.2 ⟨j, ?_⟩
  rw [List.getElem?_take_of_lt hj]
  exact hx
 have hnd : (keysM M).Nodup := List.Pairwise.imp (fun {a b} hab e => lt_ne hab e) hx.sorted
 have := nodup_sub hnd hsub
 rw [List.length_map, List.length_map, List.length_take] at this
 omega
theorem s28sz62 : (Tryz.prog.info? 62).map (·.size) = some 1 := by kernel_rfl
theorem s28al57 (w : World) : (Instr.alloc 57 true (.tuple #[])).run Tryz.prog w = .ok (.pointer (some ⟨w.heap.size, 0, none⟩)) (w.alloc (.cells ([.string ⟨([] : List UInt8).toArray⟩, .int .i64 0, .bool false, .int .i64 0, .int .i64 0, .string ⟨([] : List UInt8).toArray⟩, .slice none 0 0, .slice none 0 0, .slice none 0 0] : List Value).toArray 57)) := by kernel_rfl
theorem s28mk55 : (Tryz.prog.info? 55).map (fun i => (i.zero, i.size, i.bytes)) = some (some (.agg #[.int .i64 0, .bool false, .int .i64 0, .int .i64 0, .string ⟨([] : List UInt8).toArray⟩, .slice none 0 0, .slice none 0 0, .slice none 0 0]), 8, 120) := by kernel_rfl
theorem s28el70 : Elem Tryz.prog 70 55 (.agg #[.int .i64 0, .bool false, .int .i64 0, .int .i64 0, .string ⟨([] : List UInt8).toArray⟩, .slice none 0 0, .slice none 0 0, .slice none 0 0]) 8 120 := elem_of Tryz.underlying70 s28mk55 (by rfl) (by decide)
set_option maxHeartbeats 4000000 in
theorem storeLoad (B : Base) (H : List Res) (w : World) (s p : Nat) (v : Value) (X : List (List Ent)) (bvs : List Value) (n0 last mark stamp : Int) (ad : Option Addr) (c : Nat) (xs : List Value) (ws : List Wr) (hr : RdV B [] ad xs) (hws : WrsAt B ws xs) (hm : ws.length ≤ 100000) (hv : Inv B (Res.cell s [.pointer (some ⟨p, 0, none⟩), .int .i64 last, .int .i64 mark] 65 :: ixS 89 101 100 p v n0 X bvs :: H) w) :
  Calls Tryz.prog 12 #[.pointer (some ⟨s, 0, none⟩), .int .i64 stamp, .slice ad ws.length c] w fun e w' => ∃ C ec, B.Le C ∧ e = .returned (.int .i64 ec) ∧ ((ec = 2 ∧ ¬ LoadOk ws stamp ∧ Inv C (Res.cell s [.pointer (some ⟨p, 0, none⟩), .int .i64 last, .int .i64 mark] 65 :: ixS 89 101 100 p v n0 X bvs :: H) w') ∨ (ec = 22 ∧ 4096 < ws.length ∧ LoadOk ws stamp ∧ Inv C (Res.cell s [.pointer (some ⟨p, 0, none⟩), .int .i64 last, .int .i64 mark] 65 :: ixS 89 101 100 p v n0 X bvs :: H) w') ∨ (ec = 0 ∧ ws.length ≤ 4096 ∧ LoadOk ws stamp ∧ ∃ p2 v' X' bvs' M', IxM C X' M' ∧ LoadI M' ws ws.length ∧ Inv C (Res.cell s [.pointer (some ⟨p2, 0, none⟩), .int .i64 stamp, .int .i64 stamp] 65 :: ixS 89 101 100 p2 v' (M'.length : Int) X' bvs' :: H) w')) := by
 refine cW Tryz.func12 rfl Tryz.ntmps12 ?_
 simp only [al]
 refine sK fun _ k1 => rL (sl_box (L := [.int .i64 stamp]) tV (wn rfl) rfl rfl hv (fun w => by kernel_rfl) (fun b2 w3 hv => ?_))
 refine xA (.int .i64 0) rfl ?_
 simp only [zP, po]
 refine wK k1 (sK fun _ k4 => ?_)
 refine rL (xG (.func (.func 31) #[] #[.pointer (some ⟨b2, 0, none⟩)]) rfl (ex_makeFunc (c' := #[.pointer (some ⟨b2, 0, none⟩)]) rfl (by simp only [List.map_toArray, List.map_nil]) (by simp only [List.map_toArray, List.map_cons, List.map_nil]; rfl)) ?_)
 refine xA (.func (.func 31) #[] #[.pointer (some ⟨b2, 0, none⟩)]) rfl ?_
 simp only [zP, po]
 refine wK k4 (sK fun _ k5 => ?_)
 refine sK fun _ k6 => rL (xL _ rfl (run_load1 s2na3 (hv.load 0 0 rfl rfl)) ?_)
 by_cases hb7 : stamp < 0
 ·refine xG (.bool true) rfl (ex_lss rfl rfl rfl (decide_eq_true hb7)) (xM (.bool true) rfl ?_)
  simp only [zP, po]
  iterate 2 refine yN rfl ?_
  refine xK true (.bool true) rfl (xM (.bool true) rfl ?_)
  iterate 2 refine yN rfl ?_
  refine xK true (.bool true) rfl ?_
  simp only [zP, po]
  refine xM (.bool true) rfl ?_
  iterate 4 refine yN rfl ?_
  refine xK true (.bool true) rfl ?_
  simp only [zP, po]
  refine wK k6 (cT rfl ?_)
  refine sK fun _ k8 => rL (xA (.int .i64 2) rfl ?_)
  simp only [zP, po]
  refine wK k8 (rR ?_)
  refine tR (bR rfl rfl ?_)
  exact ⟨B, 2, Base.Le.refl _, rfl, .inl ⟨rfl, fun h9 => by first | (have := h9.lo; omega) | (have := h9.hi; omega), (((hv.front 2 rfl).front 2 rfl).sub (List.Sublist.cons_cons _ (List.Sublist.cons_cons _ (List.Sublist.cons _ (List.Sublist.refl _)))))⟩⟩
 refine xG (.bool false) rfl (ex_lss rfl rfl rfl (decide_eq_false hb7)) (xM (.bool false) rfl ?_)
 simp only [zP, po]
 refine xL _ rfl (run_load1 s2na3 (hv.load 0 0 rfl rfl)) ?_
 by_cases hb9 : stamp > 1152921504606846975
 ·refine xG (.bool true) rfl (ex_gtr rfl rfl rfl (decide_eq_true hb9)) (xK false (.bool true) rfl ?_)
  simp only [zP, po]
  refine xM (.bool true) rfl ?_
  iterate 2 refine yN rfl ?_
  refine xK true (.bool true) rfl (xM (.bool true) rfl ?_)
  simp only [zP, po]
  iterate 4 refine yN rfl ?_
  refine xK true (.bool true) rfl ?_
  simp only [zP, po]
  refine wK k6 (cT rfl ?_)
  refine sK fun _ k10 => rL (xA (.int .i64 2) rfl ?_)
  simp only [zP, po]
  refine wK k10 (rR ?_)
  refine tR (bR rfl rfl ?_)
  exact ⟨B, 2, Base.Le.refl _, rfl, .inl ⟨rfl, fun h9 => by first | (have := h9.lo; omega) | (have := h9.hi; omega), (((hv.front 2 rfl).front 2 rfl).sub (List.Sublist.cons_cons _ (List.Sublist.cons_cons _ (List.Sublist.cons _ (List.Sublist.refl _)))))⟩⟩
 refine xG (.bool false) rfl (ex_gtr rfl rfl rfl (decide_eq_false hb9)) (xK false (.bool false) rfl ?_)
 simp only [zP, po]
 refine xM (.bool false) rfl (xM (.slice ad ws.length c) rfl ?_)
 refine xC s16callable33 rfl ((storeTwice0 B _ _ ad c xs ws hr hws (by omega) hv).mono ?_) rfl
 rintro e w12 ⟨bl11, rfl, hbl11, hv⟩
 refine ⟨_, rfl, ?_⟩
 cases bl11
 ·simp only [zP, po]
  refine xK false (.bool false) rfl (xM (.bool false) rfl ?_)
  refine xM (.slice ad ws.length c) rfl ?_
  simp only [zP, po]
  refine xM (.func (.func 31) #[] #[.pointer (some ⟨b2, 0, none⟩)]) rfl (xC s16callable34 rfl ((loadAllX B _ _ ad c _ stamp xs ws hr hws (by omega) hv).mono ?_) rfl)
  rintro e w14 ⟨bl13, rfl, hbl13, hv⟩
  refine ⟨_, rfl, ?_⟩
  cases bl13
  ·refine xG (.bool true) rfl (ex_not rfl rfl rfl) ?_
   simp only [zP, po]
   refine xK false (.bool true) rfl ?_
   simp only [zP, po]
   refine wK k6 (cT rfl ?_)
   refine sK fun _ k15 => rL (xA (.int .i64 2) rfl ?_)
   simp only [zP, po]
   refine wK k15 (rR ?_)
   refine tR (bR rfl rfl ?_)
   exact ⟨B, 2, Base.Le.refl _, rfl, .inl ⟨rfl, fun h9 => by first | (have := h9.lo; omega) | (have := h9.hi; omega) | exact hbl11.1 rfl h9.nd | exact absurd (hbl13.2 h9.wr) (by decide), (((hv.front 2 rfl).front 2 rfl).sub (List.Sublist.cons_cons _ (List.Sublist.cons_cons _ (List.Sublist.cons _ (List.Sublist.refl _)))))⟩⟩
  refine xG (.bool false) rfl (ex_not rfl rfl rfl) ?_
  simp only [zP, po]
  refine xK false (.bool false) rfl ?_
  simp only [zP, po]
  refine wK k6 (cF rfl ?_)
  refine kS (tK k5 ?_)
  refine sK fun _ k16 => sK fun _ k17 => rL (xM (.slice ad ws.length c) rfl ?_)
  refine xG (.int .i64 (ws.length : Int)) rfl (ex_len0 Tryz.underlying33 rfl rfl) ?_
  by_cases hb18 : (ws.length : Int) > 4096
  ·refine xG (.bool true) rfl (ex_gtr rfl rfl rfl (decide_eq_true hb18)) ?_
   simp only [zP, po]
   refine wK k17 (cT rfl ?_)
   refine sK fun _ k19 => rL (xA (.int .i64 22) rfl ?_)
   simp only [zP, po]
   refine wK k19 (rR ?_)
   refine tR (bR rfl rfl ?_)
   exact ⟨B, 22, Base.Le.refl _, rfl, .inr (.inl ⟨rfl, by omega, ⟨by omega, by omega, Classical.not_not.1 (fun h => by have h9 := hbl11.2 h; cases h9), hbl13.1 rfl⟩, (((hv.front 2 rfl).front 2 rfl).sub (List.Sublist.cons_cons _ (List.Sublist.cons_cons _ (List.Sublist.cons _ (List.Sublist.refl _)))))⟩)⟩
  refine xG (.bool false) rfl (ex_gtr rfl rfl rfl (decide_eq_false hb18)) ?_
  simp only [zP, po]
  refine wK k17 (cF rfl ?_)
  refine kS (tK k16 ?_)
  refine sK fun _ k20 => rL (xM (.pointer (some ⟨s, 0, none⟩)) rfl ?_)
  replace hv := (((hv.front 1 rfl).front 1 rfl).sub (List.Sublist.cons_cons _ (List.Sublist.cons_cons _ (List.Sublist.cons _ (List.Sublist.refl _)))))
  refine xC s15callable20 rfl ((ixNewS B _ _ hv).mono ?_) rfl
  rintro e w21 ⟨p2, rfl, hv⟩
  refine ⟨_, rfl, ?_⟩
  have hlok : LoadOk ws stamp := ⟨by omega, by omega, Classical.not_not.1 (fun h => by have h9 := hbl11.2 h; cases h9), hbl13.1 rfl⟩
  refine xG (.pointer (some ⟨s, 0, none⟩)) rfl (ex_nil rfl rfl) ?_
  simp only [zP, po]
  refine xF (.pointer (some ⟨s, 0, none⟩)) rfl (s15fa65_0 _ _ _) (xV 2 (.pointer (some ⟨p2, 0, none⟩)) rfl hv s28sz62 rfl rfl (fun w22 hv => ?_))
  simp only [zS, zO, sp] at hv
  simp only [zP, po]
  refine wK k20 (sK fun _ k23 => ?_)
  refine sK fun _ k24 => rL (xM (.slice ad ws.length c) rfl ?_)
  refine xG (.int .i64 (ws.length : Int)) rfl (ex_len0 Tryz.underlying33 rfl rfl) (xM (.int .i64 0) rfl ?_)
  simp only [zP, po]
  refine wK k24 (bB ?_)
  gi_loopw [36] (fun x36 wr => ∃ (i : Nat) (C : Base) (v' : Value) (X' : List (List Ent)) (bvs' : List Value) (M' : Model), x36 = .int .i64 (i : Int) ∧ B.Le C ∧ i ≤ ws.length ∧ IxM C X' M' ∧ LoadI M' ws i ∧ Inv C (Res.cell s [.pointer (some ⟨p2, 0, none⟩), .int .i64 last, .int .i64 mark] 65 :: Res.cell b2 [.int .i64 stamp] 3 :: ixS 89 101 100 p2 v' (M'.length : Int) X' bvs' :: H) wr) (fun x36 _ => ws.length - (intOf x36).toNat)
  case atStart => exact ⟨0, B, _, [], [], [], rfl, Base.Le.refl _, Nat.zero_le _, ixm_nil B, ⟨fun j x h => by omega, fun k _ => rfl⟩, ((hv.front 1 rfl).front 2 rfl)⟩
  case round =>
   obtain ⟨i, C, v', X', bvs', M', rfl, hBC, hi, hxm, hld, hv⟩ := hrel
   have hMl := hld.len hxm hi
   refine sK fun _ k26 => rL ?_
   by_cases hb27 : (i : Int) < (ws.length : Int)
   ·refine xG (.bool true) rfl (ex_lss rfl rfl rfl (decide_eq_true hb27)) ?_
    simp only [zP, po]
    refine wK k26 (sK fun _ k28 => ?_)
    refine cT rfl (kS ?_)
    refine tK k28 (sK fun _ k29 => ?_)
    refine bB (sK fun _ k30 => ?_)
    obtain ⟨x, hx⟩ : ∃ x, ws[i]? = some x := ⟨_, List.getElem?_eq_getElem (show i < ws.length by omega)⟩
    obtain ⟨bb, bo, xp, xt, xz, had, hvalx, hrdx⟩ := WrsAt.reads hws hr hx
    subst had
    refine rL (xG (.pointer (some ⟨bb, bo + i * 9, none⟩)) rfl (ex_index rfl rfl rfl (run_idx (k := i) Tryz.underlying33 s8es33 (by omega))) ?_)
    refine xL (.agg #[.string ⟨x.key.toArray⟩, .int .i64 x.ver.stamp, .bool x.ver.gone, .int .i64 x.ver.expire, .int .i64 x.ver.val.kind, .string ⟨x.ver.val.text.toArray⟩, xp, xt, xz]) rfl (run_loadR (cs := [.string ⟨x.key.toArray⟩, .int .i64 x.ver.stamp, .bool x.ver.gone, .int .i64 x.ver.expire, .int .i64 x.ver.val.kind, .string ⟨x.ver.val.text.toArray⟩, xp, xt, xz]) s8wd57 (Reads.mid (pre := []) (mid := [.string ⟨x.key.toArray⟩, .int .i64 x.ver.stamp, .bool x.ver.gone, .int .i64 x.ver.expire, .int .i64 x.ver.val.kind, .string ⟨x.ver.val.text.toArray⟩, xp, xt, xz]) (post := []) hrdx _ _ _ hBC no_res hv)) (sl_alloc tV (wn rfl) rfl hv s28al57 (fun b31 w32 hv => ?_))
    simp only [zP, po]
    refine xS 0 rfl hv s8sz57 rfl (by exact ⟨rfl, rfl, rfl, rfl, rfl, rfl, hvalx.p.one, hvalx.t.one, hvalx.z.one, trivial⟩) (fun w33 hv => ?_)
    simp only [zO, sp] at hv
    simp only [zP, po]
    refine wK k30 (rW mixed [8, 9] [0,1,2,3,4,5,6,7,8,9] 59 rfl (by kernel_rfl) hv ?_)
    simp only [qm, opAt]
    refine dM (.pointer (some ⟨s, 0, none⟩)) rfl (dG (.pointer (some ⟨s, 0, none⟩)) rfl (ex_nil rfl rfl) ?_)
    refine dG (.pointer (some ⟨s, 0, none⟩)) rfl (ex_field rfl rfl (s15fa65_0 _ _ _)) ?_
    simp only [zP, po]
    refine dF _ rfl (fun hv => ex_load rfl rfl (run_load1 s3na62 (hv.load 1 0 rfl rfl))) fun f34 hf34 => dG (.pointer (some ⟨b31, 0, none⟩)) rfl (ex_field rfl rfl (s8fa57_0 _ _ _)) (dF _ rfl (fun hv => ex_load rfl rfl (run_load1 s3na9 (hv.load 0 0 rfl rfl))) fun f35 hf35 => ?_)
    simp only [zP, po]
    refine dG (.pointer (some ⟨b31, 1, none⟩)) rfl (ex_field rfl rfl (s14fa57_1 _ _ _)) (dL (.agg #[.int .i64 x.ver.stamp, .bool x.ver.gone, .int .i64 x.ver.expire, .int .i64 x.ver.val.kind, .string ⟨x.ver.val.text.toArray⟩, xp, xt, xz]) rfl (fun hv => ex_load rfl rfl (run_load_mid (pre := [.string ⟨x.key.toArray⟩]) (mid := [.int .i64 x.ver.stamp, .bool x.ver.gone, .int .i64 x.ver.expire, .int .i64 x.ver.val.kind, .string ⟨x.ver.val.text.toArray⟩, xp, xt, xz]) (post := []) s1wd55 (show Blk _ b31 ([.string ⟨x.key.toArray⟩] ++ [.int .i64 x.ver.stamp, .bool x.ver.gone, .int .i64 x.ver.expire, .int .i64 x.ver.val.kind, .string ⟨x.ver.val.text.toArray⟩, xp, xt, xz] ++ []) _ from hv.get 0 rfl) rfl)) ?_)
    refine dS rfl fun w36 hv => mem_rowAgg (L := [.int .i64 x.ver.stamp, .bool x.ver.gone, .int .i64 x.ver.expire, .int .i64 x.ver.val.kind, .string ⟨x.ver.val.text.toArray⟩, xp, xt, xz]) rfl rfl rfl hv s28el70 rfl (by decide) (fun b37 w38 hv => ?_)
    refine dV hv (fC (fun ww hv => hf35 ww (ex_load rfl rfl (run_load1 s3na9 (hv.load 1 0 rfl rfl)))) (fC (fun ww hv => hf34 ww (ex_load rfl rfl (run_load1 s3na62 (hv.load 2 0 rfl rfl)))) fN)) ?_
    simp only [zP, po]
    refine dS rfl fun w39 hv => ?_
    obtain ⟨E, hE, hv, hrE, hokE, -⟩ := (hv.cellRow (n := 1) (c := 1) (size := 8) rfl (by decide) (by decide)).rowBy
    refine mC s17callable23 rfl ((ixSetAny E _ _ p2 v' X' bvs' M' x.key _ [x.ver] ((hxm.more (Base.Le.refl _)).more hE) (by omega) ⟨_, 1, _, rfl, hokE, hrE, VersAt.single (v := x.ver) ((hvalx.more hBC).more hE)⟩ (by simp) (hv.front 3 rfl)).mono ?_) rfl
    rintro e w40 ⟨rfl, G, v2, X2, bvs2, M2, hA1, hA2, hA3, hv⟩
    have hEG := hE.trans hA1
    refine ⟨_, rfl, dV hv (fK rfl (fK rfl fN)) ?_⟩
    refine dE fun w41 hv => ?_
    simp only [zP, po]
    refine bN (tK k29 ?_)
    refine rL (xG (.int .i64 ((i + 1 : Nat) : Int)) rfl (ex_add rfl rfl rfl (by rw [i64_in (by omega)]; omega)) ?_)
    refine xM (.int .i64 ((i + 1 : Nat) : Int)) rfl (wL ?_)
    simp only [zP, po]
    refine then_normal ?_
    go_roundw
    case rel => exact ⟨i + 1, _, _, _, _, M2, rfl, (hBC.trans hEG), by omega, hA2, hld.next hlok.nd hx hA3, (((hv.front 3 rfl).front 3 rfl).sub (List.Sublist.cons_cons _ (List.Sublist.cons_cons _ (List.Sublist.cons_cons _ (List.Sublist.cons _ (List.Sublist.refl _))))))⟩
    case measure => show ws.length - (((i + 1 : Nat) : Int)).toNat < ws.length - ((i : Int)).toNat; omega
   refine xG (.bool false) rfl (ex_lss rfl rfl rfl (decide_eq_false hb27)) ?_
   simp only [zP, po]
   refine wK k26 (sK fun _ k42 => ?_)
   refine cF rfl (xE ?_)
   refine tX (tX ?_)
   refine bH (tK k23 ?_)
   refine sK fun _ k43 => rW mixed [6, 9] [0,1,2,3,4,5,6,7,8,9] 59 rfl (by kernel_rfl) hv ?_
   simp only [qm, opAt]
   refine dM (.pointer (some ⟨s, 0, none⟩)) rfl (dM (.pointer (some ⟨s, 0, none⟩)) rfl ?_)
   refine dL _ rfl (fun hv => ex_load rfl rfl (run_load1 s2na3 (hv.load 1 0 rfl rfl))) ?_
   simp only [zP, po]
   refine dF _ rfl (fun hv => ex_load rfl rfl (run_load1 s2na3 (hv.load 1 0 rfl rfl))) fun f44 hf44 => dG (.pointer (some ⟨s, 0, none⟩)) rfl (ex_nil rfl rfl) (dG (.pointer (some ⟨s, 1, none⟩)) rfl (ex_field rfl rfl (s15fa65_1 _ _ _)) ?_)
   simp only [zP, po]
   refine dS rfl fun w45 hv => mV 0 (.int .i64 stamp) rfl hv s5sz3 rfl rfl (fun w46 hv => ?_)
   simp only [zO, sp] at hv
   refine dV hv (fC (fun ww hv => hf44 ww (ex_load rfl rfl (run_load1 s2na3 (hv.load 1 0 rfl rfl)))) fN) (dG (.pointer (some ⟨s, 0, none⟩)) rfl (ex_nil rfl rfl) ?_)
   refine dG (.pointer (some ⟨s, 2, none⟩)) rfl (ex_field rfl rfl (s25fa65_2 _ _ _)) ?_
   simp only [zP, po]
   refine dS rfl fun w47 hv => mV 0 (.int .i64 stamp) rfl hv s5sz3 rfl rfl (fun w48 hv => ?_)
   simp only [zO, sp] at hv
   refine dV hv (fK rfl fN) (dE fun w49 hv => ?_)
   simp only [zP, po]
   refine tK k43 (sK fun _ k50 => ?_)
   refine rL (xA (.int .i64 0) rfl ?_)
   simp only [zP, po]
   refine wK k50 (rR ?_)
   refine bR rfl rfl ?_
   obtain rfl : i = ws.length := by omega
   exact ⟨C, 0, hBC, rfl, .inr (.inr ⟨rfl, by omega, hlok, p2, v', X', bvs', M', hxm, hld, (((hv.front 2 rfl).front 1 rfl).sub (List.Sublist.cons_cons _ (List.Sublist.cons_cons _ (List.Sublist.cons _ (List.Sublist.refl _)))))⟩)⟩
 simp only [zP, po]
 refine xK false (.bool true) rfl (xM (.bool true) rfl ?_)
 iterate 4 refine yN rfl ?_
 refine xK true (.bool true) rfl ?_
 simp only [zP, po]
 refine wK k6 (cT rfl ?_)
 refine sK fun _ k51 => rL (xA (.int .i64 2) rfl ?_)
 simp only [zP, po]
 refine wK k51 (rR ?_)
 refine tR (bR rfl rfl ?_)
 exact ⟨B, 2, Base.Le.refl _, rfl, .inl ⟨rfl, fun h9 => by first | (have := h9.lo; omega) | (have := h9.hi; omega) | exact hbl11.1 rfl h9.nd, (((hv.front 2 rfl).front 2 rfl).sub (List.Sublist.cons_cons _ (List.Sublist.cons_cons _ (List.Sublist.cons _ (List.Sublist.refl _)))))⟩⟩
end Go.Proofs.YtffmbdagjpdieaaGreat
/- StorePrunes in plain data. -/
namespace Go.Proofs.YtffmbdagjpdieaaGreat
open Go.RowKit Go.Pm
section
variable {M M' : Model} {mark last c at_ d n : Int}
theorem prune_asc (h : AscM M) (hp : ∀ k, getM M' k = pruneC (getM M k) mark c) : AscM M' := fun k => by
 rw [hp]
 unfold pruneC
 have hf : Asc ((getM M k).filter fun x => decide (mark < x.stamp)) := List.Pairwise.filter _ (h k)
 cases hr : readV (getM M k) mark c with
 | none => exact hf
 | some x =>
  refine List.pairwise_cons.2 ⟨fun y hy => ?_, hf⟩
  have h1 := (readV_some hr).2.1
  have h2 := (List.mem_filter.1 hy).2
  have h3 : mark < y.stamp := by simpa using h2
  omega
end
end Go.Proofs.YtffmbdagjpdieaaGreat
/- Writes as the law's arguments hold them: how long the rows are is not yet known. -/
namespace Go.Pm
open Go.RowKit
structure ValRd (B : Base) (v : Val) (p t z : Value) : Prop where
 p : RowB B p v.pairs.length (pairCells v.pairs)
 t : RowB B t v.texts.length (textCells v.texts)
 z : RowB B z v.zset.length (memCells v.zset)
theorem ValRd.more {B C : Base} {v : Val} {p t z : Value} (h : ValRd B v p t z) (hB : B.Le C) : ValRd C v p t z := ⟨h.p.more hB, h.t.more hB, h.z.more hB⟩
theorem ValAt.rd {B : Base} {v : Val} {p t z : Value} (h : ValAt B v p t z) : ValRd B v p t z := ⟨h.p, h.t, h.z⟩
def WrsRd (B : Base) : List Wr → List Value → Prop
 | [], xs => xs = []
 | v :: l, xs => ∃ p t z r, xs = wrCells v p t z ++ r ∧ ValRd B v.ver.val p t z ∧ WrsRd B l r
theorem WrsRd.more {B C : Base} (hB : B.Le C) : ∀ {l : List Wr} {xs : List Value}, WrsRd B l xs → WrsRd C l xs
 | [], _, h => h
 | _ :: _, _, ⟨p, t, z, r, h1, h2, h3⟩ => ⟨p, t, z, r, h1, h2.more hB, WrsRd.more hB h3⟩
theorem WrsRd.append {B : Base} {k : List Wr} {ys : List Value} (hk : WrsRd B k ys) : ∀ {l : List Wr} {xs : List Value}, WrsRd B l xs → WrsRd B (l ++ k) (xs ++ ys)
 | [], xs, h => by
  cases (show xs = [] from h)
  exact hk
 | v :: l, xs, ⟨p, t, z, r, h1, h2, h3⟩ => by
  subst h1
  exact ⟨p, t, z, r ++ ys, by rw [List.append_assoc], h2, WrsRd.append hk h3⟩
theorem WrsRd.len {B : Base} : ∀ {l : List Wr} {xs : List Value}, WrsRd B l xs → xs.length = l.length * 9
 | [], xs, h => by cases (show xs = [] from h); rfl
 | v :: l, xs, ⟨p, t, z, r, h1, h2, h3⟩ => by
  subst h1
  rw [List.length_append, WrsRd.len h3]
  show 9 + l.length * 9 = (l.length + 1) * 9
  omega
theorem WrsRd.get {B : Base} : ∀ {l : List Wr} {xs : List Value}, WrsRd B l xs → ∀ i (hi : i < l.length), ∃ p t z, ValRd B l[i].ver.val p t z ∧ ∀ j, j < 9 → (wrCells l[i] p t z)[j]? = (xs.drop (i * 9))[j]?
 | [], xs, h, i, hi => by simp at hi
 | v :: l, xs, ⟨p, t, z, r, h1, h2, h3⟩, i, hi => by
  subst h1
  cases i with
  | zero => exact ⟨p, t, z, h2, fun j hj => by rw [Nat.zero_mul, List.drop_zero, List.getElem?_append_left hj]; rfl⟩
  | succ i =>
   obtain ⟨p', t', z', e1, e2⟩ := WrsRd.get h3 i (by simpa using hi)
   refine ⟨p', t', z', e1, fun j hj => (e2 j hj).trans ?_⟩
   rw [show (i + 1) * 9 = i * 9 + 9 by rw [Nat.succ_mul], Nat.add_comm, ← List.drop_drop]
   rfl
theorem WrsRd.reads {B : Base} {l : List Wr} {xs : List Value} {ad : Option Addr} {i : Nat} {x : Wr} (h : WrsRd B l xs) (hr : RdV B [] ad xs) (hx : l[i]? = some x) : ∃ b off p t z, ad = some ⟨b, off, none⟩ ∧ ValRd B x.ver.val p t z ∧ Reads B [] b (off + i * 9) (wrCells x p t z) := by
 obtain ⟨hi, rfl⟩ := List.getElem?_eq_some_iff.1 hx
 obtain ⟨p, t, z, h1, h2⟩ := h.get i hi
 have hl := h.len
 have hle : i * 9 + 9 ≤ xs.length := by rw [hl]; have := Nat.mul_le_mul_right 9 (show i + 1 ≤ l.length by omega); rw [Nat.succ_mul] at this; exact this
 obtain ⟨b, off, h3, h4⟩ := rdW_reads (cs := wrCells l[i] p t z) (k := i * 9) (m := 9) (hr.rdW []) hle (by decide) rfl (fun j hj => by
  rw [h2 j hj, List.getElem?_drop])
 exact ⟨b, off, p, t, z, h3, h1, h4⟩
def ValSm (v : Val) : Prop := v.pairs.length ≤ 60 ∧ v.texts.length ≤ 600 ∧ v.zset.length ≤ 60
theorem WrsRd.at_ {B : Base} : ∀ {l : List Wr} {xs : List Value}, WrsRd B l xs → (∀ x ∈ l, ValSm x.ver.val) → WrsAt B l xs
 | [], _, h, _ => h
 | v :: _, _, ⟨p, t, z, r, h1, h2, h3⟩, hs => ⟨p, t, z, r, h1, ⟨h2.p, h2.t, h2.z, by have := (hs v List.mem_cons_self).1; omega, by have := (hs v List.mem_cons_self).2.1; omega, by have := (hs v List.mem_cons_self).2.2; omega⟩, WrsRd.at_ h3 (fun x hx => hs x (List.mem_cons_of_mem _ hx))⟩
section
variable {P : Program} {a : Act} {w : World} {o : Oper} {t u : TypeId} {x y : Operand}
theorem ex_neqSame {L : List Value} (ho : o.op = .binOp .neq t x y u) (hx : a.eval x = .agg L.toArray) (hy : a.eval y = .agg L.toArray) (hg : P.eqGuardType P.depth t = false) (he : ∀ w, (Op.equalIn 10000 t (.agg L.toArray) (.agg L.toArray)).run P w = .ok true w) : Ex P a o w (.bool false) w := by
 unfold Ex
 simp [execOp, ho, hx, hy, run_eqGuard_agg w .neq t x y _ _ hg, run_neq_struct, he]
theorem ex_bneq {p q b : Bool} (ht : P.underlying t = some .bool) (ho : o.op = .binOp .neq t x y u) (hx : a.eval x = .bool p) (hy : a.eval y = .bool q) (hb : (p != q) = b) : Ex P a o w (.bool b) w := by
 subst hb
 have he := run_neq_bool (P := P) w t p q ht
 unfold Ex
 simp only [execOp, ho, hx, hy]
 simp [eqGuard, he]
 cases p <;> cases q <;> rfl
end
end Go.Pm
