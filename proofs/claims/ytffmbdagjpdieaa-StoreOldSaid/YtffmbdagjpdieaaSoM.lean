/- StoreOld: the law's walk. -/
import Derived.Test.YtffmbdagjpdieaaSoB
import Derived.Test.YtffmbdagjpdieaaSoL
import Derived.Test.YtffmbdagjpdieaaRows
set_option maxRecDepth 100000
namespace Go.Proofs.Ytffmbdagjpdieaa
open Go.RowKit Go.Pm
theorem refSame1E (B : Base) (H : List Res) (w : World) (u u' : Ver) (p t z p' t' z' : Value) (h : ValAt B u.val p t z) (hu : u = u') (h' : ValAt B u'.val p' t' z') (hv : Inv B H w) : Calls Try.prog 15 #[.agg (verCells u p t z).toArray, .agg (verCells u' p' t' z').toArray] w fun e w' => e = .returned (.bool true) ∧ Inv B H w' := by
 subst hu
 exact refSame1 B H w u p t z p' t' z' h h' hv
theorem l17bcallable6 : Callable Try.prog 6 := ⟨_, Try.func6, by kernel_rfl, by kernel_rfl⟩
theorem l17bes22 (w : World) : (sizeOf (Try.prog.elem 22)).run Try.prog w = .ok 1 w := by kernel_rfl
theorem l17bna27 (w : World) : (isAgg 27).run Try.prog w = .ok false w := by kernel_rfl
theorem l17bcallable8 : Callable Try.prog 8 := ⟨_, Try.func8, by kernel_rfl, by kernel_rfl⟩
theorem l17bcallable13 : Callable Try.prog 13 := ⟨_, Try.func13, by kernel_rfl, by kernel_rfl⟩
theorem l17bcallable10 : Callable Try.prog 10 := ⟨_, Try.func10, by kernel_rfl, by kernel_rfl⟩
theorem l17bcallable14 : Callable Try.prog 14 := ⟨_, Try.func14, by kernel_rfl, by kernel_rfl⟩
theorem l17bal38 (w : World) : (Instr.alloc 38 true (.tuple #[])).run Try.prog w = .ok (.pointer (some ⟨w.heap.size, 0, none⟩)) (w.alloc (.cells ([.int .i64 0, .bool false, .int .i64 0, .int .i64 0, .string ⟨([] : List UInt8).toArray⟩, .slice none 0 0, .slice none 0 0, .slice none 0 0] : List Value).toArray 38)) := by kernel_rfl
theorem l17bcallable15 : Callable Try.prog 15 := ⟨_, Try.func15, by kernel_rfl, by kernel_rfl⟩
set_option maxHeartbeats 8000000 in
theorem storeOldMain (B : Base) (H : List Res) (w : World) (ad : Option Addr) (c : Nat) (ll : List (List Wr)) (xs : List Value) (cut clock : Int) (hl0 : 0 < ll.length) (hr : RdV B [] ad xs) (hwss : WssRd B ll xs) (hv : Inv B H w) :
  Calls Try.prog 4 #[.slice ad ll.length c, .int .i64 cut, .int .i64 clock] w fun e w' => e = .returned (.bool true) ∧ Inv B H w' := by
 refine (callsIn_wide (n := 5)).1 ?_
 refine callsIn_of_wp Try.func4 rfl trivial ?_
 simp only [Try.ntmps4, List.size_toArray, List.length_cons, List.length_nil, Nat.reduceAdd, Nat.reduceSub, Array.replicate_succ, Array.replicate_zero, List.push_toArray, List.append_toArray, List.nil_append, List.cons_append]
 refine sK fun K1 hK1 => rL ?_
 refine xA (.bool false) rfl rfl rfl ?_
 refine wL ?_
 simp only [zP, zI, zS, zO]
 refine tN (hK1 _ _ ?_)
 clear hK1 K1
 refine sK fun K2 hK2 => ?_
 refine sK fun K3 hK3 => rL ?_
 refine xC l17bcallable6 rfl rfl (l := []) rfl ((lawAwake B _ _ hv).mono ?_)
 rintro e w4 ⟨rfl, hv⟩
 refine ⟨_, rfl, ?_⟩
 refine xG (.bool false) rfl rfl (ex_not (b := true) rfl rfl rfl) ?_
 refine xM (.bool false) rfl rfl rfl ?_
 simp only [zP, zI, zS, zO]
 refine xH 2 18 false (.slice ad ll.length c) rfl rfl rfl rfl (ex_move rfl rfl) ?_
 refine xH 2 18 false (.int .i64 (ll.length : Int)) rfl rfl rfl rfl (ex_len0 Try.underlying22 rfl rfl) ?_
 by_cases hb5 : (ll.length : Int) > 15
 ·refine xH 2 18 false (.bool true) rfl rfl rfl rfl (ex_gtr (k := .i64) (m := (ll.length : Int)) (n := 15) rfl rfl rfl (decide_eq_true hb5)) ?_
  simp only [zP, zI, zS, zO]
  refine xK false (.bool true) rfl rfl rfl rfl ?_
  refine wL ?_
  simp only [zP, zI, zS, zO]
  refine tN (hK3 _ _ ?_)
  clear hK3 K3
  refine wpIn_cond_true rfl ?_
  refine sK fun K6 hK6 => rL ?_
  refine xC l17bcallable6 rfl rfl (l := []) rfl ((lawAwake B _ _ hv).mono ?_)
  rintro e w7 ⟨rfl, hv⟩
  refine ⟨_, rfl, ?_⟩
  refine xA (.bool true) rfl rfl rfl ?_
  refine wL ?_
  simp only [zP, zI, zS, zO]
  refine tN (hK6 _ _ ?_)
  clear hK6 K6
  refine wpIn_ret ?_
  refine then_ret ?_
  clear hK2 K2
  refine bR rfl rfl ?_
  exact ⟨rfl, hv⟩
 refine xH 2 18 false (.bool false) rfl rfl rfl rfl (ex_gtr (k := .i64) (m := (ll.length : Int)) (n := 15) rfl rfl rfl (decide_eq_false hb5)) ?_
 simp only [zP, zI, zS, zO]
 refine xK false (.bool false) rfl rfl rfl rfl ?_
 refine wL ?_
 simp only [zP, zI, zS, zO]
 refine tN (hK3 _ _ ?_)
 clear hK3 K3
 refine wpIn_cond_false rfl ?_
 refine wpIn_skip ?_
 refine tN (hK2 _ _ ?_)
 clear hK2 K2
 refine sK fun K8 hK8 => rL ?_
 refine xC s27callable7 rfl rfl (l := []) rfl ((storeNew B _ _ hv).mono ?_)
 rintro e w9 ⟨s, p, rfl, hv⟩
 refine ⟨_, rfl, ?_⟩
 refine xA (.pointer (some ⟨s, 0, none⟩)) rfl rfl rfl ?_
 refine wL ?_
 simp only [zP, zI, zS, zO]
 refine tN (hK8 _ _ ?_)
 clear hK8 K8
 refine sK fun K10 hK10 => rL ?_
 refine xA (.int .i64 0) rfl rfl rfl ?_
 refine wL ?_
 simp only [zP, zI, zS, zO]
 refine tN (hK10 _ _ ?_)
 clear hK10 K10
 refine sK fun K11 hK11 => ?_
 refine sK fun K12 hK12 => rL ?_
 refine xM (.slice ad ll.length c) rfl rfl rfl ?_
 refine xG (.int .i64 (ll.length : Int)) rfl rfl (ex_len0 Try.underlying22 rfl rfl) ?_
 refine xG (.bool true) rfl rfl (ex_gtr (k := .i64) (m := (ll.length : Int)) (n := 0) rfl rfl rfl (decide_eq_true (by omega))) ?_
 refine wL ?_
 simp only [zP, zI, zS, zO]
 refine tN (hK12 _ _ ?_)
 clear hK12 K12
 refine wpIn_cond_true rfl ?_
 obtain ⟨r, k, hr1, hr2, hr3, hr4, hkl⟩ := wrapN cut ll.length (by omega)
 refine rL ?_
 refine xM (.int .i64 cut) rfl rfl rfl ?_
 refine xM (.slice ad ll.length c) rfl rfl rfl ?_
 refine xG (.int .i64 (ll.length : Int)) rfl rfl (ex_len0 Try.underlying22 rfl rfl) ?_
 simp only [zP, zI, zS, zO]
 refine xG (.int .i64 r) rfl rfl (ex_rem (m := cut) (n := (ll.length : Int)) rfl rfl rfl (by omega) hr1) ?_
 refine xM (.slice ad ll.length c) rfl rfl rfl ?_
 refine xG (.int .i64 (ll.length : Int)) rfl rfl (ex_len0 Try.underlying22 rfl rfl) ?_
 simp only [zP, zI, zS, zO]
 refine xG (.int .i64 (r + (ll.length : Int))) rfl rfl (ex_add (m := r) (n := (ll.length : Int)) rfl rfl rfl (i64_in (by omega))) ?_
 refine xM (.slice ad ll.length c) rfl rfl rfl ?_
 refine xG (.int .i64 (ll.length : Int)) rfl rfl (ex_len0 Try.underlying22 rfl rfl) ?_
 simp only [zP, zI, zS, zO]
 refine xG (.int .i64 (k : Int)) rfl rfl (ex_rem (m := (r + (ll.length : Int))) (n := (ll.length : Int)) rfl rfl rfl (by omega) hr4) ?_
 refine xA (.int .i64 (k : Int)) rfl rfl rfl ?_
 refine wL ?_
 simp only [zP, zI, zS, zO]
 refine tN (hK11 _ _ ?_)
 clear hK11 K11
 refine sK fun K13 hK13 => rL ?_
 refine xA (.slice none 0 0) rfl rfl rfl ?_
 refine wL ?_
 simp only [zP, zI, zS, zO]
 refine tN (hK13 _ _ ?_)
 clear hK13 K13
 refine sK fun K14 hK14 => rL ?_
 refine xA (.int .i64 0) rfl rfl rfl ?_
 refine wL ?_
 simp only [zP, zI, zS, zO]
 refine tN (hK14 _ _ ?_)
 clear hK14 K14
 refine sK fun K15 hK15 => ?_
 refine sK fun K16 hK16 => rL ?_
 refine xA (.int .i64 0) rfl rfl rfl ?_
 refine wL ?_
 simp only [zP, zI, zS, zO]
 refine tN (hK16 _ _ ?_)
 clear hK16 K16
 refine wpIn_block ?_
 gi_loopw [9, 10, 11] (fun x9 x10 x11 wr => ∃ (i n : Nat) (C : Base) (v : Value) (X : List (List Ent)) (bvs : List Value) (M : Model) (oa : Option Addr) (oc : Nat) (ows : List Wr) (oys : List Value) (st : Int), x9 = .slice oa ows.length oc ∧ x10 = .int .i64 st ∧ x11 = .int .i64 (i : Int) ∧ B.Le C ∧ i ≤ ll.length ∧ n ≤ i ∧ M.length ≤ 12 * i ∧ IxM C X M ∧ StoM M (n : Int) ∧ (i ≤ k ∨ OldI M ows st (n : Int) clock) ∧ RdV C [] oa oys ∧ WrsAt C ows oys ∧ Inv C (Res.cell s [.pointer (some ⟨p, 0, none⟩), .int .i64 (n : Int), .int .i64 0] 60 :: ixS 81 93 92 p v (M.length : Int) X bvs :: H) wr) (fun x9 x10 x11 _ => ll.length - (intOf x11).toNat)
 case atStart => exact ⟨0, 0, B, _, _, _, [], none, 0, [], [], 0, rfl, rfl, rfl, Base.Le.refl _, Nat.zero_le _, Nat.le_refl _, Nat.zero_le _, ixm_nil B, StoM.nil, .inl (Nat.zero_le _), rdV_nil, rfl, hv⟩
 case round =>
  obtain ⟨i, n, C, v, X, bvs, M, oa, oc, ows, oys, st, rfl, rfl, rfl, hBC, hi, hni, hMl, hxm, hsto, hold, hor1, how, hv⟩ := hrel
  refine sK fun K18 hK18 => ?_
  refine sK fun K19 hK19 => rL ?_
  refine xM (.int .i64 (i : Int)) rfl rfl rfl ?_
  refine xM (.slice ad ll.length c) rfl rfl rfl ?_
  refine xG (.int .i64 (ll.length : Int)) rfl rfl (ex_len0 Try.underlying22 rfl rfl) ?_
  simp only [zP, zI, zS, zO]
  by_cases hb20 : (i : Int) < (ll.length : Int)
  ·refine xG (.bool true) rfl rfl (ex_lss (k := .i64) (m := (i : Int)) (n := (ll.length : Int)) rfl rfl rfl (decide_eq_true hb20)) ?_
   refine wL ?_
   simp only [zP, zI, zS, zO]
   refine tN (hK19 _ _ ?_)
   clear hK19 K19
   refine wpIn_cond_true rfl ?_
   refine wpIn_skip ?_
   refine tN (hK18 _ _ ?_)
   clear hK18 K18
   refine sK fun K21 hK21 => ?_
   refine wpIn_block ?_
   refine sK fun K22 hK22 => ?_
   refine sK fun K23 hK23 => ?_
   obtain ⟨ws, hws⟩ : ∃ x, ll[i]? = some x := ⟨_, List.getElem?_eq_getElem (show i < ll.length by omega)⟩
   obtain ⟨wa, wc, ys, hxi, hwok9, hwr, hwrs⟩ := hwss i ws hws
   obtain ⟨bb, bo, had, hrd⟩ := row1_reads (hr.rdW []) hxi
   subst had
   refine rL ?_
   refine xM (.slice (some ⟨bb, bo, none⟩) ll.length c) rfl rfl rfl ?_
   refine xM (.int .i64 (i : Int)) rfl rfl rfl ?_
   refine xG (.pointer (some ⟨bb, bo + i, none⟩)) rfl rfl (ex_index rfl rfl rfl (run_idx1 (k := i) Try.underlying22 l17bes22 (by omega))) ?_
   simp only [zP, zI, zS, zO]
   refine xL (.slice wa ws.length wc) rfl rfl rfl (run_load1 l17bna27 (hrd _ _ _ hBC no_res hv 0 _ rfl)) ?_
   refine xC l17bcallable8 rfl rfl (l := [.slice wa ws.length wc]) rfl ((lawSmall C _ _ wa wc ws ys (hwr.more hBC (fun _ h => h)) (hwrs.more hBC) hv).mono ?_)
   rintro e w25 ⟨bl24, rfl, hbl24, hv⟩
   refine ⟨_, rfl, ?_⟩
   cases bl24
   ·refine xG (.bool true) rfl rfl (ex_not (b := false) rfl rfl rfl) ?_
    refine wL ?_
    simp only [zP, zI, zS, zO]
    refine tN (hK23 _ _ ?_)
    clear hK23 K23
    refine wpIn_cond_true rfl ?_
    refine sK fun K26 hK26 => rL ?_
    refine xA (.bool true) rfl rfl rfl ?_
    refine wL ?_
    simp only [zP, zI, zS, zO]
    refine tN (hK26 _ _ ?_)
    clear hK26 K26
    refine wpIn_ret ?_
    refine then_ret ?_
    clear hK22 K22
    refine blk_ret ?_
    refine then_ret ?_
    clear hK21 K21
    refine then_ret ?_
    refine blk_ret ?_
    refine then_ret ?_
    clear hK15 K15
    refine bR rfl rfl ?_
    exact ⟨rfl, ((hv.sub (List.Sublist.cons _ (List.Sublist.cons _ (List.Sublist.refl _))))).weak hBC⟩
   refine xG (.bool false) rfl rfl (ex_not (b := true) rfl rfl rfl) ?_
   refine wL ?_
   simp only [zP, zI, zS, zO]
   refine tN (hK23 _ _ ?_)
   clear hK23 K23
   refine wpIn_cond_false rfl ?_
   refine wpIn_skip ?_
   refine tN (hK22 _ _ ?_)
   clear hK22 K22
   refine sK fun K27 hK27 => ?_
   refine sK fun K28 hK28 => rL ?_
   refine xM (.int .i64 (i : Int)) rfl rfl rfl ?_
   refine xM (.int .i64 (k : Int)) rfl rfl rfl ?_
   by_cases hb29 : (i : Int) = (k : Int)
   ·refine xG (.bool true) rfl rfl (ex_eql (k := .i64) (m := (i : Int)) (n := (k : Int)) rfl rfl rfl (decide_eq_true hb29)) ?_
    refine wL ?_
    simp only [zP, zI, zS, zO]
    refine tN (hK28 _ _ ?_)
    clear hK28 K28
    refine wpIn_cond_true rfl ?_
    refine rL ?_
    refine xM (.pointer (some ⟨s, 0, none⟩)) rfl rfl rfl ?_
    refine xM (.int .i64 clock) rfl rfl rfl ?_
    replace hv := hv.front 1 rfl
    simp only [List.eraseIdx_cons_succ, List.eraseIdx_cons_zero] at hv
    replace hv := hv.front 1 rfl
    simp only [List.eraseIdx_cons_succ, List.eraseIdx_cons_zero] at hv
    refine xC l17bcallable13 rfl rfl (l := [.pointer (some ⟨s, 0, none⟩), .int .i64 clock]) rfl ((storeDump C _ _ s p v X bvs M (n : Int) 0 clock (hxm.more (Base.Le.refl _)) hsto.asc hv).mono ?_)
    rintro e w30 ⟨D0, da, dc, dys, hD0, rfl, hdok, hdr, hdw, hv⟩
    refine ⟨_, rfl, ?_⟩
    simp only [zP, zI, zS, zO]
    refine xM (.pointer (some ⟨s, 0, none⟩)) rfl rfl rfl ?_
    refine xC l17bcallable10 rfl rfl (l := [.pointer (some ⟨s, 0, none⟩)]) rfl ((storeLast D0 _ _ s p (n : Int) 0 hv).mono ?_)
    rintro e w31 ⟨rfl, hv⟩
    refine ⟨_, rfl, ?_⟩
    refine xA (.slice da ((dumpM M (n : Int) clock).length) dc) rfl rfl rfl ?_
    simp only [zP, zI, zS, zO]
    refine xA (.int .i64 (n : Int)) rfl rfl rfl ?_
    refine wL ?_
    simp only [zP, zI, zS, zO]
    refine tN (hK27 _ _ ?_)
    clear hK27 K27
    refine rL ?_
    refine xM (.pointer (some ⟨s, 0, none⟩)) rfl rfl rfl ?_
    refine xM (.slice (some ⟨bb, bo, none⟩) ll.length c) rfl rfl rfl ?_
    refine xM (.int .i64 (i : Int)) rfl rfl rfl ?_
    simp only [zP, zI, zS, zO]
    refine xG (.pointer (some ⟨bb, bo + i, none⟩)) rfl rfl (ex_index rfl rfl rfl (run_idx1 (k := i) Try.underlying22 l17bes22 (by omega))) ?_
    refine xL (.slice wa ws.length wc) rfl rfl rfl (run_load1 l17bna27 (hrd _ _ _ (hBC.trans hD0) no_res hv 0 _ rfl)) ?_
    obtain ⟨hl12, hsm⟩ := hbl24 rfl
    have hwat := hwrs.at_ hsm
    replace hv := hv.front 1 rfl
    simp only [List.eraseIdx_cons_succ, List.eraseIdx_cons_zero] at hv
    replace hv := hv.front 1 rfl
    simp only [List.eraseIdx_cons_succ, List.eraseIdx_cons_zero] at hv
    refine xC s27callable9 rfl rfl (l := [.pointer (some ⟨s, 0, none⟩), .slice wa ws.length wc]) rfl ((storeApply D0 _ _ s p v X bvs M (n : Int) 0 wa wc ys ws (hxm.more hD0) (by omega) (hwr.more (hBC.trans hD0) (fun _ h => h)) (hwat.more (hBC.trans hD0)) (by omega) (by omega) hv).mono ?_)
    rintro e w32 ⟨D, n2, ec, hD, rfl, hor⟩
    refine ⟨_, rfl, ?_⟩
    rcases hor with ⟨-, -, rfl, hv⟩ | ⟨rfl, rfl, happ, v', X', bvs', M', hxm2, hset, hv⟩
    ·refine wL ?_
     simp only [zP, zI, zS, zO]
     refine blk_normal ?_
     refine tN (hK21 _ _ ?_)
     clear hK21 K21
     refine rL ?_
     refine xM (.int .i64 (i : Int)) rfl rfl rfl ?_
     refine xG (.int .i64 ((i + 1 : Nat) : Int)) rfl rfl (ex_add (m := (i : Int)) (n := 1) rfl rfl rfl (by rw [i64_in (by omega)]; omega)) ?_
     refine xA (.int .i64 ((i + 1 : Nat) : Int)) rfl rfl rfl ?_
     refine wL ?_
     simp only [zP, zI, zS, zO]
     refine then_normal ?_
     go_roundw
     case rel => exact ⟨i + 1, n, _, _, _, _, M, _, _, _, _, _, rfl, rfl, rfl, ((hBC.trans hD0).trans hD), by omega, by omega, by omega, hxm.more (hD0.trans hD), hsto, .inr (OldI.start hxm.sorted (by omega)), hdr.more hD (fun _ h => h), hdw.more hD, ((hv.front 1 rfl).front 1 rfl)⟩
     case measure => show ll.length - (((i + 1 : Nat) : Int)).toNat < ll.length - ((i : Int)).toNat; omega
    have hm2 := hset.len
    refine wL ?_
    simp only [zP, zI, zS, zO]
    refine blk_normal ?_
    refine tN (hK21 _ _ ?_)
    clear hK21 K21
    refine rL ?_
    refine xM (.int .i64 (i : Int)) rfl rfl rfl ?_
    refine xG (.int .i64 ((i + 1 : Nat) : Int)) rfl rfl (ex_add (m := (i : Int)) (n := 1) rfl rfl rfl (by rw [i64_in (by omega)]; omega)) ?_
    refine xA (.int .i64 ((i + 1 : Nat) : Int)) rfl rfl rfl ?_
    refine wL ?_
    simp only [zP, zI, zS, zO]
    refine then_normal ?_
    go_roundw
    case rel => exact ⟨i + 1, n + 1, _, _, _, _, M', _, _, _, _, _, rfl, rfl, rfl, ((hBC.trans hD0).trans hD), by omega, by omega, by omega, hxm2.more (Base.Le.refl _), hsto.step happ hset, .inr ((OldI.start hxm.sorted (by omega)).step hset), hdr.more hD (fun _ h => h), hdw.more hD, ((hv.front 1 rfl).front 1 rfl)⟩
    case measure => show ll.length - (((i + 1 : Nat) : Int)).toNat < ll.length - ((i : Int)).toNat; omega
   refine xG (.bool false) rfl rfl (ex_eql (k := .i64) (m := (i : Int)) (n := (k : Int)) rfl rfl rfl (decide_eq_false hb29)) ?_
   refine wL ?_
   simp only [zP, zI, zS, zO]
   refine tN (hK28 _ _ ?_)
   clear hK28 K28
   refine wpIn_cond_false rfl ?_
   refine wpIn_skip ?_
   refine tN (hK27 _ _ ?_)
   clear hK27 K27
   refine rL ?_
   refine xM (.pointer (some ⟨s, 0, none⟩)) rfl rfl rfl ?_
   refine xM (.slice (some ⟨bb, bo, none⟩) ll.length c) rfl rfl rfl ?_
   refine xM (.int .i64 (i : Int)) rfl rfl rfl ?_
   simp only [zP, zI, zS, zO]
   refine xG (.pointer (some ⟨bb, bo + i, none⟩)) rfl rfl (ex_index rfl rfl rfl (run_idx1 (k := i) Try.underlying22 l17bes22 (by omega))) ?_
   refine xL (.slice wa ws.length wc) rfl rfl rfl (run_load1 l17bna27 (hrd _ _ _ hBC no_res hv 0 _ rfl)) ?_
   obtain ⟨hl12, hsm⟩ := hbl24 rfl
   have hwat := hwrs.at_ hsm
   replace hv := hv.front 1 rfl
   simp only [List.eraseIdx_cons_succ, List.eraseIdx_cons_zero] at hv
   replace hv := hv.front 1 rfl
   simp only [List.eraseIdx_cons_succ, List.eraseIdx_cons_zero] at hv
   refine xC s27callable9 rfl rfl (l := [.pointer (some ⟨s, 0, none⟩), .slice wa ws.length wc]) rfl ((storeApply C _ _ s p v X bvs M (n : Int) 0 wa wc ys ws (hxm.more (Base.Le.refl _)) (by omega) (hwr.more hBC (fun _ h => h)) (hwat.more hBC) (by omega) (by omega) hv).mono ?_)
   rintro e w33 ⟨D, n2, ec, hD, rfl, hor⟩
   refine ⟨_, rfl, ?_⟩
   rcases hor with ⟨-, -, rfl, hv⟩ | ⟨rfl, rfl, happ, v', X', bvs', M', hxm2, hset, hv⟩
   ·refine wL ?_
    simp only [zP, zI, zS, zO]
    refine blk_normal ?_
    refine tN (hK21 _ _ ?_)
    clear hK21 K21
    refine rL ?_
    refine xM (.int .i64 (i : Int)) rfl rfl rfl ?_
    refine xG (.int .i64 ((i + 1 : Nat) : Int)) rfl rfl (ex_add (m := (i : Int)) (n := 1) rfl rfl rfl (by rw [i64_in (by omega)]; omega)) ?_
    refine xA (.int .i64 ((i + 1 : Nat) : Int)) rfl rfl rfl ?_
    refine wL ?_
    simp only [zP, zI, zS, zO]
    refine then_normal ?_
    go_roundw
    case rel => exact ⟨i + 1, n, _, _, _, _, M, oa, oc, ows, oys, st, rfl, rfl, rfl, (hBC.trans hD), by omega, by omega, by omega, hxm.more hD, hsto, hold.elim (fun h => .inl (by omega)) (fun h => .inr (h)), hor1.more hD (fun _ h => h), how.more hD, ((hv.front 1 rfl).front 1 rfl)⟩
    case measure => show ll.length - (((i + 1 : Nat) : Int)).toNat < ll.length - ((i : Int)).toNat; omega
   have hm2 := hset.len
   refine wL ?_
   simp only [zP, zI, zS, zO]
   refine blk_normal ?_
   refine tN (hK21 _ _ ?_)
   clear hK21 K21
   refine rL ?_
   refine xM (.int .i64 (i : Int)) rfl rfl rfl ?_
   refine xG (.int .i64 ((i + 1 : Nat) : Int)) rfl rfl (ex_add (m := (i : Int)) (n := 1) rfl rfl rfl (by rw [i64_in (by omega)]; omega)) ?_
   refine xA (.int .i64 ((i + 1 : Nat) : Int)) rfl rfl rfl ?_
   refine wL ?_
   simp only [zP, zI, zS, zO]
   refine then_normal ?_
   go_roundw
   case rel => exact ⟨i + 1, n + 1, _, _, _, _, M', oa, oc, ows, oys, st, rfl, rfl, rfl, (hBC.trans hD), by omega, by omega, by omega, hxm2.more (Base.Le.refl _), hsto.step happ hset, hold.elim (fun h => .inl (by omega)) (fun h => .inr ((h).step hset)), hor1.more hD (fun _ h => h), how.more hD, ((hv.front 1 rfl).front 1 rfl)⟩
   case measure => show ll.length - (((i + 1 : Nat) : Int)).toNat < ll.length - ((i : Int)).toNat; omega
  refine xG (.bool false) rfl rfl (ex_lss (k := .i64) (m := (i : Int)) (n := (ll.length : Int)) rfl rfl rfl (decide_eq_false hb20)) ?_
  refine wL ?_
  simp only [zP, zI, zS, zO]
  refine tN (hK19 _ _ ?_)
  clear hK19 K19
  refine wpIn_cond_false rfl ?_
  refine wpIn_exit ?_
  refine then_exit ?_
  clear hK18 K18
  refine then_exit ?_
  refine blk_hit ?_
  refine tN (hK15 _ _ ?_)
  clear hK15 K15
  refine sK fun K34 hK34 => ?_
  obtain rfl : i = ll.length := by omega
  have hold1 : OldI M ows st (n : Int) clock := hold.elim (fun h => by omega) id
  have hkeys := hold1.keys hxm.sorted
  have hlen : (namesM M st clock).length = ows.length := by rw [← hkeys, List.length_map]
  have hnle := namesM_le M st clock
  refine rL ?_
  refine xM (.pointer (some ⟨s, 0, none⟩)) rfl rfl rfl ?_
  refine xM (.int .i64 st) rfl rfl rfl ?_
  refine xM (.int .i64 clock) rfl rfl rfl ?_
  simp only [zP, zI, zS, zO]
  replace hv := hv.front 1 rfl
  simp only [List.eraseIdx_cons_succ, List.eraseIdx_cons_zero] at hv
  replace hv := hv.front 1 rfl
  simp only [List.eraseIdx_cons_succ, List.eraseIdx_cons_zero] at hv
  refine xC l17bcallable14 rfl rfl (l := [.pointer (some ⟨s, 0, none⟩), .int .i64 st, .int .i64 clock]) rfl ((storeNames C _ _ s p v X bvs M (n : Int) 0 st clock (hxm.more (Base.Le.refl _)) hsto.asc hv).mono ?_)
  rintro e w35 ⟨na, nc, rfl, hv⟩
  refine ⟨_, rfl, ?_⟩
  obtain ⟨K0, hK0, hv7, hrk, -, -⟩ := hv.rowBy
  clear hv
  have hv := hv7
  clear hv7
  refine xA (.slice na ((namesM M st clock).length) nc) rfl rfl rfl ?_
  refine wL ?_
  simp only [zP, zI, zS, zO]
  refine tN (hK34 _ _ ?_)
  clear hK34 K34
  refine sK fun K36 hK36 => ?_
  refine sK fun K37 hK37 => rL ?_
  refine xM (.slice na ((namesM M st clock).length) nc) rfl rfl rfl ?_
  refine xG (.int .i64 (((namesM M st clock).length) : Int)) rfl rfl (ex_len0 Try.underlying33 rfl rfl) ?_
  refine xM (.slice oa ows.length oc) rfl rfl rfl ?_
  simp only [zP, zI, zS, zO]
  refine xG (.int .i64 (ows.length : Int)) rfl rfl (ex_len0 Try.underlying27 rfl rfl) ?_
  refine xG (.bool false) rfl rfl (ex_neq (k := .i64) (m := (((namesM M st clock).length) : Int)) (n := (ows.length : Int)) rfl rfl rfl (decide_eq_false (fun h => h (by rw [hlen])))) ?_
  refine wL ?_
  simp only [zP, zI, zS, zO]
  refine tN (hK37 _ _ ?_)
  clear hK37 K37
  refine wpIn_cond_false rfl ?_
  refine wpIn_skip ?_
  refine tN (hK36 _ _ ?_)
  clear hK36 K36
  refine sK fun K38 hK38 => ?_
  refine sK fun K39 hK39 => rL ?_
  refine xA (.int .i64 0) rfl rfl rfl ?_
  refine wL ?_
  simp only [zP, zI, zS, zO]
  refine tN (hK39 _ _ ?_)
  clear hK39 K39
  refine wpIn_block ?_
  gi_loopw [13] (fun x13 wr => ∃ (j : Nat) (E : Base), x13 = .int .i64 (j : Int) ∧ K0.Le E ∧ j ≤ (namesM M st clock).length ∧ Inv E (Res.cell s [.pointer (some ⟨p, 0, none⟩), .int .i64 (n : Int), .int .i64 0] 60 :: ixS 81 93 92 p v (M.length : Int) X bvs :: H) wr) (fun x13 _ => (namesM M st clock).length - (intOf x13).toNat)
  case atStart => exact ⟨0, K0, rfl, Base.Le.refl _, Nat.zero_le _, ((hv.front 1 rfl).front 1 rfl)⟩
  case round =>
   obtain ⟨j, E, rfl, hKE, hj, hv⟩ := hrel
   refine sK fun K41 hK41 => ?_
   refine sK fun K42 hK42 => rL ?_
   refine xM (.int .i64 (j : Int)) rfl rfl rfl ?_
   refine xM (.slice na ((namesM M st clock).length) nc) rfl rfl rfl ?_
   refine xG (.int .i64 (((namesM M st clock).length) : Int)) rfl rfl (ex_len0 Try.underlying33 rfl rfl) ?_
   simp only [zP, zI, zS, zO]
   by_cases hb43 : (j : Int) < (((namesM M st clock).length) : Int)
   ·refine xG (.bool true) rfl rfl (ex_lss (k := .i64) (m := (j : Int)) (n := (((namesM M st clock).length) : Int)) rfl rfl rfl (decide_eq_true hb43)) ?_
    refine wL ?_
    simp only [zP, zI, zS, zO]
    refine tN (hK42 _ _ ?_)
    clear hK42 K42
    refine wpIn_cond_true rfl ?_
    refine wpIn_skip ?_
    refine tN (hK41 _ _ ?_)
    clear hK41 K41
    refine sK fun K44 hK44 => ?_
    refine wpIn_block ?_
    refine sK fun K45 hK45 => ?_
    have hjw : j < ows.length := by omega
    obtain ⟨x, hx⟩ : ∃ x, ows[j]? = some x := ⟨_, List.getElem?_eq_getElem (show j < ows.length by omega)⟩
    obtain ⟨b3, o3, xp, xt, xz, had, hvalx, hrdx⟩ := WrsAt.reads how hor1 hx
    subst had
    have hkx : (namesM M st clock)[j]? = some x.key := by rw [← hkeys, List.getElem?_map, hx]; rfl
    have hget := hold1.get (List.mem_of_getElem? hx)
    obtain ⟨b4, o4, had4, hrd4⟩ := text_reads hrk hkx
    subst had4
    refine rL ?_
    refine xM (.pointer (some ⟨s, 0, none⟩)) rfl rfl rfl ?_
    refine xM (.slice (some ⟨b4, o4, none⟩) ((namesM M st clock).length) nc) rfl rfl rfl ?_
    refine xM (.int .i64 (j : Int)) rfl rfl rfl ?_
    simp only [zP, zI, zS, zO]
    refine xG (.pointer (some ⟨b4, o4 + j, none⟩)) rfl rfl (ex_index rfl rfl rfl (run_idx1 (k := j) Try.underlying33 s9es33 (by omega))) ?_
    refine xL (.string ⟨x.key.toArray⟩) rfl rfl rfl (run_load1 s3na9 (hrd4 _ _ _ hKE no_res hv 0 _ rfl)) ?_
    refine xM (.int .i64 st) rfl rfl rfl ?_
    simp only [zP, zI, zS, zO]
    refine xM (.int .i64 clock) rfl rfl rfl ?_
    replace hv := hv.front 1 rfl
    simp only [List.eraseIdx_cons_succ, List.eraseIdx_cons_zero] at hv
    replace hv := hv.front 1 rfl
    simp only [List.eraseIdx_cons_succ, List.eraseIdx_cons_zero] at hv
    refine xC s26callable11 rfl rfl (l := [.pointer (some ⟨s, 0, none⟩), .string ⟨x.key.toArray⟩, .int .i64 st, .int .i64 clock]) rfl ((storeReadV E _ _ s p v X bvs M (n : Int) 0 st clock x.key (hxm.more (hK0.trans hKE)) hsto.asc hv).mono ?_)
    rintro e w46 ⟨F, y, p3, t3, z3, ok, hF, rfl, hrd9, hvy, hv⟩
    refine ⟨_, rfl, ?_⟩
    rw [hget] at hrd9
    rcases hrd9 with ⟨rfl, hrd9⟩ | ⟨-, hrd9⟩
    rotate_left
    ·cases hrd9
    have hy : y = x.ver := by cases hrd9; rfl
    refine xM (.tuple #[.agg #[.int .i64 y.stamp, .bool y.gone, .int .i64 y.expire, .int .i64 y.val.kind, .string ⟨y.val.text.toArray⟩, p3, t3, z3], .bool true]) rfl rfl rfl ?_
    simp only [zP, zI, zS, zO]
    refine xG (.agg #[.int .i64 y.stamp, .bool y.gone, .int .i64 y.expire, .int .i64 y.val.kind, .string ⟨y.val.text.toArray⟩, p3, t3, z3]) rfl rfl (ex_extract rfl rfl rfl) ?_
    refine xG (.bool true) rfl rfl (ex_extract rfl rfl rfl) ?_
    refine sl_alloc tV (wn rfl) rfl hv l17bal38 (fun b47 w48 hv => ?_)
    simp only [zP, zI, zS, zO]
    refine sl_storeNAt 0 (new := [.int .i64 y.stamp, .bool y.gone, .int .i64 y.expire, .int .i64 y.val.kind, .string ⟨y.val.text.toArray⟩, p3, t3, z3]) (pre := []) (mid := [.int .i64 0, .bool false, .int .i64 0, .int .i64 0, .string ⟨([] : List UInt8).toArray⟩, .slice none 0 0, .slice none 0 0, .slice none 0 0]) (post := []) (L' := [.int .i64 y.stamp, .bool y.gone, .int .i64 y.expire, .int .i64 y.val.kind, .string ⟨y.val.text.toArray⟩, p3, t3, z3]) tV (wn rfl) rfl rfl rfl hv rfl s1sz38 rfl rfl rfl (one_cons rfl (one_cons rfl (one_cons rfl (one_cons rfl (one_cons rfl (one_cons hvy.p.one (one_cons hvy.t.one (one_cons hvy.z.one one_nil)))))))) rfl (fun w49 hv => ?_)
    simp only [List.set_cons_zero] at hv
    refine xA (.bool true) rfl rfl rfl ?_
    refine wL ?_
    simp only [zP, zN, zI, zS, zO]
    refine tN (hK45 _ _ ?_)
    clear hK45 K45
    refine sK fun K50 hK50 => ?_
    refine region_st mixed [.bool true, .bool false, .bool false, .slice (some ⟨b4, o4, none⟩) ((namesM M st clock).length) nc, .int .i64 (j : Int), .pointer (some ⟨b4, o4 + j, none⟩), .string ⟨x.key.toArray⟩, .slice (some ⟨b3, o3, none⟩) ows.length oc, .int .i64 (j : Int), .pointer (some ⟨b3, o3 + j * 9, none⟩), .pointer (some ⟨b3, o3 + j * 9, none⟩), .string ⟨x.key.toArray⟩, .bool false, .bool false, .bool false, .agg #[.int .i64 y.stamp, .bool y.gone, .int .i64 y.expire, .int .i64 y.val.kind, .string ⟨y.val.text.toArray⟩, p3, t3, z3], .slice (some ⟨b3, o3, none⟩) ows.length oc, .int .i64 (j : Int), .pointer (some ⟨b3, o3 + j * 9, none⟩), .pointer (some ⟨b3, o3 + j * 9 + 1, none⟩), .agg #[.int .i64 x.ver.stamp, .bool x.ver.gone, .int .i64 x.ver.expire, .int .i64 x.ver.val.kind, .string ⟨x.ver.val.text.toArray⟩, xp, xt, xz], undef, .bool false, .bool false] [21] [⟨fun vals w => vals = [] ∧ Inv F (Res.cell b47 [.int .i64 y.stamp, .bool y.gone, .int .i64 y.expire, .int .i64 y.val.kind, .string ⟨y.val.text.toArray⟩, p3, t3, z3] 38 :: Res.cell s [.pointer (some ⟨p, 0, none⟩), .int .i64 (n : Int), .int .i64 0] 60 :: ixS 81 93 92 p v (M.length : Int) X bvs :: H) w, fun _ _ _ ⟨h, hi⟩ he => ⟨h, hi.ext he⟩⟩, ⟨fun vals w => vals = [.bool true] ∧ Inv F (Res.cell b47 [.int .i64 y.stamp, .bool y.gone, .int .i64 y.expire, .int .i64 y.val.kind, .string ⟨y.val.text.toArray⟩, p3, t3, z3] 38 :: Res.cell s [.pointer (some ⟨p, 0, none⟩), .int .i64 (n : Int), .int .i64 0] 60 :: ixS 81 93 92 p v (M.length : Int) X bvs :: H) w, fun _ _ _ ⟨h, hi⟩ he => ⟨h, hi.ext he⟩⟩] 114 rfl (by kernel_rfl) ⟨rfl, hv⟩ ⟨?_, ?_, ?_, ?_, ?_, ?_, ?_, ?_, ?_, ?_, ?_, ?_, ?_, ?_, ?_, ?_, ?_, ?_, ?_, ?_, ?_, ?_, ?_, ?_, trivial⟩ ?_
    ·intro aa ww vals hJ hR
     exact xD rfl (ex_move rfl (show aa.eval (.tmp 15) = _ from hR.keep 15 rfl)) rfl rfl
    ·intro aa ww vals hJ hR
     exact xD rfl (ex_not (b := true) rfl (hR.w 0 90 rfl rfl rfl rfl) rfl) rfl rfl
    ·intro aa ww vals hJ hR
     exact xD rfl (ex_move rfl (hR.w 1 91 rfl rfl rfl rfl)) rfl rfl
    ·intro aa ww vals hJ hR
     exact add_step' rfl (Ex.adds' (ex_move rfl (show aa.eval (.tmp 12) = _ from hR.keep 12 rfl)) (wanted_of (j := 2) (d := 92) (b := false) rfl rfl (hR.v 2 92 rfl rfl rfl rfl)) rfl)
    ·intro aa ww vals hJ hR
     exact add_step' rfl (Ex.adds' (ex_move rfl (show aa.eval (.tmp 13) = _ from hR.keep 13 rfl)) (wanted_of (j := 2) (d := 92) (b := false) rfl rfl (hR.v 2 92 rfl rfl rfl rfl)) rfl)
    ·intro aa ww vals hJ hR
     exact add_step' rfl (Ex.adds' (ex_index rfl (hR.w 3 93 rfl rfl rfl rfl) (hR.w 4 94 rfl rfl rfl rfl) (run_idx1 (k := j) Try.underlying33 s9es33 (by omega))) (wanted_of (j := 2) (d := 92) (b := false) rfl rfl (hR.v 2 92 rfl rfl rfl rfl)) rfl)
    ·intro aa ww vals hJ hR
     have h2 : vals.length ≤ 0 := hR.hi 21 (by simp) rfl
     have hl : vals.length = 0 := by omega
     obtain ⟨hvals, hv⟩ := hJ.at0 hl
     exact add_step' rfl (Ex.adds' (ex_load rfl (hR.w 5 95 rfl rfl rfl rfl) (run_load1 s3na9 (hrd4 _ _ _ (hKE.trans hF) no_res hv 0 _ rfl))) (wanted_of (j := 2) (d := 92) (b := false) rfl rfl (hR.v 2 92 rfl rfl rfl rfl)) rfl)
    ·intro aa ww vals hJ hR
     exact add_step' rfl (Ex.adds' (ex_move rfl (show aa.eval (.tmp 9) = _ from hR.keep 9 rfl)) (wanted_of (j := 2) (d := 92) (b := false) rfl rfl (hR.v 2 92 rfl rfl rfl rfl)) rfl)
    ·intro aa ww vals hJ hR
     exact add_step' rfl (Ex.adds' (ex_move rfl (show aa.eval (.tmp 13) = _ from hR.keep 13 rfl)) (wanted_of (j := 2) (d := 92) (b := false) rfl rfl (hR.v 2 92 rfl rfl rfl rfl)) rfl)
    ·intro aa ww vals hJ hR
     exact add_step' rfl (Ex.adds' (ex_index rfl (hR.w 7 97 rfl rfl rfl rfl) (hR.w 8 98 rfl rfl rfl rfl) (run_idx (k := j) Try.underlying27 s8es27 (by omega))) (wanted_of (j := 2) (d := 92) (b := false) rfl rfl (hR.v 2 92 rfl rfl rfl rfl)) rfl)
    ·intro aa ww vals hJ hR
     exact add_step' rfl (Ex.adds' (ex_field rfl (hR.w 9 99 rfl rfl rfl rfl) (s8fa40_0 _ _ _)) (wanted_of (j := 2) (d := 92) (b := false) rfl rfl (hR.v 2 92 rfl rfl rfl rfl)) rfl)
    ·intro aa ww vals hJ hR
     have h2 : vals.length ≤ 0 := hR.hi 21 (by simp) rfl
     have hl : vals.length = 0 := by omega
     obtain ⟨hvals, hv⟩ := hJ.at0 hl
     exact add_step' rfl (Ex.adds' (ex_load rfl (hR.w 10 100 rfl rfl rfl rfl) (run_load1 s3na9 (hrdx _ _ _ ((hK0.trans hKE).trans hF) no_res hv 0 _ rfl))) (wanted_of (j := 2) (d := 92) (b := false) rfl rfl (hR.v 2 92 rfl rfl rfl rfl)) rfl)
    ·intro aa ww vals hJ hR
     exact add_step' rfl (Ex.adds' (ex_sneq (s := x.key) (s' := x.key) rfl (hR.w 6 96 rfl rfl rfl rfl) (hR.w 11 101 rfl rfl rfl rfl) (decide_eq_false (fun h => h rfl))) (wanted_of (j := 2) (d := 92) (b := false) rfl rfl (hR.v 2 92 rfl rfl rfl rfl)) rfl)
    ·intro aa ww vals hJ hR
     exact xD rfl (ex_pick (b := false) rfl (hR.w 2 92 rfl rfl rfl rfl) (hR.w 12 102 rfl rfl rfl rfl)) rfl rfl
    ·intro aa ww vals hJ hR
     exact xD rfl (ex_move rfl (hR.w 13 103 rfl rfl rfl rfl)) rfl rfl
    ·intro aa ww vals hJ hR
     have h2 : vals.length ≤ 0 := hR.hi 21 (by simp) rfl
     have hl : vals.length = 0 := by omega
     obtain ⟨hvals, hv⟩ := hJ.at0 hl
     exact add_step' rfl (Ex.adds' (ex_load rfl (show aa.eval (.tmp 14) = _ from hR.keep 14 rfl) (run_load_mid (pre := []) (mid := [.int .i64 y.stamp, .bool y.gone, .int .i64 y.expire, .int .i64 y.val.kind, .string ⟨y.val.text.toArray⟩, p3, t3, z3]) (post := []) s1wd38 (show Blk _ b47 ([] ++ [.int .i64 y.stamp, .bool y.gone, .int .i64 y.expire, .int .i64 y.val.kind, .string ⟨y.val.text.toArray⟩, p3, t3, z3] ++ []) _ from hv.get 0 rfl) rfl)) (wanted_of (j := 14) (d := 104) (b := false) rfl rfl (hR.v 14 104 rfl rfl rfl rfl)) rfl)
    ·intro aa ww vals hJ hR
     exact add_step' rfl (Ex.adds' (ex_move rfl (show aa.eval (.tmp 9) = _ from hR.keep 9 rfl)) (wanted_of (j := 14) (d := 104) (b := false) rfl rfl (hR.v 14 104 rfl rfl rfl rfl)) rfl)
    ·intro aa ww vals hJ hR
     exact add_step' rfl (Ex.adds' (ex_move rfl (show aa.eval (.tmp 13) = _ from hR.keep 13 rfl)) (wanted_of (j := 14) (d := 104) (b := false) rfl rfl (hR.v 14 104 rfl rfl rfl rfl)) rfl)
    ·intro aa ww vals hJ hR
     exact add_step' rfl (Ex.adds' (ex_index rfl (hR.w 16 106 rfl rfl rfl rfl) (hR.w 17 107 rfl rfl rfl rfl) (run_idx (k := j) Try.underlying27 s8es27 (by omega))) (wanted_of (j := 14) (d := 104) (b := false) rfl rfl (hR.v 14 104 rfl rfl rfl rfl)) rfl)
    ·intro aa ww vals hJ hR
     exact add_step' rfl (Ex.adds' (ex_field rfl (hR.w 18 108 rfl rfl rfl rfl) (s14fa40_1 _ _ _)) (wanted_of (j := 14) (d := 104) (b := false) rfl rfl (hR.v 14 104 rfl rfl rfl rfl)) rfl)
    ·intro aa ww vals hJ hR
     have h2 : vals.length ≤ 0 := hR.hi 21 (by simp) rfl
     have hl : vals.length = 0 := by omega
     obtain ⟨hvals, hv⟩ := hJ.at0 hl
     exact add_step' rfl (Ex.adds' (ex_load rfl (hR.w 19 109 rfl rfl rfl rfl) (run_loadR (cs := [.int .i64 x.ver.stamp, .bool x.ver.gone, .int .i64 x.ver.expire, .int .i64 x.ver.val.kind, .string ⟨x.ver.val.text.toArray⟩, xp, xt, xz]) s1wd38 (Reads.mid (pre := [.string ⟨x.key.toArray⟩]) (mid := [.int .i64 x.ver.stamp, .bool x.ver.gone, .int .i64 x.ver.expire, .int .i64 x.ver.val.kind, .string ⟨x.ver.val.text.toArray⟩, xp, xt, xz]) (post := []) hrdx _ _ _ ((hK0.trans hKE).trans hF) no_res hv))) (wanted_of (j := 14) (d := 104) (b := false) rfl rfl (hR.v 14 104 rfl rfl rfl rfl)) rfl)
    ·intro aa ww vals hJ hR
     refine mem_step' rfl fun hvl => ?_
     have hl : vals.length = 0 := hvl
     obtain ⟨hvals, hv⟩ := hJ.at0 hl
     refine stepMem_calls l17bcallable15 (wanted_of (j := 14) (d := 104) (b := false) rfl rfl (hR.v 14 104 rfl rfl rfl rfl)) rfl (args := #[.agg #[.int .i64 y.stamp, .bool y.gone, .int .i64 y.expire, .int .i64 y.val.kind, .string ⟨y.val.text.toArray⟩, p3, t3, z3], .agg #[.int .i64 x.ver.stamp, .bool x.ver.gone, .int .i64 x.ver.expire, .int .i64 x.ver.val.kind, .string ⟨x.ver.val.text.toArray⟩, xp, xt, xz]]) (by simp only [yA, yB, yC]; rw [show aa.eval (.tmp 105) = .agg #[.int .i64 y.stamp, .bool y.gone, .int .i64 y.expire, .int .i64 y.val.kind, .string ⟨y.val.text.toArray⟩, p3, t3, z3] from hR.v 15 105 rfl rfl rfl rfl, show aa.eval (.tmp 110) = .agg #[.int .i64 x.ver.stamp, .bool x.ver.gone, .int .i64 x.ver.expire, .int .i64 x.ver.val.kind, .string ⟨x.ver.val.text.toArray⟩, xp, xt, xz] from hR.v 20 110 rfl rfl rfl rfl] <;> rfl) ((refSame1E F _ _ y x.ver _ _ _ _ _ _ hvy hy (hvalx.more ((hK0.trans hKE).trans hF)) hv).mono ?_)
     rintro e w51 ⟨rfl, hv⟩
     refine ⟨_, rfl, JS.next hl ⟨by rw [hvals]; rfl, hv⟩⟩
    ·intro aa ww vals hJ hR
     have h1 : 0 < vals.length := hR.lo 21 (by simp) rfl
     have hl : vals.length = 1 := by have := JS.le (n := 1) (by rfl) hJ; omega
     obtain ⟨hvals, hv⟩ := hJ.at0 hl
     exact add_step' rfl (Ex.adds' (ex_not (b := true) rfl (show aa.eval (.tmp 111) = _ from (hR.val 21 111 rfl rfl rfl).trans (by rw [hvals] <;> rfl)) rfl) (wanted_of (j := 14) (d := 104) (b := false) rfl rfl (hR.v 14 104 rfl rfl rfl rfl)) rfl)
    ·intro aa ww vals hJ hR
     exact xD rfl (ex_pick (b := false) rfl (hR.w 14 104 rfl rfl rfl rfl) (hR.w 22 112 rfl rfl rfl rfl)) rfl rfl
    rintro w52 vals ⟨rfl, hv⟩
    rw [show mixV [21] [.bool true] 0 [.bool true, .bool false, .bool false, .slice (some ⟨b4, o4, none⟩) ((namesM M st clock).length) nc, .int .i64 (j : Int), .pointer (some ⟨b4, o4 + j, none⟩), .string ⟨x.key.toArray⟩, .slice (some ⟨b3, o3, none⟩) ows.length oc, .int .i64 (j : Int), .pointer (some ⟨b3, o3 + j * 9, none⟩), .pointer (some ⟨b3, o3 + j * 9, none⟩), .string ⟨x.key.toArray⟩, .bool false, .bool false, .bool false, .agg #[.int .i64 y.stamp, .bool y.gone, .int .i64 y.expire, .int .i64 y.val.kind, .string ⟨y.val.text.toArray⟩, p3, t3, z3], .slice (some ⟨b3, o3, none⟩) ows.length oc, .int .i64 (j : Int), .pointer (some ⟨b3, o3 + j * 9, none⟩), .pointer (some ⟨b3, o3 + j * 9 + 1, none⟩), .agg #[.int .i64 x.ver.stamp, .bool x.ver.gone, .int .i64 x.ver.expire, .int .i64 x.ver.val.kind, .string ⟨x.ver.val.text.toArray⟩, xp, xt, xz], undef, .bool false, .bool false] = [.bool true, .bool false, .bool false, .slice (some ⟨b4, o4, none⟩) ((namesM M st clock).length) nc, .int .i64 (j : Int), .pointer (some ⟨b4, o4 + j, none⟩), .string ⟨x.key.toArray⟩, .slice (some ⟨b3, o3, none⟩) ows.length oc, .int .i64 (j : Int), .pointer (some ⟨b3, o3 + j * 9, none⟩), .pointer (some ⟨b3, o3 + j * 9, none⟩), .string ⟨x.key.toArray⟩, .bool false, .bool false, .bool false, .agg #[.int .i64 y.stamp, .bool y.gone, .int .i64 y.expire, .int .i64 y.val.kind, .string ⟨y.val.text.toArray⟩, p3, t3, z3], .slice (some ⟨b3, o3, none⟩) ows.length oc, .int .i64 (j : Int), .pointer (some ⟨b3, o3 + j * 9, none⟩), .pointer (some ⟨b3, o3 + j * 9 + 1, none⟩), .agg #[.int .i64 x.ver.stamp, .bool x.ver.gone, .int .i64 x.ver.expire, .int .i64 x.ver.val.kind, .string ⟨x.ver.val.text.toArray⟩, xp, xt, xz], .bool true, .bool false, .bool false] from rfl]
    simp only [putAll, zP, zI, zS, zO]
    refine tN (hK50 _ _ ?_)
    clear hK50 K50
    refine wpIn_cond_false rfl ?_
    refine wpIn_skip ?_
    refine blk_normal ?_
    refine tN (hK44 _ _ ?_)
    clear hK44 K44
    refine rL ?_
    refine xM (.int .i64 (j : Int)) rfl rfl rfl ?_
    refine xG (.int .i64 ((j + 1 : Nat) : Int)) rfl rfl (ex_add (m := (j : Int)) (n := 1) rfl rfl rfl (by rw [i64_in (by omega)]; omega)) ?_
    refine xA (.int .i64 ((j + 1 : Nat) : Int)) rfl rfl rfl ?_
    refine wL ?_
    simp only [zP, zI, zS, zO]
    refine then_normal ?_
    go_roundw
    case rel => exact ⟨j + 1, _, rfl, (hKE.trans hF), by omega, (((hv.front 2 rfl).front 2 rfl).sub (List.Sublist.cons_cons _ (List.Sublist.cons_cons _ (List.Sublist.cons _ (List.Sublist.refl _)))))⟩
    case measure => show (namesM M st clock).length - (((j + 1 : Nat) : Int)).toNat < (namesM M st clock).length - ((j : Int)).toNat; omega
   refine xG (.bool false) rfl rfl (ex_lss (k := .i64) (m := (j : Int)) (n := (((namesM M st clock).length) : Int)) rfl rfl rfl (decide_eq_false hb43)) ?_
   refine wL ?_
   simp only [zP, zI, zS, zO]
   refine tN (hK42 _ _ ?_)
   clear hK42 K42
   refine wpIn_cond_false rfl ?_
   refine wpIn_exit ?_
   refine then_exit ?_
   clear hK41 K41
   refine then_exit ?_
   refine blk_hit ?_
   refine tN (hK38 _ _ ?_)
   clear hK38 K38
   refine sK fun K53 hK53 => rL ?_
   refine xA (.bool true) rfl rfl rfl ?_
   refine wL ?_
   simp only [zP, zI, zS, zO]
   refine tN (hK53 _ _ ?_)
   clear hK53 K53
   refine wpIn_ret ?_
   refine bR rfl rfl ?_
   exact ⟨rfl, ((hv.sub (List.Sublist.cons _ (List.Sublist.cons _ (List.Sublist.refl _))))).weak ((hBC.trans hK0).trans hKE)⟩
set_option maxHeartbeats 8000000 in
theorem storeOldNil (B : Base) (H : List Res) (w : World) (ad : Option Addr) (c : Nat) (cut clock : Int) (hv : Inv B H w) :
  Calls Try.prog 4 #[.slice ad 0 c, .int .i64 cut, .int .i64 clock] w fun e w' => e = .returned (.bool true) ∧ Inv B H w' := by
 refine (callsIn_wide (n := 5)).1 ?_
 refine callsIn_of_wp Try.func4 rfl trivial ?_
 simp only [Try.ntmps4, List.size_toArray, List.length_cons, List.length_nil, Nat.reduceAdd, Nat.reduceSub, Array.replicate_succ, Array.replicate_zero, List.push_toArray, List.append_toArray, List.nil_append, List.cons_append]
 refine sK fun K1 hK1 => rL ?_
 refine xA (.bool false) rfl rfl rfl ?_
 refine wL ?_
 simp only [zP, zI, zS, zO]
 refine tN (hK1 _ _ ?_)
 clear hK1 K1
 refine sK fun K2 hK2 => ?_
 refine sK fun K3 hK3 => rL ?_
 refine xC l17bcallable6 rfl rfl (l := []) rfl ((lawAwake B _ _ hv).mono ?_)
 rintro e w4 ⟨rfl, hv⟩
 refine ⟨_, rfl, ?_⟩
 refine xG (.bool false) rfl rfl (ex_not (b := true) rfl rfl rfl) ?_
 refine xM (.bool false) rfl rfl rfl ?_
 simp only [zP, zI, zS, zO]
 refine xH 2 18 false (.slice ad 0 c) rfl rfl rfl rfl (ex_move rfl rfl) ?_
 refine xH 2 18 false (.int .i64 0) rfl rfl rfl rfl (ex_len0 Try.underlying22 rfl rfl) ?_
 refine xH 2 18 false (.bool false) rfl rfl rfl rfl (ex_gtr (k := .i64) (m := 0) (n := 15) rfl rfl rfl (by decide)) ?_
 simp only [zP, zI, zS, zO]
 refine xK false (.bool false) rfl rfl rfl rfl ?_
 refine wL ?_
 simp only [zP, zI, zS, zO]
 refine tN (hK3 _ _ ?_)
 clear hK3 K3
 refine wpIn_cond_false rfl ?_
 refine wpIn_skip ?_
 refine tN (hK2 _ _ ?_)
 clear hK2 K2
 refine sK fun K5 hK5 => rL ?_
 refine xC s27callable7 rfl rfl (l := []) rfl ((storeNew B _ _ hv).mono ?_)
 rintro e w6 ⟨s, p, rfl, hv⟩
 refine ⟨_, rfl, ?_⟩
 refine xA (.pointer (some ⟨s, 0, none⟩)) rfl rfl rfl ?_
 refine wL ?_
 simp only [zP, zI, zS, zO]
 refine tN (hK5 _ _ ?_)
 clear hK5 K5
 refine sK fun K7 hK7 => rL ?_
 refine xA (.int .i64 0) rfl rfl rfl ?_
 refine wL ?_
 simp only [zP, zI, zS, zO]
 refine tN (hK7 _ _ ?_)
 clear hK7 K7
 refine sK fun K8 hK8 => ?_
 refine sK fun K9 hK9 => rL ?_
 refine xM (.slice ad 0 c) rfl rfl rfl ?_
 refine xG (.int .i64 0) rfl rfl (ex_len0 Try.underlying22 rfl rfl) ?_
 refine xG (.bool false) rfl rfl (ex_gtr (k := .i64) (m := 0) (n := 0) rfl rfl rfl (by decide)) ?_
 refine wL ?_
 simp only [zP, zI, zS, zO]
 refine tN (hK9 _ _ ?_)
 clear hK9 K9
 refine wpIn_cond_false rfl ?_
 refine wpIn_skip ?_
 refine tN (hK8 _ _ ?_)
 clear hK8 K8
 refine sK fun K10 hK10 => rL ?_
 refine xA (.slice none 0 0) rfl rfl rfl ?_
 refine wL ?_
 simp only [zP, zI, zS, zO]
 refine tN (hK10 _ _ ?_)
 clear hK10 K10
 refine sK fun K11 hK11 => rL ?_
 refine xA (.int .i64 0) rfl rfl rfl ?_
 refine wL ?_
 simp only [zP, zI, zS, zO]
 refine tN (hK11 _ _ ?_)
 clear hK11 K11
 refine sK fun K12 hK12 => ?_
 refine sK fun K13 hK13 => rL ?_
 refine xA (.int .i64 0) rfl rfl rfl ?_
 refine wL ?_
 simp only [zP, zI, zS, zO]
 refine tN (hK13 _ _ ?_)
 clear hK13 K13
 refine wpIn_block ?_
 gi_loopw [9, 10, 11] (fun x9 x10 x11 wr => x9 = .slice none 0 0 ∧ x10 = .int .i64 0 ∧ x11 = .int .i64 0 ∧ Inv B (Res.cell s [.pointer (some ⟨p, 0, none⟩), .int .i64 0, .int .i64 0] 60 :: ixS 81 93 92 p (.slice none 0 0) 0 [] [] :: H) wr) (fun x9 x10 x11 _ => 0)
 case atStart => exact ⟨rfl, rfl, rfl, hv⟩
 case round =>
  obtain ⟨rfl, rfl, rfl, hv⟩ := hrel
  refine sK fun K15 hK15 => ?_
  refine sK fun K16 hK16 => rL ?_
  refine xM (.int .i64 0) rfl rfl rfl ?_
  refine xM (.slice ad 0 c) rfl rfl rfl ?_
  refine xG (.int .i64 0) rfl rfl (ex_len0 Try.underlying22 rfl rfl) ?_
  simp only [zP, zI, zS, zO]
  refine xG (.bool false) rfl rfl (ex_lss (k := .i64) (m := 0) (n := 0) rfl rfl rfl (by decide)) ?_
  refine wL ?_
  simp only [zP, zI, zS, zO]
  refine tN (hK16 _ _ ?_)
  clear hK16 K16
  refine wpIn_cond_false rfl ?_
  refine wpIn_exit ?_
  refine then_exit ?_
  clear hK15 K15
  refine then_exit ?_
  refine blk_hit ?_
  refine tN (hK12 _ _ ?_)
  clear hK12 K12
  refine sK fun K17 hK17 => rL ?_
  refine xM (.pointer (some ⟨s, 0, none⟩)) rfl rfl rfl ?_
  refine xM (.int .i64 0) rfl rfl rfl ?_
  refine xM (.int .i64 clock) rfl rfl rfl ?_
  simp only [zP, zI, zS, zO]
  refine xC l17bcallable14 rfl rfl (l := [.pointer (some ⟨s, 0, none⟩), .int .i64 0, .int .i64 clock]) rfl ((storeNames B _ _ s p _ [] [] [] 0 0 0 clock (ixm_nil B) StoM.nil.asc hv).mono ?_)
  rintro e w18 ⟨na, nc, rfl, hv⟩
  refine ⟨_, rfl, ?_⟩
  refine xA (.slice na 0 nc) rfl rfl rfl ?_
  refine wL ?_
  simp only [zP, zI, zS, zO]
  refine tN (hK17 _ _ ?_)
  clear hK17 K17
  refine sK fun K19 hK19 => ?_
  refine sK fun K20 hK20 => rL ?_
  refine xM (.slice na 0 nc) rfl rfl rfl ?_
  refine xG (.int .i64 0) rfl rfl (ex_len0 Try.underlying33 rfl rfl) ?_
  refine xM (.slice none 0 0) rfl rfl rfl ?_
  simp only [zP, zI, zS, zO]
  refine xG (.int .i64 0) rfl rfl (ex_len0 Try.underlying27 rfl rfl) ?_
  refine xG (.bool false) rfl rfl (ex_neq (k := .i64) (m := 0) (n := 0) rfl rfl rfl (by decide)) ?_
  refine wL ?_
  simp only [zP, zI, zS, zO]
  refine tN (hK20 _ _ ?_)
  clear hK20 K20
  refine wpIn_cond_false rfl ?_
  refine wpIn_skip ?_
  refine tN (hK19 _ _ ?_)
  clear hK19 K19
  refine sK fun K21 hK21 => ?_
  refine sK fun K22 hK22 => rL ?_
  refine xA (.int .i64 0) rfl rfl rfl ?_
  refine wL ?_
  simp only [zP, zI, zS, zO]
  refine tN (hK22 _ _ ?_)
  clear hK22 K22
  refine wpIn_block ?_
  gi_loopw [13] (fun x13 wr => x13 = .int .i64 0 ∧ Inv B H wr) (fun x13 _ => 0)
  case atStart => exact ⟨rfl, (hv.sub (List.Sublist.cons _ (List.Sublist.cons _ (List.Sublist.cons _ (List.Sublist.refl _)))))⟩
  case round =>
   obtain ⟨rfl, hv⟩ := hrel
   refine sK fun K24 hK24 => ?_
   refine sK fun K25 hK25 => rL ?_
   refine xM (.int .i64 0) rfl rfl rfl ?_
   refine xM (.slice na 0 nc) rfl rfl rfl ?_
   refine xG (.int .i64 0) rfl rfl (ex_len0 Try.underlying33 rfl rfl) ?_
   simp only [zP, zI, zS, zO]
   refine xG (.bool false) rfl rfl (ex_lss (k := .i64) (m := 0) (n := 0) rfl rfl rfl (by decide)) ?_
   refine wL ?_
   simp only [zP, zI, zS, zO]
   refine tN (hK25 _ _ ?_)
   clear hK25 K25
   refine wpIn_cond_false rfl ?_
   refine wpIn_exit ?_
   refine then_exit ?_
   clear hK24 K24
   refine then_exit ?_
   refine blk_hit ?_
   refine tN (hK21 _ _ ?_)
   clear hK21 K21
   refine sK fun K26 hK26 => rL ?_
   refine xA (.bool true) rfl rfl rfl ?_
   refine wL ?_
   simp only [zP, zI, zS, zO]
   refine tN (hK26 _ _ ?_)
   clear hK26 K26
   refine wpIn_ret ?_
   refine bR rfl rfl ?_
   exact ⟨rfl, hv⟩
end Go.Proofs.Ytffmbdagjpdieaa
