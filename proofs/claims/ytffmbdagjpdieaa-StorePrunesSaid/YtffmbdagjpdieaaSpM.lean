/- store.Load. -/
import Derived.Test.YtffmbdagjpdieaaSpB
import Derived.Test.YtffmbdagjpdieaaSpI
import Derived.Test.YtffmbdagjpdieaaSpK
import Derived.Test.YtffmbdagjpdieaaRows
import Derived.Test.YtffmbdagjpdieaaSpL
set_option maxRecDepth 100000
namespace Go.Proofs.Ytffmbdagjpdieaa
open Go.RowKit Go.Pm
noncomputable def fitB (stamp : Int) (x : Wr) : Bool := wrOkB x && !x.ver.gone && decide (1 ≤ x.ver.stamp) && decide (x.ver.stamp ≤ stamp)
theorem fitB_iff (stamp : Int) (x : Wr) : fitB stamp x = true ↔ WrOk x ∧ x.ver.gone = false ∧ 1 ≤ x.ver.stamp ∧ x.ver.stamp ≤ stamp := by
 unfold fitB
 rw [Bool.and_eq_true, Bool.and_eq_true, Bool.and_eq_true, wrOkB_iff, decide_eq_true_iff, decide_eq_true_iff, Bool.not_eq_true', and_assoc, and_assoc]
set_option maxHeartbeats 2000000 in
theorem loadFits (B : Base) (H : List Res) (w : World) (g4 : Nat) (stamp : Int) (x : Wr) (p t z : Value) (h : ValAt B x.ver.val p t z) (hv : Inv B (Res.cell g4 [.int .i64 stamp] 3 :: H) w) :
  Calls Try.prog 35 #[.agg #[.string ⟨x.key.toArray⟩, .int .i64 x.ver.stamp, .bool x.ver.gone, .int .i64 x.ver.expire, .int .i64 x.ver.val.kind, .string ⟨x.ver.val.text.toArray⟩, p, t, z], .pointer (some ⟨g4, 0, none⟩)] w fun e w' => e = .returned (.bool (fitB stamp x)) ∧ Inv B (Res.cell g4 [.int .i64 stamp] 3 :: H) w' := by
 refine (callsIn_wide (n := 5)).1 ?_
 refine callsIn_of_wp Try.func35 rfl trivial ?_
 simp only [Try.ntmps35, List.size_toArray, List.length_cons, List.length_nil, Nat.reduceAdd, Nat.reduceSub, Array.replicate_succ, Array.replicate_zero, List.push_toArray, List.append_toArray, List.nil_append, List.cons_append]
 refine sK fun K1 hK1 => rL ?_
 refine sl_box (L := [.string ⟨x.key.toArray⟩, .int .i64 x.ver.stamp, .bool x.ver.gone, .int .i64 x.ver.expire, .int .i64 x.ver.val.kind, .string ⟨x.ver.val.text.toArray⟩, p, t, z]) tV (wn rfl) rfl (p := .agg #[.string ⟨x.key.toArray⟩, .int .i64 x.ver.stamp, .bool x.ver.gone, .int .i64 x.ver.expire, .int .i64 x.ver.val.kind, .string ⟨x.ver.val.text.toArray⟩, p, t, z]) rfl hv (fun w => by kernel_rfl) (fun b2 w3 hv => ?_)
 refine xA (.bool false) rfl rfl rfl ?_
 refine wL ?_
 simp only [zP, zI, zS, zO]
 refine tN (hK1 _ _ ?_)
 clear hK1 K1
 refine sK fun K4 hK4 => rL ?_
 refine xL (.agg #[.string ⟨x.key.toArray⟩, .int .i64 x.ver.stamp, .bool x.ver.gone, .int .i64 x.ver.expire, .int .i64 x.ver.val.kind, .string ⟨x.ver.val.text.toArray⟩, p, t, z]) rfl rfl rfl (run_load_mid (pre := []) (mid := [.string ⟨x.key.toArray⟩, .int .i64 x.ver.stamp, .bool x.ver.gone, .int .i64 x.ver.expire, .int .i64 x.ver.val.kind, .string ⟨x.ver.val.text.toArray⟩, p, t, z]) (post := []) s8wd40 (show Blk _ b2 ([] ++ [.string ⟨x.key.toArray⟩, .int .i64 x.ver.stamp, .bool x.ver.gone, .int .i64 x.ver.expire, .int .i64 x.ver.val.kind, .string ⟨x.ver.val.text.toArray⟩, p, t, z] ++ []) _ from hv.get 0 rfl) rfl) ?_
 refine xC s14callable36 rfl rfl (l := [.agg #[.string ⟨x.key.toArray⟩, .int .i64 x.ver.stamp, .bool x.ver.gone, .int .i64 x.ver.expire, .int .i64 x.ver.val.kind, .string ⟨x.ver.val.text.toArray⟩, p, t, z]]) rfl ((storeValid B _ _ x p t z h hv).mono ?_)
 rintro e w5 ⟨rfl, hv⟩
 refine ⟨_, rfl, ?_⟩
 cases hwo : wrOkB x
 ·refine xM (.bool false) rfl rfl rfl ?_
  simp only [zP, zI, zS, zO]
  refine xT 2 6 true false rfl rfl rfl rfl rfl rfl rfl (by decide) ?_
  simp only [zP, zI, zS, zO]
  refine xN 2 6 true false rfl rfl rfl (by decide) ?_
  refine xK false (.bool false) rfl rfl rfl rfl ?_
  refine xM (.bool false) rfl rfl rfl ?_
  simp only [zP, zI, zS, zO]
  refine xT 8 12 true false rfl rfl rfl rfl rfl rfl rfl (by decide) ?_
  simp only [zP, zI, zS, zO]
  refine xN 8 12 true false rfl rfl rfl (by decide) ?_
  refine xK false (.bool false) rfl rfl rfl rfl ?_
  refine xM (.bool false) rfl rfl rfl ?_
  simp only [zP, zI, zS, zO]
  refine xT 14 18 true false rfl rfl rfl rfl rfl rfl rfl (by decide) ?_
  simp only [zP, zI, zS, zO]
  refine xN 14 18 true false rfl rfl rfl (by decide) ?_
  refine xN 14 18 true false rfl rfl rfl (by decide) ?_
  refine xK false (.bool false) rfl rfl rfl rfl ?_
  simp only [zP, zI, zS, zO]
  refine xA (.bool false) rfl rfl rfl ?_
  refine wL ?_
  simp only [zP, zI, zS, zO]
  refine tN (hK4 _ _ ?_)
  clear hK4 K4
  refine wpIn_ret ?_
  refine bR rfl rfl ?_
  exact ⟨congrArg (fun b => Ending.returned (Value.bool b)) (by unfold fitB; simp [*]), ((hv.front 1 rfl).sub (List.Sublist.cons_cons _ (List.Sublist.cons _ (List.Sublist.refl _))))⟩
 refine xM (.bool true) rfl rfl rfl ?_
 simp only [zP, zI, zS, zO]
 refine xH 2 6 true (.pointer (some ⟨b2, 1, none⟩)) rfl rfl rfl rfl (ex_field rfl rfl (s14fa40_1 _ _ _)) ?_
 refine xH 2 6 true (.pointer (some ⟨b2, 2, none⟩)) rfl rfl rfl rfl (ex_field rfl rfl (s2fa38_1 _ _ _)) ?_
 cases hgo : x.ver.gone
 ·refine xH 2 6 true (.bool false) rfl rfl rfl rfl (ex_load rfl rfl (by rw [← hgo]; exact run_load1 s2na4 (hv.load 0 2 rfl rfl))) ?_
  simp only [zP, zI, zS, zO]
  refine xH 2 6 true (.bool true) rfl rfl rfl rfl (ex_not (b := false) rfl rfl rfl) ?_
  refine xK true (.bool true) rfl rfl rfl rfl ?_
  refine xM (.bool true) rfl rfl rfl ?_
  simp only [zP, zI, zS, zO]
  refine xH 8 12 true (.pointer (some ⟨b2, 1, none⟩)) rfl rfl rfl rfl (ex_field rfl rfl (s14fa40_1 _ _ _)) ?_
  refine xH 8 12 true (.pointer (some ⟨b2, 1, none⟩)) rfl rfl rfl rfl (ex_field rfl rfl (s2fa38_0 _ _ _)) ?_
  refine xH 8 12 true (.int .i64 x.ver.stamp) rfl rfl rfl rfl (ex_load rfl rfl (run_load1 s2na3 (hv.load 0 1 rfl rfl))) ?_
  simp only [zP, zI, zS, zO]
  by_cases hb6 : x.ver.stamp ≥ 1
  ·refine xH 8 12 true (.bool true) rfl rfl rfl rfl (ex_geq (k := .i64) (m := x.ver.stamp) (n := 1) rfl rfl rfl (decide_eq_true hb6)) ?_
   refine xK true (.bool true) rfl rfl rfl rfl ?_
   refine xM (.bool true) rfl rfl rfl ?_
   simp only [zP, zI, zS, zO]
   refine xH 14 18 true (.pointer (some ⟨b2, 1, none⟩)) rfl rfl rfl rfl (ex_field rfl rfl (s14fa40_1 _ _ _)) ?_
   refine xH 14 18 true (.pointer (some ⟨b2, 1, none⟩)) rfl rfl rfl rfl (ex_field rfl rfl (s2fa38_0 _ _ _)) ?_
   refine xH 14 18 true (.int .i64 x.ver.stamp) rfl rfl rfl rfl (ex_load rfl rfl (run_load1 s2na3 (hv.load 0 1 rfl rfl))) ?_
   simp only [zP, zI, zS, zO]
   refine xH 14 18 true (.int .i64 stamp) rfl rfl rfl rfl (ex_load rfl rfl (run_load1 s2na3 (hv.load 1 0 rfl rfl))) ?_
   by_cases hb7 : x.ver.stamp ≤ stamp
   ·refine xH 14 18 true (.bool true) rfl rfl rfl rfl (ex_leq (k := .i64) (m := x.ver.stamp) (n := stamp) rfl rfl rfl (decide_eq_true hb7)) ?_
    refine xK true (.bool true) rfl rfl rfl rfl ?_
    simp only [zP, zI, zS, zO]
    refine xA (.bool true) rfl rfl rfl ?_
    refine wL ?_
    simp only [zP, zI, zS, zO]
    refine tN (hK4 _ _ ?_)
    clear hK4 K4
    refine wpIn_ret ?_
    refine bR rfl rfl ?_
    exact ⟨congrArg (fun b => Ending.returned (Value.bool b)) (by unfold fitB; simp [*]), ((hv.front 1 rfl).sub (List.Sublist.cons_cons _ (List.Sublist.cons _ (List.Sublist.refl _))))⟩
   refine xH 14 18 true (.bool false) rfl rfl rfl rfl (ex_leq (k := .i64) (m := x.ver.stamp) (n := stamp) rfl rfl rfl (decide_eq_false hb7)) ?_
   refine xK true (.bool false) rfl rfl rfl rfl ?_
   simp only [zP, zI, zS, zO]
   refine xA (.bool false) rfl rfl rfl ?_
   refine wL ?_
   simp only [zP, zI, zS, zO]
   refine tN (hK4 _ _ ?_)
   clear hK4 K4
   refine wpIn_ret ?_
   refine bR rfl rfl ?_
   exact ⟨congrArg (fun b => Ending.returned (Value.bool b)) (by unfold fitB; simp [*]), ((hv.front 1 rfl).sub (List.Sublist.cons_cons _ (List.Sublist.cons _ (List.Sublist.refl _))))⟩
  refine xH 8 12 true (.bool false) rfl rfl rfl rfl (ex_geq (k := .i64) (m := x.ver.stamp) (n := 1) rfl rfl rfl (decide_eq_false hb6)) ?_
  refine xK true (.bool false) rfl rfl rfl rfl ?_
  refine xM (.bool false) rfl rfl rfl ?_
  simp only [zP, zI, zS, zO]
  refine xT 14 18 true false rfl rfl rfl rfl rfl rfl rfl (by decide) ?_
  simp only [zP, zI, zS, zO]
  refine xN 14 18 true false rfl rfl rfl (by decide) ?_
  refine xN 14 18 true false rfl rfl rfl (by decide) ?_
  refine xK false (.bool false) rfl rfl rfl rfl ?_
  simp only [zP, zI, zS, zO]
  refine xA (.bool false) rfl rfl rfl ?_
  refine wL ?_
  simp only [zP, zI, zS, zO]
  refine tN (hK4 _ _ ?_)
  clear hK4 K4
  refine wpIn_ret ?_
  refine bR rfl rfl ?_
  exact ⟨congrArg (fun b => Ending.returned (Value.bool b)) (by unfold fitB; simp [*]), ((hv.front 1 rfl).sub (List.Sublist.cons_cons _ (List.Sublist.cons _ (List.Sublist.refl _))))⟩
 refine xH 2 6 true (.bool true) rfl rfl rfl rfl (ex_load rfl rfl (by rw [← hgo]; exact run_load1 s2na4 (hv.load 0 2 rfl rfl))) ?_
 simp only [zP, zI, zS, zO]
 refine xH 2 6 true (.bool false) rfl rfl rfl rfl (ex_not (b := true) rfl rfl rfl) ?_
 refine xK true (.bool false) rfl rfl rfl rfl ?_
 refine xM (.bool false) rfl rfl rfl ?_
 simp only [zP, zI, zS, zO]
 refine xT 8 12 true false rfl rfl rfl rfl rfl rfl rfl (by decide) ?_
 simp only [zP, zI, zS, zO]
 refine xN 8 12 true false rfl rfl rfl (by decide) ?_
 refine xK false (.bool false) rfl rfl rfl rfl ?_
 refine xM (.bool false) rfl rfl rfl ?_
 simp only [zP, zI, zS, zO]
 refine xT 14 18 true false rfl rfl rfl rfl rfl rfl rfl (by decide) ?_
 simp only [zP, zI, zS, zO]
 refine xN 14 18 true false rfl rfl rfl (by decide) ?_
 refine xN 14 18 true false rfl rfl rfl (by decide) ?_
 refine xK false (.bool false) rfl rfl rfl rfl ?_
 simp only [zP, zI, zS, zO]
 refine xA (.bool false) rfl rfl rfl ?_
 refine wL ?_
 simp only [zP, zI, zS, zO]
 refine tN (hK4 _ _ ?_)
 clear hK4 K4
 refine wpIn_ret ?_
 refine bR rfl rfl ?_
 exact ⟨congrArg (fun b => Ending.returned (Value.bool b)) (by unfold fitB; simp [*]), ((hv.front 1 rfl).sub (List.Sublist.cons_cons _ (List.Sublist.cons _ (List.Sublist.refl _))))⟩
theorem s28callable35 : Callable Try.prog 35 := ⟨_, Try.func35, by kernel_rfl, by kernel_rfl⟩
set_option maxHeartbeats 2000000 in
theorem loadAllFn (B : Base) (H : List Res) (w : World) (g1 g4 : Nat) (stamp : Int) (x : Wr) (p t z : Value) (h : ValAt B x.ver.val p t z) (hv : Inv B (Res.cell g1 [.func (.func 35) #[] #[.pointer (some ⟨g4, 0, none⟩)]] 76 :: Res.cell g4 [.int .i64 stamp] 3 :: H) w) :
  Calls Try.prog 51 #[.agg #[.string ⟨x.key.toArray⟩, .int .i64 x.ver.stamp, .bool x.ver.gone, .int .i64 x.ver.expire, .int .i64 x.ver.val.kind, .string ⟨x.ver.val.text.toArray⟩, p, t, z], .pointer (some ⟨g1, 0, none⟩)] w fun e w' => e = .returned (.bool (!fitB stamp x)) ∧ Inv B (Res.cell g1 [.func (.func 35) #[] #[.pointer (some ⟨g4, 0, none⟩)]] 76 :: Res.cell g4 [.int .i64 stamp] 3 :: H) w' := by
 refine (callsIn_wide (n := 5)).1 ?_
 refine callsIn_of_wp Try.func51 rfl trivial ?_
 simp only [Try.ntmps51, List.size_toArray, List.length_cons, List.length_nil, Nat.reduceAdd, Nat.reduceSub, Array.replicate_succ, Array.replicate_zero, List.push_toArray, List.append_toArray, List.nil_append, List.cons_append]
 refine sK fun K1 hK1 => rL ?_
 refine sl_box (L := [.string ⟨x.key.toArray⟩, .int .i64 x.ver.stamp, .bool x.ver.gone, .int .i64 x.ver.expire, .int .i64 x.ver.val.kind, .string ⟨x.ver.val.text.toArray⟩, p, t, z]) tV (wn rfl) rfl (p := .agg #[.string ⟨x.key.toArray⟩, .int .i64 x.ver.stamp, .bool x.ver.gone, .int .i64 x.ver.expire, .int .i64 x.ver.val.kind, .string ⟨x.ver.val.text.toArray⟩, p, t, z]) rfl hv (fun w => by kernel_rfl) (fun b2 w3 hv => ?_)
 refine xA (.bool false) rfl rfl rfl ?_
 refine wL ?_
 simp only [zP, zI, zS, zO]
 refine tN (hK1 _ _ ?_)
 clear hK1 K1
 refine sK fun K4 hK4 => rL ?_
 refine xL (.func (.func 35) #[] #[.pointer (some ⟨g4, 0, none⟩)]) rfl rfl rfl (run_load1 s14na76 (hv.load 1 0 rfl rfl)) ?_
 refine xL (.agg #[.string ⟨x.key.toArray⟩, .int .i64 x.ver.stamp, .bool x.ver.gone, .int .i64 x.ver.expire, .int .i64 x.ver.val.kind, .string ⟨x.ver.val.text.toArray⟩, p, t, z]) rfl rfl rfl (run_load_mid (pre := []) (mid := [.string ⟨x.key.toArray⟩, .int .i64 x.ver.stamp, .bool x.ver.gone, .int .i64 x.ver.expire, .int .i64 x.ver.val.kind, .string ⟨x.ver.val.text.toArray⟩, p, t, z]) (post := []) s8wd40 (show Blk _ b2 ([] ++ [.string ⟨x.key.toArray⟩, .int .i64 x.ver.stamp, .bool x.ver.gone, .int .i64 x.ver.expire, .int .i64 x.ver.val.kind, .string ⟨x.ver.val.text.toArray⟩, p, t, z] ++ []) _ from hv.get 0 rfl) rfl) ?_
 replace hv := hv.front 2 rfl
 simp only [List.eraseIdx_cons_succ, List.eraseIdx_cons_zero] at hv
 refine wpi_callV s28callable35 tV wideC rfl (wn rfl) rfl rfl (args := #[.agg #[.string ⟨x.key.toArray⟩, .int .i64 x.ver.stamp, .bool x.ver.gone, .int .i64 x.ver.expire, .int .i64 x.ver.val.kind, .string ⟨x.ver.val.text.toArray⟩, p, t, z]]) (by simp only [yA, yB, yC]; rfl) ((loadFits B _ _ g4 stamp x p t z h hv).mono ?_)
 rintro e w5 ⟨rfl, hv⟩
 refine ⟨_, rfl, ?_⟩
 simp only [zP, zI, zS, zO]
 refine xG (.bool (!(fitB stamp x))) rfl rfl (ex_not (b := (fitB stamp x)) rfl rfl rfl) ?_
 refine xA (.bool (!(fitB stamp x))) rfl rfl rfl ?_
 refine wL ?_
 simp only [zP, zI, zS, zO]
 refine tN (hK4 _ _ ?_)
 clear hK4 K4
 refine wpIn_ret ?_
 refine bR rfl rfl ?_
 exact ⟨rfl, ((hv.front 2 rfl).sub (List.Sublist.cons_cons _ (List.Sublist.cons_cons _ (List.Sublist.cons _ (List.Sublist.refl _)))))⟩
set_option maxHeartbeats 2000000 in
theorem loadAll (B : Base) (H : List Res) (w : World) (ad : Option Addr) (c : Nat) (g4 : Nat) (stamp : Int) (xs : List Value) (l : List Wr) (hr : RdV B [] ad xs) (hxs : WrsAt B l xs) (hm : l.length ≤ 1000000) (hv : Inv B (Res.cell g4 [.int .i64 stamp] 3 :: H) w) :
  Calls Try.prog 38 #[.slice ad l.length c, .func (.func 35) #[] #[.pointer (some ⟨g4, 0, none⟩)]] w fun e w' => e = .returned (.bool (!l.any (fun x => !fitB stamp x))) ∧ Inv B (Res.cell g4 [.int .i64 stamp] 3 :: H) w' := by
 refine (callsIn_wide (n := 5)).1 ?_
 refine callsIn_of_wp Try.func38 rfl trivial ?_
 simp only [Try.ntmps38, List.size_toArray, List.length_cons, List.length_nil, Nat.reduceAdd, Nat.reduceSub, Array.replicate_succ, Array.replicate_zero, List.push_toArray, List.append_toArray, List.nil_append, List.cons_append]
 refine sK fun K1 hK1 => rL ?_
 refine sl_box (L := [.func (.func 35) #[] #[.pointer (some ⟨g4, 0, none⟩)]]) tV (wn rfl) rfl (p := .func (.func 35) #[] #[.pointer (some ⟨g4, 0, none⟩)]) rfl hv (fun w => by kernel_rfl) (fun b2 w3 hv => ?_)
 refine xA (.bool false) rfl rfl rfl ?_
 refine wL ?_
 simp only [zP, zI, zS, zO]
 refine tN (hK1 _ _ ?_)
 clear hK1 K1
 refine sK fun K4 hK4 => rL ?_
 refine xM (.slice ad l.length c) rfl rfl rfl ?_
 refine xG (.func (.func 51) #[] #[.pointer (some ⟨b2, 0, none⟩)]) rfl rfl (ex_makeFunc (c' := #[.pointer (some ⟨b2, 0, none⟩)]) rfl (by simp only [yA, yC]) (by simp only [yA, yB, yC]; rfl)) ?_
 refine xC s14callable50 rfl rfl (l := [.slice ad l.length c, .func (.func 51) #[] #[.pointer (some ⟨b2, 0, none⟩)]]) rfl ((containsFuncWr B _ _ 51 #[.pointer (some ⟨b2, 0, none⟩)] ad c l (fun x => !fitB stamp x) xs hr hxs hm s14callable51 (fun x _ p t z h w hv => loadAllFn B H w _ g4 stamp x p t z h hv) hv).mono ?_)
 rintro e w5 ⟨rfl, hv⟩
 refine ⟨_, rfl, ?_⟩
 simp only [zP, zI, zS, zO]
 refine xG (.bool (!(l.any (fun x => !fitB stamp x)))) rfl rfl (ex_not (b := (l.any (fun x => !fitB stamp x))) rfl rfl rfl) ?_
 refine xA (.bool (!(l.any (fun x => !fitB stamp x)))) rfl rfl rfl ?_
 refine wL ?_
 simp only [zP, zI, zS, zO]
 refine tN (hK4 _ _ ?_)
 clear hK4 K4
 refine wpIn_ret ?_
 refine bR rfl rfl ?_
 exact ⟨rfl, ((hv.front 1 rfl).sub (List.Sublist.cons_cons _ (List.Sublist.cons _ (List.Sublist.refl _))))⟩
theorem loadAllX (B : Base) (H : List Res) (w : World) (ad : Option Addr) (c : Nat) (g4 : Nat) (stamp : Int) (xs : List Value) (l : List Wr) (hr : RdV B [] ad xs) (hxs : WrsAt B l xs) (hm : l.length ≤ 1000000) (hv : Inv B (Res.cell g4 [.int .i64 stamp] 3 :: H) w) : Calls Try.prog 38 #[.slice ad l.length c, .func (.func 35) #[] #[.pointer (some ⟨g4, 0, none⟩)]] w fun e w' => ∃ b, e = .returned (.bool b) ∧ (b = true ↔ ∀ x ∈ l, WrOk x ∧ x.ver.gone = false ∧ 1 ≤ x.ver.stamp ∧ x.ver.stamp ≤ stamp) ∧ Inv B (Res.cell g4 [.int .i64 stamp] 3 :: H) w' := by
 refine (loadAll B H w ad c g4 stamp xs l hr hxs hm hv).mono ?_
 rintro e w' ⟨h1, h2⟩
 refine ⟨_, h1, ?_, h2⟩
 rw [Bool.not_eq_true', List.any_eq_false]
 constructor
 ·intro h x hx
  have := h x hx
  rw [← fitB_iff]
  simpa using this
 intro h x hx
 have := (fitB_iff stamp x).2 (h x hx)
 simp [this]
theorem nodup_sub : ∀ {l l2 : List (List UInt8)}, l.Nodup → (∀ k ∈ l, k ∈ l2) → l.length ≤ l2.length
 | [], _, _, _ => Nat.zero_le _
 | a :: l, l2, h, hs => by
  obtain ⟨h1, h2⟩ := List.nodup_cons.1 h
  have ha := hs a List.mem_cons_self
  have ih := nodup_sub (l := l) (l2 := l2.erase a) h2 (fun k hk => by
   rw [List.mem_erase_of_ne (fun e => h1 (by rw [← e]; exact hk))]
   exact hs k (List.mem_cons_of_mem _ hk))
  rw [List.length_erase_of_mem ha] at ih
  have : 0 < l2.length := List.length_pos_of_mem ha
  rw [List.length_cons]
  omega
structure LoadOk (ws : List Wr) (stamp : Int) : Prop where
 lo : 0 ≤ stamp
 hi : stamp ≤ 1152921504606846975
 nd : (ws.map (·.key)).Nodup
 wr : ∀ x ∈ ws, WrOk x ∧ x.ver.gone = false ∧ 1 ≤ x.ver.stamp ∧ x.ver.stamp ≤ stamp
structure LoadI (M : Model) (ws : List Wr) (i : Nat) : Prop where
 got : ∀ j x, j < i → ws[j]? = some x → getM M x.key = [x.ver]
 rest : ∀ k, (∀ j x, j < i → ws[j]? = some x → x.key ≠ k) → getM M k = []
theorem LoadI.next {M M2 : Model} {ws : List Wr} {i : Nat} (h : LoadI M ws i) (hn : (ws.map (·.key)).Nodup) {x : Wr} (hx : ws[i]? = some x) (hg : ∀ k, getM M2 k = if k = x.key then [x.ver] else getM M k) : LoadI M2 ws (i + 1) := by
 have hkey : ∀ j y, j < i → ws[j]? = some y → y.key ≠ x.key := fun j y hj hy e => by
  have h1 : (ws.map (·.key))[j]? = some x.key := by rw [List.getElem?_map, hy, Option.map_some, e]
  have h2 : (ws.map (·.key))[i]? = some x.key := by rw [List.getElem?_map, hx]; rfl
  have hi := (List.getElem?_eq_some_iff.1 hx).1
  have := (List.getElem?_inj (by rw [List.length_map]; omega) hn).1 (h1.trans h2.symm)
  omega
 refine ⟨fun j y hj hy => ?_, fun k hk => ?_⟩
 ·rcases Nat.lt_or_ge j i with h3 | h3
  ·rw [hg, if_neg (hkey j y h3 hy)]
   exact h.got j y h3 hy
  rw [show j = i by omega, hx] at hy
  cases hy
  rw [hg, if_pos rfl]
 rw [hg, if_neg (fun e => hk i x (by omega) hx e.symm)]
 exact h.rest k fun j y hj hy => hk j y (by omega) hy
theorem LoadI.len {B : Base} {X : List (List Ent)} {M : Model} {ws : List Wr} {i : Nat} (h : LoadI M ws i) (hx : IxM B X M) (hi : i ≤ ws.length) : M.length ≤ i := by
 have hsub : ∀ k ∈ keysM M, k ∈ (ws.take i).map (·.key) := fun k hk => by
  refine Classical.byContradiction fun hno => (keysM_mem hx k).1 hk (h.rest k fun j x hj hx e => hno ?_)
  rw [List.mem_map]
  refine ⟨x, ?_, e⟩
  refine List.mem_iff_getElem?.2 ⟨j, ?_⟩
  rw [List.getElem?_take_of_lt hj]
  exact hx
 have hnd : (keysM M).Nodup := List.Pairwise.imp (fun {a b} hab e => lt_ne hab e) hx.sorted
 have := nodup_sub hnd hsub
 rw [List.length_map, List.length_map, List.length_take] at this
 omega
theorem s28sz57 : (Try.prog.info? 57).map (·.size) = some 1 := by kernel_rfl
theorem s28al40 (w : World) : (Instr.alloc 40 true (.tuple #[])).run Try.prog w = .ok (.pointer (some ⟨w.heap.size, 0, none⟩)) (w.alloc (.cells ([.string ⟨([] : List UInt8).toArray⟩, .int .i64 0, .bool false, .int .i64 0, .int .i64 0, .string ⟨([] : List UInt8).toArray⟩, .slice none 0 0, .slice none 0 0, .slice none 0 0] : List Value).toArray 40)) := by kernel_rfl
theorem s28mk38 : (Try.prog.info? 38).map (fun i => (i.zero, i.size, i.bytes)) = some (some (.agg #[.int .i64 0, .bool false, .int .i64 0, .int .i64 0, .string ⟨([] : List UInt8).toArray⟩, .slice none 0 0, .slice none 0 0, .slice none 0 0]), 8, 120) := by kernel_rfl
theorem s28el66 : Elem Try.prog 66 38 (.agg #[.int .i64 0, .bool false, .int .i64 0, .int .i64 0, .string ⟨([] : List UInt8).toArray⟩, .slice none 0 0, .slice none 0 0, .slice none 0 0]) 8 120 := elem_of Try.underlying66 s28mk38 (by rfl) (by decide)
set_option maxHeartbeats 4000000 in
theorem storeLoad (B : Base) (H : List Res) (w : World) (s p : Nat) (v : Value) (X : List (List Ent)) (bvs : List Value) (n0 last mark stamp : Int) (ad : Option Addr) (c : Nat) (xs : List Value) (ws : List Wr) (hr : RdV B [] ad xs) (hws : WrsAt B ws xs) (hm : ws.length ≤ 100000) (hv : Inv B (Res.cell s [.pointer (some ⟨p, 0, none⟩), .int .i64 last, .int .i64 mark] 60 :: ixS 81 93 92 p v n0 X bvs :: H) w) :
  Calls Try.prog 17 #[.pointer (some ⟨s, 0, none⟩), .int .i64 stamp, .slice ad ws.length c] w fun e w' => ∃ C ec, B.Le C ∧ e = .returned (.int .i64 ec) ∧ ((ec = 2 ∧ ¬ LoadOk ws stamp ∧ Inv C (Res.cell s [.pointer (some ⟨p, 0, none⟩), .int .i64 last, .int .i64 mark] 60 :: ixS 81 93 92 p v n0 X bvs :: H) w') ∨ (ec = 22 ∧ 4096 < ws.length ∧ LoadOk ws stamp ∧ Inv C (Res.cell s [.pointer (some ⟨p, 0, none⟩), .int .i64 last, .int .i64 mark] 60 :: ixS 81 93 92 p v n0 X bvs :: H) w') ∨ (ec = 0 ∧ ws.length ≤ 4096 ∧ LoadOk ws stamp ∧ ∃ p2 v' X' bvs' M', IxM C X' M' ∧ LoadI M' ws ws.length ∧ Inv C (Res.cell s [.pointer (some ⟨p2, 0, none⟩), .int .i64 stamp, .int .i64 stamp] 60 :: ixS 81 93 92 p2 v' (M'.length : Int) X' bvs' :: H) w')) := by
 refine (callsIn_wide (n := 5)).1 ?_
 refine callsIn_of_wp Try.func17 rfl trivial ?_
 simp only [Try.ntmps17, List.size_toArray, List.length_cons, List.length_nil, Nat.reduceAdd, Nat.reduceSub, Array.replicate_succ, Array.replicate_zero, List.push_toArray, List.append_toArray, List.nil_append, List.cons_append]
 refine sK fun K1 hK1 => rL ?_
 refine sl_box (L := [.int .i64 stamp]) tV (wn rfl) rfl (p := .int .i64 stamp) rfl hv (fun w => by kernel_rfl) (fun b2 w3 hv => ?_)
 refine xA (.int .i64 0) rfl rfl rfl ?_
 refine wL ?_
 simp only [zP, zI, zS, zO]
 refine tN (hK1 _ _ ?_)
 clear hK1 K1
 refine sK fun K4 hK4 => rL ?_
 refine xG (.func (.func 35) #[] #[.pointer (some ⟨b2, 0, none⟩)]) rfl rfl (ex_makeFunc (c' := #[.pointer (some ⟨b2, 0, none⟩)]) rfl (by simp only [yA, yC]) (by simp only [yA, yB, yC]; rfl)) ?_
 refine xA (.func (.func 35) #[] #[.pointer (some ⟨b2, 0, none⟩)]) rfl rfl rfl ?_
 refine wL ?_
 simp only [zP, zI, zS, zO]
 refine tN (hK4 _ _ ?_)
 clear hK4 K4
 refine sK fun K5 hK5 => ?_
 refine sK fun K6 hK6 => rL ?_
 refine xL (.int .i64 stamp) rfl rfl rfl (run_load1 s2na3 (hv.load 0 0 rfl rfl)) ?_
 by_cases hb7 : stamp < 0
 ·refine xG (.bool true) rfl rfl (ex_lss (k := .i64) (m := stamp) (n := 0) rfl rfl rfl (decide_eq_true hb7)) ?_
  refine xM (.bool true) rfl rfl rfl ?_
  simp only [zP, zI, zS, zO]
  refine xN 2 13 false true rfl rfl rfl (by decide) ?_
  refine xN 2 13 false true rfl rfl rfl (by decide) ?_
  refine xK true (.bool true) rfl rfl rfl rfl ?_
  simp only [zP, zI, zS, zO]
  refine xM (.bool true) rfl rfl rfl ?_
  refine xN 6 17 false true rfl rfl rfl (by decide) ?_
  refine xN 6 17 false true rfl rfl rfl (by decide) ?_
  simp only [zP, zI, zS, zO]
  refine xK true (.bool true) rfl rfl rfl rfl ?_
  refine xM (.bool true) rfl rfl rfl ?_
  refine xT 10 21 false true rfl rfl rfl rfl rfl rfl rfl (by decide) ?_
  simp only [zP, zI, zS, zO]
  refine xN 10 21 false true rfl rfl rfl (by decide) ?_
  simp only [zP, zI, zS, zO]
  refine xK true (.bool true) rfl rfl rfl rfl ?_
  refine wL ?_
  simp only [zP, zI, zS, zO]
  refine tN (hK6 _ _ ?_)
  clear hK6 K6
  refine wpIn_cond_true rfl ?_
  refine sK fun K8 hK8 => rL ?_
  refine xA (.int .i64 2) rfl rfl rfl ?_
  refine wL ?_
  simp only [zP, zI, zS, zO]
  refine tN (hK8 _ _ ?_)
  clear hK8 K8
  refine wpIn_ret ?_
  refine then_ret ?_
  clear hK5 K5
  refine bR rfl rfl ?_
  exact ⟨B, 2, Base.Le.refl _, rfl, .inl ⟨rfl, fun h9 => by first | (have := h9.lo; omega) | (have := h9.hi; omega), (((hv.front 2 rfl).front 2 rfl).sub (List.Sublist.cons_cons _ (List.Sublist.cons_cons _ (List.Sublist.cons _ (List.Sublist.refl _)))))⟩⟩
 refine xG (.bool false) rfl rfl (ex_lss (k := .i64) (m := stamp) (n := 0) rfl rfl rfl (decide_eq_false hb7)) ?_
 refine xM (.bool false) rfl rfl rfl ?_
 simp only [zP, zI, zS, zO]
 refine xH 2 13 false (.int .i64 stamp) rfl rfl rfl rfl (ex_load rfl rfl (run_load1 s2na3 (hv.load 0 0 rfl rfl))) ?_
 by_cases hb9 : stamp > 1152921504606846975
 ·refine xH 2 13 false (.bool true) rfl rfl rfl rfl (ex_gtr (k := .i64) (m := stamp) (n := 1152921504606846975) rfl rfl rfl (decide_eq_true hb9)) ?_
  refine xK false (.bool true) rfl rfl rfl rfl ?_
  simp only [zP, zI, zS, zO]
  refine xM (.bool true) rfl rfl rfl ?_
  refine xN 6 17 false true rfl rfl rfl (by decide) ?_
  refine xN 6 17 false true rfl rfl rfl (by decide) ?_
  simp only [zP, zI, zS, zO]
  refine xK true (.bool true) rfl rfl rfl rfl ?_
  refine xM (.bool true) rfl rfl rfl ?_
  refine xT 10 21 false true rfl rfl rfl rfl rfl rfl rfl (by decide) ?_
  simp only [zP, zI, zS, zO]
  refine xN 10 21 false true rfl rfl rfl (by decide) ?_
  simp only [zP, zI, zS, zO]
  refine xK true (.bool true) rfl rfl rfl rfl ?_
  refine wL ?_
  simp only [zP, zI, zS, zO]
  refine tN (hK6 _ _ ?_)
  clear hK6 K6
  refine wpIn_cond_true rfl ?_
  refine sK fun K10 hK10 => rL ?_
  refine xA (.int .i64 2) rfl rfl rfl ?_
  refine wL ?_
  simp only [zP, zI, zS, zO]
  refine tN (hK10 _ _ ?_)
  clear hK10 K10
  refine wpIn_ret ?_
  refine then_ret ?_
  clear hK5 K5
  refine bR rfl rfl ?_
  exact ⟨B, 2, Base.Le.refl _, rfl, .inl ⟨rfl, fun h9 => by first | (have := h9.lo; omega) | (have := h9.hi; omega), (((hv.front 2 rfl).front 2 rfl).sub (List.Sublist.cons_cons _ (List.Sublist.cons_cons _ (List.Sublist.cons _ (List.Sublist.refl _)))))⟩⟩
 refine xH 2 13 false (.bool false) rfl rfl rfl rfl (ex_gtr (k := .i64) (m := stamp) (n := 1152921504606846975) rfl rfl rfl (decide_eq_false hb9)) ?_
 refine xK false (.bool false) rfl rfl rfl rfl ?_
 simp only [zP, zI, zS, zO]
 refine xM (.bool false) rfl rfl rfl ?_
 refine xH 6 17 false (.slice ad ws.length c) rfl rfl rfl rfl (ex_move rfl rfl) ?_
 refine wpi_callG s16callable37 tV wideC rfl (wanted_of (j := 6) (d := 17) (b := false) rfl rfl rfl) rfl (args := #[.slice ad ws.length c]) (by simp only [yA, yB, yC]; rfl) ((storeTwice0 B _ _ ad c xs ws hr hws (by omega) hv).mono ?_)
 rintro e w12 ⟨bl11, rfl, hbl11, hv⟩
 refine ⟨_, rfl, ?_⟩
 cases bl11
 ·simp only [zP, zI, zS, zO]
  refine xK false (.bool false) rfl rfl rfl rfl ?_
  refine xM (.bool false) rfl rfl rfl ?_
  refine xH 10 21 false (.slice ad ws.length c) rfl rfl rfl rfl (ex_move rfl rfl) ?_
  simp only [zP, zI, zS, zO]
  refine xH 10 21 false (.func (.func 35) #[] #[.pointer (some ⟨b2, 0, none⟩)]) rfl rfl rfl rfl (ex_move rfl rfl) ?_
  refine wpi_callG s16callable38 tV wideC rfl (wanted_of (j := 10) (d := 21) (b := false) rfl rfl rfl) rfl (args := #[.slice ad ws.length c, .func (.func 35) #[] #[.pointer (some ⟨b2, 0, none⟩)]]) (by simp only [yA, yB, yC]; rfl) ((loadAllX B _ _ ad c _ stamp xs ws hr hws (by omega) hv).mono ?_)
  rintro e w14 ⟨bl13, rfl, hbl13, hv⟩
  refine ⟨_, rfl, ?_⟩
  cases bl13
  ·refine xH 10 21 false (.bool true) rfl rfl rfl rfl (ex_not (b := false) rfl rfl rfl) ?_
   simp only [zP, zI, zS, zO]
   refine xK false (.bool true) rfl rfl rfl rfl ?_
   refine wL ?_
   simp only [zP, zI, zS, zO]
   refine tN (hK6 _ _ ?_)
   clear hK6 K6
   refine wpIn_cond_true rfl ?_
   refine sK fun K15 hK15 => rL ?_
   refine xA (.int .i64 2) rfl rfl rfl ?_
   refine wL ?_
   simp only [zP, zI, zS, zO]
   refine tN (hK15 _ _ ?_)
   clear hK15 K15
   refine wpIn_ret ?_
   refine then_ret ?_
   clear hK5 K5
   refine bR rfl rfl ?_
   exact ⟨B, 2, Base.Le.refl _, rfl, .inl ⟨rfl, fun h9 => by first | (have := h9.lo; omega) | (have := h9.hi; omega) | exact hbl11.1 rfl h9.nd | exact absurd (hbl13.2 h9.wr) (by decide), (((hv.front 2 rfl).front 2 rfl).sub (List.Sublist.cons_cons _ (List.Sublist.cons_cons _ (List.Sublist.cons _ (List.Sublist.refl _)))))⟩⟩
  refine xH 10 21 false (.bool false) rfl rfl rfl rfl (ex_not (b := true) rfl rfl rfl) ?_
  simp only [zP, zI, zS, zO]
  refine xK false (.bool false) rfl rfl rfl rfl ?_
  refine wL ?_
  simp only [zP, zI, zS, zO]
  refine tN (hK6 _ _ ?_)
  clear hK6 K6
  refine wpIn_cond_false rfl ?_
  refine wpIn_skip ?_
  refine tN (hK5 _ _ ?_)
  clear hK5 K5
  refine sK fun K16 hK16 => ?_
  refine sK fun K17 hK17 => rL ?_
  refine xM (.slice ad ws.length c) rfl rfl rfl ?_
  refine xG (.int .i64 (ws.length : Int)) rfl rfl (ex_len0 Try.underlying27 rfl rfl) ?_
  by_cases hb18 : (ws.length : Int) > 4096
  ·refine xG (.bool true) rfl rfl (ex_gtr (k := .i64) (m := (ws.length : Int)) (n := 4096) rfl rfl rfl (decide_eq_true hb18)) ?_
   refine wL ?_
   simp only [zP, zI, zS, zO]
   refine tN (hK17 _ _ ?_)
   clear hK17 K17
   refine wpIn_cond_true rfl ?_
   refine sK fun K19 hK19 => rL ?_
   refine xA (.int .i64 22) rfl rfl rfl ?_
   refine wL ?_
   simp only [zP, zI, zS, zO]
   refine tN (hK19 _ _ ?_)
   clear hK19 K19
   refine wpIn_ret ?_
   refine then_ret ?_
   clear hK16 K16
   refine bR rfl rfl ?_
   exact ⟨B, 22, Base.Le.refl _, rfl, .inr (.inl ⟨rfl, by omega, ⟨by omega, by omega, Classical.not_not.1 (fun h => by have h9 := hbl11.2 h; cases h9), hbl13.1 rfl⟩, (((hv.front 2 rfl).front 2 rfl).sub (List.Sublist.cons_cons _ (List.Sublist.cons_cons _ (List.Sublist.cons _ (List.Sublist.refl _)))))⟩)⟩
  refine xG (.bool false) rfl rfl (ex_gtr (k := .i64) (m := (ws.length : Int)) (n := 4096) rfl rfl rfl (decide_eq_false hb18)) ?_
  refine wL ?_
  simp only [zP, zI, zS, zO]
  refine tN (hK17 _ _ ?_)
  clear hK17 K17
  refine wpIn_cond_false rfl ?_
  refine wpIn_skip ?_
  refine tN (hK16 _ _ ?_)
  clear hK16 K16
  refine sK fun K20 hK20 => rL ?_
  refine xM (.pointer (some ⟨s, 0, none⟩)) rfl rfl rfl ?_
  replace hv := (((hv.front 1 rfl).front 1 rfl).sub (List.Sublist.cons_cons _ (List.Sublist.cons_cons _ (List.Sublist.cons _ (List.Sublist.refl _)))))
  refine xC s15callable22 rfl rfl (l := []) rfl ((ixNewS B _ _ hv).mono ?_)
  rintro e w21 ⟨p2, rfl, hv⟩
  refine ⟨_, rfl, ?_⟩
  have hlok : LoadOk ws stamp := ⟨by omega, by omega, Classical.not_not.1 (fun h => by have h9 := hbl11.2 h; cases h9), hbl13.1 rfl⟩
  refine xG (.pointer (some ⟨s, 0, none⟩)) rfl rfl (ex_nil rfl rfl) ?_
  simp only [zP, zI, zS, zO]
  refine xF (.pointer (some ⟨s, 0, none⟩)) rfl rfl rfl (s15fa60_0 _ _ _) ?_
  refine sl_storeAt 2 (v := .pointer (some ⟨p2, 0, none⟩)) (L' := [.pointer (some ⟨p2, 0, none⟩), .int .i64 last, .int .i64 mark]) tV (wn rfl) rfl rfl rfl hv rfl s28sz57 (by simp) rfl rfl rfl (fun w22 hv => ?_)
  simp only [List.set_cons_succ, List.set_cons_zero] at hv
  refine wL ?_
  simp only [zP, zN, zI, zS, zO]
  refine tN (hK20 _ _ ?_)
  clear hK20 K20
  refine sK fun K23 hK23 => ?_
  refine sK fun K24 hK24 => rL ?_
  refine xM (.slice ad ws.length c) rfl rfl rfl ?_
  refine xG (.int .i64 (ws.length : Int)) rfl rfl (ex_len0 Try.underlying27 rfl rfl) ?_
  refine xM (.int .i64 0) rfl rfl rfl ?_
  refine wL ?_
  simp only [zP, zI, zS, zO]
  refine tN (hK24 _ _ ?_)
  clear hK24 K24
  refine wpIn_block ?_
  gi_loopw [36] (fun x36 wr => ∃ (i : Nat) (C : Base) (v' : Value) (X' : List (List Ent)) (bvs' : List Value) (M' : Model), x36 = .int .i64 (i : Int) ∧ B.Le C ∧ i ≤ ws.length ∧ IxM C X' M' ∧ LoadI M' ws i ∧ Inv C (Res.cell s [.pointer (some ⟨p2, 0, none⟩), .int .i64 last, .int .i64 mark] 60 :: Res.cell b2 [.int .i64 stamp] 3 :: ixS 81 93 92 p2 v' (M'.length : Int) X' bvs' :: H) wr) (fun x36 _ => ws.length - (intOf x36).toNat)
  case atStart => exact ⟨0, B, _, [], [], [], rfl, Base.Le.refl _, Nat.zero_le _, ixm_nil B, ⟨fun j x h => by omega, fun k _ => rfl⟩, ((hv.front 1 rfl).front 2 rfl)⟩
  case round =>
   obtain ⟨i, C, v', X', bvs', M', rfl, hBC, hi, hxm, hld, hv⟩ := hrel
   have hMl := hld.len hxm hi
   refine sK fun K26 hK26 => rL ?_
   by_cases hb27 : (i : Int) < (ws.length : Int)
   ·refine xG (.bool true) rfl rfl (ex_lss (k := .i64) (m := (i : Int)) (n := (ws.length : Int)) rfl rfl rfl (decide_eq_true hb27)) ?_
    refine wL ?_
    simp only [zP, zI, zS, zO]
    refine tN (hK26 _ _ ?_)
    clear hK26 K26
    refine sK fun K28 hK28 => ?_
    refine wpIn_cond_true rfl ?_
    refine wpIn_skip ?_
    refine tN (hK28 _ _ ?_)
    clear hK28 K28
    refine sK fun K29 hK29 => ?_
    refine wpIn_block ?_
    refine sK fun K30 hK30 => ?_
    obtain ⟨x, hx⟩ : ∃ x, ws[i]? = some x := ⟨_, List.getElem?_eq_getElem (show i < ws.length by omega)⟩
    obtain ⟨bb, bo, xp, xt, xz, had, hvalx, hrdx⟩ := WrsAt.reads hws hr hx
    subst had
    refine rL ?_
    refine xG (.pointer (some ⟨bb, bo + i * 9, none⟩)) rfl rfl (ex_index rfl rfl rfl (run_idx (k := i) Try.underlying27 s8es27 (by omega))) ?_
    refine xL (.agg #[.string ⟨x.key.toArray⟩, .int .i64 x.ver.stamp, .bool x.ver.gone, .int .i64 x.ver.expire, .int .i64 x.ver.val.kind, .string ⟨x.ver.val.text.toArray⟩, xp, xt, xz]) rfl rfl rfl (run_loadR (cs := [.string ⟨x.key.toArray⟩, .int .i64 x.ver.stamp, .bool x.ver.gone, .int .i64 x.ver.expire, .int .i64 x.ver.val.kind, .string ⟨x.ver.val.text.toArray⟩, xp, xt, xz]) s8wd40 (Reads.mid (pre := []) (mid := [.string ⟨x.key.toArray⟩, .int .i64 x.ver.stamp, .bool x.ver.gone, .int .i64 x.ver.expire, .int .i64 x.ver.val.kind, .string ⟨x.ver.val.text.toArray⟩, xp, xt, xz]) (post := []) hrdx _ _ _ hBC no_res hv)) ?_
    refine sl_alloc tV (wn rfl) rfl hv s28al40 (fun b31 w32 hv => ?_)
    simp only [zP, zI, zS, zO]
    refine sl_storeNAt 0 (new := [.string ⟨x.key.toArray⟩, .int .i64 x.ver.stamp, .bool x.ver.gone, .int .i64 x.ver.expire, .int .i64 x.ver.val.kind, .string ⟨x.ver.val.text.toArray⟩, xp, xt, xz]) (pre := []) (mid := [.string ⟨([] : List UInt8).toArray⟩, .int .i64 0, .bool false, .int .i64 0, .int .i64 0, .string ⟨([] : List UInt8).toArray⟩, .slice none 0 0, .slice none 0 0, .slice none 0 0]) (post := []) (L' := [.string ⟨x.key.toArray⟩, .int .i64 x.ver.stamp, .bool x.ver.gone, .int .i64 x.ver.expire, .int .i64 x.ver.val.kind, .string ⟨x.ver.val.text.toArray⟩, xp, xt, xz]) tV (wn rfl) rfl rfl rfl hv rfl s8sz40 rfl rfl rfl (one_cons rfl (one_cons rfl (one_cons rfl (one_cons rfl (one_cons rfl (one_cons rfl (one_cons hvalx.p.one (one_cons hvalx.t.one (one_cons hvalx.z.one one_nil))))))))) rfl (fun w33 hv => ?_)
    simp only [List.set_cons_zero] at hv
    refine wL ?_
    simp only [zN]
    refine tN (hK30 _ _ ?_)
    clear hK30 K30
    refine region_st mixed [.pointer (some ⟨s, 0, none⟩), .pointer (some ⟨s, 0, none⟩), .pointer (some ⟨s, 0, none⟩), .pointer (some ⟨p2, 0, none⟩), .pointer (some ⟨b31, 0, none⟩), .string ⟨x.key.toArray⟩, .pointer (some ⟨b31, 1, none⟩), .agg #[.int .i64 x.ver.stamp, .bool x.ver.gone, .int .i64 x.ver.expire, .int .i64 x.ver.val.kind, .string ⟨x.ver.val.text.toArray⟩, xp, xt, xz], undef, undef] [8, 9] [⟨fun vals w => vals = [] ∧ Inv C (Res.cell b31 [.string ⟨x.key.toArray⟩, .int .i64 x.ver.stamp, .bool x.ver.gone, .int .i64 x.ver.expire, .int .i64 x.ver.val.kind, .string ⟨x.ver.val.text.toArray⟩, xp, xt, xz] 40 :: Res.cell s [.pointer (some ⟨p2, 0, none⟩), .int .i64 last, .int .i64 mark] 60 :: Res.cell b2 [.int .i64 stamp] 3 :: ixS 81 93 92 p2 v' (M'.length : Int) X' bvs' :: H) w, fun _ _ _ ⟨h, hi⟩ he => ⟨h, hi.ext he⟩⟩, ⟨fun vals w => ∃ b34, vals = [.slice (some ⟨b34, 0, none⟩) 1 1] ∧ Inv C (Res.cell b34 [.int .i64 x.ver.stamp, .bool x.ver.gone, .int .i64 x.ver.expire, .int .i64 x.ver.val.kind, .string ⟨x.ver.val.text.toArray⟩, xp, xt, xz] 38 :: Res.cell b31 [.string ⟨x.key.toArray⟩, .int .i64 x.ver.stamp, .bool x.ver.gone, .int .i64 x.ver.expire, .int .i64 x.ver.val.kind, .string ⟨x.ver.val.text.toArray⟩, xp, xt, xz] 40 :: Res.cell s [.pointer (some ⟨p2, 0, none⟩), .int .i64 last, .int .i64 mark] 60 :: Res.cell b2 [.int .i64 stamp] 3 :: ixS 81 93 92 p2 v' (M'.length : Int) X' bvs' :: H) w, fun _ _ _ ⟨b34, h, hi⟩ he => ⟨b34, h, hi.ext he⟩⟩, ⟨fun vals w => ∃ b34 G v2 X2 bvs2 M2, vals = [.slice (some ⟨b34, 0, none⟩) 1 1, .tuple #[]] ∧ (C.Le G) ∧ (IxM G X2 M2) ∧ (∀ k, getM M2 k = if k = x.key then [x.ver] else getM M' k) ∧ Inv G (ixS 81 93 92 p2 v2 (M2.length : Int) X2 bvs2 :: Res.cell b31 [.string ⟨x.key.toArray⟩, .int .i64 x.ver.stamp, .bool x.ver.gone, .int .i64 x.ver.expire, .int .i64 x.ver.val.kind, .string ⟨x.ver.val.text.toArray⟩, xp, xt, xz] 40 :: Res.cell s [.pointer (some ⟨p2, 0, none⟩), .int .i64 last, .int .i64 mark] 60 :: Res.cell b2 [.int .i64 stamp] 3 :: H) w, fun _ _ _ ⟨b34, G, v2, X2, bvs2, M2, h, hEG, hA2, hA3, hi⟩ he => ⟨b34, G, v2, X2, bvs2, M2, h, hEG, hA2, hA3, hi.ext he⟩⟩] 59 rfl (by kernel_rfl) ⟨rfl, hv⟩ ⟨?_, ?_, ?_, ?_, ?_, ?_, ?_, ?_, ?_, ?_, trivial⟩ ?_
    ·intro aa ww vals hJ hR
     exact xD rfl (ex_move rfl (show aa.eval (.tmp 0) = _ from hR.keep 0 rfl)) rfl rfl
    ·intro aa ww vals hJ hR
     exact xD rfl (ex_nil rfl (hR.w 0 40 rfl rfl rfl rfl)) rfl rfl
    ·intro aa ww vals hJ hR
     exact xD rfl (ex_field rfl (hR.w 1 41 rfl rfl rfl rfl) (s15fa60_0 _ _ _)) rfl rfl
    ·intro aa ww vals hJ hR
     have h2 : vals.length ≤ 1 := hR.hi 9 (by simp) rfl
     rcases (show vals.length = 0 ∨ vals.length = 1 by omega) with hl | hl
     ·obtain ⟨hvals, hv⟩ := hJ.at0 hl
      exact xD rfl (ex_load rfl (hR.w 2 42 rfl rfl rfl rfl) (run_load1 s3na57 (hv.load 1 0 rfl rfl))) rfl rfl
     obtain ⟨b34, hvals, hv⟩ := hJ.at0 hl
     exact xD rfl (ex_load rfl (hR.w 2 42 rfl rfl rfl rfl) (run_load1 s3na57 (hv.load 2 0 rfl rfl))) rfl rfl
    ·intro aa ww vals hJ hR
     exact xD rfl (ex_field rfl (show aa.eval (.tmp 9) = _ from hR.keep 9 rfl) (s8fa40_0 _ _ _)) rfl rfl
    ·intro aa ww vals hJ hR
     have h2 : vals.length ≤ 1 := hR.hi 9 (by simp) rfl
     rcases (show vals.length = 0 ∨ vals.length = 1 by omega) with hl | hl
     ·obtain ⟨hvals, hv⟩ := hJ.at0 hl
      exact xD rfl (ex_load rfl (hR.w 4 44 rfl rfl rfl rfl) (run_load1 s3na9 (hv.load 0 0 rfl rfl))) rfl rfl
     obtain ⟨b34, hvals, hv⟩ := hJ.at0 hl
     exact xD rfl (ex_load rfl (hR.w 4 44 rfl rfl rfl rfl) (run_load1 s3na9 (hv.load 1 0 rfl rfl))) rfl rfl
    ·intro aa ww vals hJ hR
     exact xD rfl (ex_field rfl (show aa.eval (.tmp 9) = _ from hR.keep 9 rfl) (s14fa40_1 _ _ _)) rfl rfl
    ·intro aa ww vals hJ hR
     have h2 : vals.length ≤ 0 := hR.hi 8 (by simp) rfl
     have hl : vals.length = 0 := by omega
     obtain ⟨hvals, hv⟩ := hJ.at0 hl
     exact xD rfl (ex_load rfl (hR.w 6 46 rfl rfl rfl rfl) (run_load_mid (pre := [.string ⟨x.key.toArray⟩]) (mid := [.int .i64 x.ver.stamp, .bool x.ver.gone, .int .i64 x.ver.expire, .int .i64 x.ver.val.kind, .string ⟨x.ver.val.text.toArray⟩, xp, xt, xz]) (post := []) s1wd38 (show Blk _ b31 ([.string ⟨x.key.toArray⟩] ++ [.int .i64 x.ver.stamp, .bool x.ver.gone, .int .i64 x.ver.expire, .int .i64 x.ver.val.kind, .string ⟨x.ver.val.text.toArray⟩, xp, xt, xz] ++ []) _ from hv.get 0 rfl) rfl)) rfl rfl
    ·intro aa ww vals hJ hR
     refine mem_step' rfl fun hvl => ?_
     have hl : vals.length = 0 := hvl
     obtain ⟨hvals, hv⟩ := hJ.at0 hl
     refine mem_rowAgg (L := [.int .i64 x.ver.stamp, .bool x.ver.gone, .int .i64 x.ver.expire, .int .i64 x.ver.val.kind, .string ⟨x.ver.val.text.toArray⟩, xp, xt, xz]) (wn rfl) rfl (hR.w 7 47 rfl rfl rfl rfl) hv s28el66 rfl (by decide) (fun b34 w35 hv => ?_)
     exact JS.next hl ⟨b34, by rw [hvals]; rfl, hv⟩
    ·intro aa ww vals hJ hR
     refine mem_step' rfl fun hvl => ?_
     have hl : vals.length = 1 := hvl
     obtain ⟨b34, hvals, hv⟩ := hJ.at0 hl
     obtain ⟨E, hE, hv, hrE, hokE, -⟩ := (hv.cellRow (n := 1) (c := 1) (size := 8) rfl (by decide) (by decide)).rowBy
     refine stepMem_calls s17callable25 (wn rfl) rfl (args := #[.pointer (some ⟨p2, 0, none⟩), .string ⟨x.key.toArray⟩, .slice (some ⟨b34, 0, none⟩) 1 1]) (by simp only [yA, yB, yC]; rw [show aa.eval (.tmp 43) = .pointer (some ⟨p2, 0, none⟩) from hR.v 3 43 rfl rfl rfl rfl, show aa.eval (.tmp 45) = .string ⟨x.key.toArray⟩ from hR.v 5 45 rfl rfl rfl rfl, show aa.eval (.tmp 48) = .slice (some ⟨b34, 0, none⟩) 1 1 from (hR.val 8 48 rfl rfl rfl).trans (by rw [hvals] <;> rfl)] <;> rfl) ((ixSetAny E _ _ p2 v' X' bvs' M' x.key _ [x.ver] ((hxm.more (Base.Le.refl _)).more hE) (by omega) ⟨_, 1, _, rfl, hokE, hrE, VersAt.single (v := x.ver) ((hvalx.more hBC).more hE)⟩ (by simp) (hv.front 3 rfl)).mono ?_)
     rintro e w36 ⟨rfl, G, v2, X2, bvs2, M2, hA1, hA2, hA3, hv⟩
     have hEG := hE.trans hA1
     refine ⟨_, rfl, JS.next hl ⟨b34, G, v2, X2, bvs2, M2, by rw [hvals]; rfl, hEG, hA2, hA3, hv⟩⟩
    rintro w37 vals ⟨b34, G, v2, X2, bvs2, M2, rfl, hEG, hA2, hA3, hv⟩
    rw [show mixV [8, 9] [.slice (some ⟨b34, 0, none⟩) 1 1, .tuple #[]] 0 [.pointer (some ⟨s, 0, none⟩), .pointer (some ⟨s, 0, none⟩), .pointer (some ⟨s, 0, none⟩), .pointer (some ⟨p2, 0, none⟩), .pointer (some ⟨b31, 0, none⟩), .string ⟨x.key.toArray⟩, .pointer (some ⟨b31, 1, none⟩), .agg #[.int .i64 x.ver.stamp, .bool x.ver.gone, .int .i64 x.ver.expire, .int .i64 x.ver.val.kind, .string ⟨x.ver.val.text.toArray⟩, xp, xt, xz], undef, undef] = [.pointer (some ⟨s, 0, none⟩), .pointer (some ⟨s, 0, none⟩), .pointer (some ⟨s, 0, none⟩), .pointer (some ⟨p2, 0, none⟩), .pointer (some ⟨b31, 0, none⟩), .string ⟨x.key.toArray⟩, .pointer (some ⟨b31, 1, none⟩), .agg #[.int .i64 x.ver.stamp, .bool x.ver.gone, .int .i64 x.ver.expire, .int .i64 x.ver.val.kind, .string ⟨x.ver.val.text.toArray⟩, xp, xt, xz], .slice (some ⟨b34, 0, none⟩) 1 1, .tuple #[]] from rfl]
    simp only [putAll, zP, zI, zS, zO]
    refine blk_normal ?_
    refine tN (hK29 _ _ ?_)
    clear hK29 K29
    refine rL ?_
    refine xG (.int .i64 ((i + 1 : Nat) : Int)) rfl rfl (ex_add (m := (i : Int)) (n := 1) rfl rfl rfl (by rw [i64_in (by omega)]; omega)) ?_
    refine xM (.int .i64 ((i + 1 : Nat) : Int)) rfl rfl rfl ?_
    refine wL ?_
    simp only [zP, zI, zS, zO]
    refine then_normal ?_
    go_roundw
    case rel => exact ⟨i + 1, _, _, _, _, M2, rfl, (hBC.trans hEG), by omega, hA2, hld.next hlok.nd hx hA3, (((hv.front 3 rfl).front 3 rfl).sub (List.Sublist.cons_cons _ (List.Sublist.cons_cons _ (List.Sublist.cons_cons _ (List.Sublist.cons _ (List.Sublist.refl _))))))⟩
    case measure => show ws.length - (((i + 1 : Nat) : Int)).toNat < ws.length - ((i : Int)).toNat; omega
   refine xG (.bool false) rfl rfl (ex_lss (k := .i64) (m := (i : Int)) (n := (ws.length : Int)) rfl rfl rfl (decide_eq_false hb27)) ?_
   refine wL ?_
   simp only [zP, zI, zS, zO]
   refine tN (hK26 _ _ ?_)
   clear hK26 K26
   refine sK fun K38 hK38 => ?_
   refine wpIn_cond_false rfl ?_
   refine wpIn_exit ?_
   refine then_exit ?_
   clear hK38 K38
   refine then_exit ?_
   refine blk_hit ?_
   refine tN (hK23 _ _ ?_)
   clear hK23 K23
   refine sK fun K39 hK39 => ?_
   refine region_st mixed [.pointer (some ⟨s, 0, none⟩), .pointer (some ⟨s, 0, none⟩), .int .i64 stamp, .int .i64 stamp, .pointer (some ⟨s, 0, none⟩), .pointer (some ⟨s, 1, none⟩), undef, .pointer (some ⟨s, 0, none⟩), .pointer (some ⟨s, 2, none⟩), undef] [6, 9] [⟨fun vals w => vals = [] ∧ Inv C (Res.cell s [.pointer (some ⟨p2, 0, none⟩), .int .i64 last, .int .i64 mark] 60 :: Res.cell b2 [.int .i64 stamp] 3 :: ixS 81 93 92 p2 v' (M'.length : Int) X' bvs' :: H) w, fun _ _ _ ⟨h, hi⟩ he => ⟨h, hi.ext he⟩⟩, ⟨fun vals w => vals = [undef] ∧ Inv C (Res.cell s [.pointer (some ⟨p2, 0, none⟩), .int .i64 stamp, .int .i64 mark] 60 :: Res.cell b2 [.int .i64 stamp] 3 :: ixS 81 93 92 p2 v' (M'.length : Int) X' bvs' :: H) w, fun _ _ _ ⟨h, hi⟩ he => ⟨h, hi.ext he⟩⟩, ⟨fun vals w => vals = [undef, undef] ∧ Inv C (Res.cell s [.pointer (some ⟨p2, 0, none⟩), .int .i64 stamp, .int .i64 stamp] 60 :: Res.cell b2 [.int .i64 stamp] 3 :: ixS 81 93 92 p2 v' (M'.length : Int) X' bvs' :: H) w, fun _ _ _ ⟨h, hi⟩ he => ⟨h, hi.ext he⟩⟩] 59 rfl (by kernel_rfl) ⟨rfl, hv⟩ ⟨?_, ?_, ?_, ?_, ?_, ?_, ?_, ?_, ?_, ?_, trivial⟩ ?_
   ·intro aa ww vals hJ hR
    exact xD rfl (ex_move rfl (show aa.eval (.tmp 0) = _ from hR.keep 0 rfl)) rfl rfl
   ·intro aa ww vals hJ hR
    exact xD rfl (ex_move rfl (show aa.eval (.tmp 0) = _ from hR.keep 0 rfl)) rfl rfl
   ·intro aa ww vals hJ hR
    have h2 : vals.length ≤ 0 := hR.hi 6 (by simp) rfl
    have hl : vals.length = 0 := by omega
    obtain ⟨hvals, hv⟩ := hJ.at0 hl
    exact xD rfl (ex_load rfl (show aa.eval (.tmp 4) = _ from hR.keep 4 rfl) (run_load1 s2na3 (hv.load 1 0 rfl rfl))) rfl rfl
   ·intro aa ww vals hJ hR
    have h2 : vals.length ≤ 1 := hR.hi 9 (by simp) rfl
    rcases (show vals.length = 0 ∨ vals.length = 1 by omega) with hl | hl
    ·obtain ⟨hvals, hv⟩ := hJ.at0 hl
     exact xD rfl (ex_load rfl (show aa.eval (.tmp 4) = _ from hR.keep 4 rfl) (run_load1 s2na3 (hv.load 1 0 rfl rfl))) rfl rfl
    obtain ⟨hvals, hv⟩ := hJ.at0 hl
    exact xD rfl (ex_load rfl (show aa.eval (.tmp 4) = _ from hR.keep 4 rfl) (run_load1 s2na3 (hv.load 1 0 rfl rfl))) rfl rfl
   ·intro aa ww vals hJ hR
    exact xD rfl (ex_nil rfl (hR.w 0 51 rfl rfl rfl rfl)) rfl rfl
   ·intro aa ww vals hJ hR
    exact xD rfl (ex_field rfl (hR.w 4 55 rfl rfl rfl rfl) (s15fa60_1 _ _ _)) rfl rfl
   ·intro aa ww vals hJ hR
    refine mem_step' rfl fun hvl => ?_
    have hl : vals.length = 0 := hvl
    obtain ⟨hvals, hv⟩ := hJ.at0 hl
    refine mem_storeAt 0 (v := .int .i64 stamp) (L' := [.pointer (some ⟨p2, 0, none⟩), .int .i64 stamp, .int .i64 mark]) (wn rfl) rfl (hR.w 5 56 rfl rfl rfl rfl) (hR.w 2 53 rfl rfl rfl rfl) hv rfl s5sz3 (by simp) rfl rfl rfl (fun w40 hv => ?_)
    exact JS.next hl ⟨by rw [hvals]; rfl, hv⟩
   ·intro aa ww vals hJ hR
    exact xD rfl (ex_nil rfl (hR.w 1 52 rfl rfl rfl rfl)) rfl rfl
   ·intro aa ww vals hJ hR
    exact xD rfl (ex_field rfl (hR.w 7 57 rfl rfl rfl rfl) (s25fa60_2 _ _ _)) rfl rfl
   ·intro aa ww vals hJ hR
    refine mem_step' rfl fun hvl => ?_
    have hl : vals.length = 1 := hvl
    obtain ⟨hvals, hv⟩ := hJ.at0 hl
    refine mem_storeAt 0 (v := .int .i64 stamp) (L' := [.pointer (some ⟨p2, 0, none⟩), .int .i64 stamp, .int .i64 stamp]) (wn rfl) rfl (hR.w 8 58 rfl rfl rfl rfl) (hR.w 3 54 rfl rfl rfl rfl) hv rfl s5sz3 (by simp) rfl rfl rfl (fun w41 hv => ?_)
    exact JS.next hl ⟨by rw [hvals]; rfl, hv⟩
   rintro w42 vals ⟨rfl, hv⟩
   rw [show mixV [6, 9] [undef, undef] 0 [.pointer (some ⟨s, 0, none⟩), .pointer (some ⟨s, 0, none⟩), .int .i64 stamp, .int .i64 stamp, .pointer (some ⟨s, 0, none⟩), .pointer (some ⟨s, 1, none⟩), undef, .pointer (some ⟨s, 0, none⟩), .pointer (some ⟨s, 2, none⟩), undef] = [.pointer (some ⟨s, 0, none⟩), .pointer (some ⟨s, 0, none⟩), .int .i64 stamp, .int .i64 stamp, .pointer (some ⟨s, 0, none⟩), .pointer (some ⟨s, 1, none⟩), undef, .pointer (some ⟨s, 0, none⟩), .pointer (some ⟨s, 2, none⟩), undef] from rfl]
   simp only [putAll, zP, zN, zI, zS, zO]
   refine tN (hK39 _ _ ?_)
   clear hK39 K39
   refine sK fun K43 hK43 => rL ?_
   refine xA (.int .i64 0) rfl rfl rfl ?_
   refine wL ?_
   simp only [zP, zI, zS, zO]
   refine tN (hK43 _ _ ?_)
   clear hK43 K43
   refine wpIn_ret ?_
   refine bR rfl rfl ?_
   obtain rfl : i = ws.length := by omega
   exact ⟨C, 0, hBC, rfl, .inr (.inr ⟨rfl, by omega, hlok, p2, v', X', bvs', M', hxm, hld, (((hv.front 2 rfl).front 1 rfl).sub (List.Sublist.cons_cons _ (List.Sublist.cons_cons _ (List.Sublist.cons _ (List.Sublist.refl _)))))⟩)⟩
 simp only [zP, zI, zS, zO]
 refine xK false (.bool true) rfl rfl rfl rfl ?_
 refine xM (.bool true) rfl rfl rfl ?_
 refine xT 10 21 false true rfl rfl rfl rfl rfl rfl rfl (by decide) ?_
 simp only [zP, zI, zS, zO]
 refine xN 10 21 false true rfl rfl rfl (by decide) ?_
 simp only [zP, zI, zS, zO]
 refine xK true (.bool true) rfl rfl rfl rfl ?_
 refine wL ?_
 simp only [zP, zI, zS, zO]
 refine tN (hK6 _ _ ?_)
 clear hK6 K6
 refine wpIn_cond_true rfl ?_
 refine sK fun K44 hK44 => rL ?_
 refine xA (.int .i64 2) rfl rfl rfl ?_
 refine wL ?_
 simp only [zP, zI, zS, zO]
 refine tN (hK44 _ _ ?_)
 clear hK44 K44
 refine wpIn_ret ?_
 refine then_ret ?_
 clear hK5 K5
 refine bR rfl rfl ?_
 exact ⟨B, 2, Base.Le.refl _, rfl, .inl ⟨rfl, fun h9 => by first | (have := h9.lo; omega) | (have := h9.hi; omega) | exact hbl11.1 rfl h9.nd, (((hv.front 2 rfl).front 2 rfl).sub (List.Sublist.cons_cons _ (List.Sublist.cons_cons _ (List.Sublist.cons _ (List.Sublist.refl _)))))⟩⟩
end Go.Proofs.Ytffmbdagjpdieaa
/- StorePrunes in plain data. -/
namespace Go.Proofs.Ytffmbdagjpdieaa
open Go.RowKit Go.Pm
theorem set_same2 {B C : Base} {X Y : List (List Ent)} {M M1 M2 : Model} {last : Int} {ws : List Wr} (h1 : SetI M M1 last ws ws.length) (h2 : SetI M M2 last ws ws.length) (hx : IxM B X M1) (hy : IxM C Y M2) : M2 = M1 := by
 refine IxM.eq hy hx fun k => ?_
 by_cases h : ∃ x, x ∈ ws ∧ x.key = k
 ·obtain ⟨x, hx, rfl⟩ := h
  obtain ⟨j, hj⟩ := List.mem_iff_getElem?.1 hx
  have hl := (List.getElem?_eq_some_iff.1 hj).1
  rw [h1.got j x hl hj, h2.got j x hl hj]
 have hno : ∀ j x, j < ws.length → ws[j]? = some x → x.key ≠ k := fun j x _ hx e => h ⟨x, List.mem_of_getElem? hx, e⟩
 rw [h1.rest k hno, h2.rest k hno]
section
variable {M M' : Model} {mark last c at_ d n : Int}
theorem prune_asc (h : AscM M) (hp : ∀ k, getM M' k = pruneC (getM M k) mark c) : AscM M' := fun k => by
 rw [hp]
 unfold pruneC
 have hf : Asc ((getM M k).filter fun x => decide (mark < x.stamp)) := List.Pairwise.filter _ (h k)
 cases hr : readV (getM M k) mark c with
 | none => exact hf
 | some x =>
  refine List.pairwise_cons.2 ⟨fun y hy => ?_, hf⟩
  have h1 := (readV_some hr).2.1
  have h2 := (List.mem_filter.1 hy).2
  have h3 : mark < y.stamp := by simpa using h2
  omega
theorem prune_read (h : AscM M) (hp : ∀ k, getM M' k = pruneC (getM M k) mark c) (h1 : mark ≤ at_) (h2 : c ≤ d) (k : List UInt8) : readV (getM M' k) at_ d = readV (getM M k) at_ d := by
 rw [hp]; exact readV_prune (h k) h1 h2
theorem dump_ok (h : StoM M n) (hs : SortedT (keysM M)) (hn : 0 ≤ n) (hn2 : n ≤ 1152921504606846975) : LoadOk (dumpM M n c) n := by
 refine ⟨hn, hn2, ?_, fun x hx => ?_⟩
 ·rw [dumpM_keys hs]
  exact List.Pairwise.imp (fun {a b} hab e => lt_ne hab e) (namesM_sorted hs n c)
 have hg := dumpM_get hs hx
 obtain ⟨h1, h2, h3⟩ := readV_some hg
 obtain ⟨i, hi⟩ := List.mem_iff_getElem?.1 h1
 have hc := h.ok x.key i x.ver hi
 have hgo : x.ver.gone = false := by
  cases hgo : x.ver.gone with
  | false => rfl
  | true => unfold aliveB at h3; rw [hgo] at h3; cases h3
 refine ⟨⟨h.key x.key (fun e => by rw [e] at h1; cases h1), fun j y hy => ?_⟩, hgo, by have := hc.2.1; omega, h2⟩
 cases j with
 | zero =>
  simp at hy; subst hy
  refine ⟨?_, (by decide : (0 : Int) < 1), (by decide : (1 : Int) ≤ 1152921504606846975), fun j z hj => by omega⟩
  rcases hc.1 with ⟨e, -⟩ | ⟨e1, e2, e3, e4⟩
  ·rw [hgo] at e; cases e
  exact .inr ⟨e1, e2, e3, e4⟩
 | succ j => simp at hy
theorem load_get (hs : SortedT (keysM M)) (hl : LoadI M' (dumpM M n c) (dumpM M n c).length) (k : List UInt8) : getM M' k = match readV (getM M k) n c with | some x => [x] | none => [] := by
 cases hr : readV (getM M k) n c with
 | some v =>
  have hk : k ∈ (dumpM M n c).map (·.key) := by
   rw [dumpM_keys hs, namesM_mem, hr]; rfl
  obtain ⟨x, hx, rfl⟩ := List.mem_map.1 hk
  have hg := dumpM_get hs hx
  rw [hr] at hg
  cases hg
  obtain ⟨j, hj⟩ := List.mem_iff_getElem?.1 hx
  exact hl.got j x (List.getElem?_eq_some_iff.1 hj).1 hj
 | none =>
  refine hl.rest k fun j x _ hx e => ?_
  have hg := dumpM_get hs (List.mem_of_getElem? hx)
  rw [e, hr] at hg
  cases hg
theorem load_read (hs : SortedT (keysM M)) (hl : LoadI M' (dumpM M n c) (dumpM M n c).length) (h2 : c ≤ d) (k : List UInt8) : readV (getM M' k) n d = readV (getM M k) n d := by
 rw [load_get hs hl]; exact readV_dump h2
theorem load_asc (hs : SortedT (keysM M)) (hl : LoadI M' (dumpM M n c) (dumpM M n c).length) : AscM M' := fun k => by
 rw [load_get hs hl]
 cases readV (getM M k) n c with
 | none => exact List.Pairwise.nil
 | some x => exact List.pairwise_singleton _ _
theorem names_len (h : StoM M n) (s d : Int) : ∀ x ∈ namesM M s d, x.length ≤ 1000 := fun x hx => by
 have := h.key x (fun e => by rw [namesM_mem, e] at hx; cases hx)
 omega
end
end Go.Proofs.Ytffmbdagjpdieaa
/- Arguments of the store's laws: rows of rows of writes. -/
namespace Go.Pm
open Go.RowKit
def All2 {α β : Type} (R : α → β → Prop) : List α → List β → Prop
 | [], [] => True
 | a :: k, b :: l => R a b ∧ All2 R k l
 | _, _ => False
theorem rep_rowAux {W : World} {S : Nat → Prop} {t : Ty} {a : Option Addr} : ∀ (l : List t.den) (k : Nat), (∀ i (h : i < l.length), ∃ b off xs, a = some ⟨b, off, none⟩ ∧ S b ∧ xs.length = t.size ∧ (∀ j (h : j < xs.length), W.cell? ⟨b, off + (k + i) * t.size + j, none⟩ = some xs[j]) ∧ Rep W S t xs l[i]) →
  ∃ xss : List (List Value), All2 (fun xs d => xs.length = t.size ∧ Rep W S t xs d) xss l ∧ ∀ j (h : j < xss.flatten.length), ∃ b off, a = some ⟨b, off, none⟩ ∧ W.cell? ⟨b, off + k * t.size + j, none⟩ = some xss.flatten[j]
 | [], k, _ => ⟨[], trivial, fun j h => by simp at h⟩
 | d :: l, k, h => by
  obtain ⟨xss, h1, h2⟩ := rep_rowAux l (k + 1) (fun i hi => by
   obtain ⟨b, off, xs, e1, e2, e3, e4, e5⟩ := h (i + 1) (by simpa using hi)
   refine ⟨b, off, xs, e1, e2, e3, fun j hj => ?_, e5⟩
   rw [show k + 1 + i = k + (i + 1) by omega]
   exact e4 j hj)
  obtain ⟨b, off, xs, e1, e2, e3, e4, e5⟩ := h 0 (by simp)
  refine ⟨xs :: xss, ⟨⟨e3, e5⟩, h1⟩, fun j hj => ?_⟩
  rcases Nat.lt_or_ge j xs.length with hx | hx
  ·refine ⟨b, off, e1, ?_⟩
   have := e4 j hx
   rw [Nat.add_zero] at this
   rw [this]
   simp only [List.flatten_cons]
   rw [List.getElem_append_left hx]
  have hj' : j - xs.length < xss.flatten.length := by
   simp only [List.flatten_cons, List.length_append] at hj
   omega
  obtain ⟨b', off', f1, f2⟩ := h2 (j - xs.length) hj'
  refine ⟨b', off', f1, ?_⟩
  rw [show off' + k * t.size + j = off' + (k + 1) * t.size + (j - xs.length) by rw [Nat.succ_mul]; omega, f2]
  simp only [List.flatten_cons]
  rw [List.getElem_append_right hx]
theorem rep_row {W : World} {S : Nat → Prop} {t : Ty} {cs : List Value} {l : List t.den} (h : Rep W S (.slice t) cs l) :
  ∃ a cap xss, cs = [.slice a l.length cap] ∧ SliceOk a l.length cap ∧ RdV (Base.of W) [] a xss.flatten ∧ All2 (fun xs d => xs.length = t.size ∧ Rep W S t xs d) xss l := by
 obtain ⟨a, cap, h1, h2, h4⟩ := h
 obtain ⟨xss, h5, h6⟩ := rep_rowAux (t := t) l 0 (fun i hi => by
  obtain ⟨b, off, xs, e1, e2, e3, e4, e5⟩ := h4 i hi
  refine ⟨b, off, xs, e1, e2, e3, fun j hj => ?_, e5⟩
  rw [Nat.zero_add]
  exact e4 j hj)
 refine ⟨a, cap, xss, h1, h2, rdV_of W fun j hj => ?_, h5⟩
 obtain ⟨b, off, f1, f2⟩ := h6 j hj
 exact ⟨b, off, f1, by rw [← f2, Nat.zero_mul, Nat.add_zero]⟩
abbrev pairTy : Ty := .pair .str (.pair .str .unit)
abbrev memTy : Ty := .pair (.int .i64) (.pair .str .unit)
abbrev valTy : Ty := .pair (.int .i64) (.pair .str (.pair (.slice pairTy) (.pair (.slice .str) (.pair (.slice memTy) .unit))))
abbrev verTy : Ty := .pair (.int .i64) (.pair .bool (.pair (.int .i64) (.pair valTy .unit)))
abbrev wrTy : Ty := .pair .str (.pair verTy .unit)
def valOf (d : valTy.den) : Val := ⟨d.1, d.2.1, d.2.2.1.map fun p => (p.1, p.2.1), d.2.2.2.1, d.2.2.2.2.1.map fun p => (p.1, p.2.1)⟩
def verOf (d : verTy.den) : Ver := ⟨d.1, d.2.1, d.2.2.1, valOf d.2.2.2.1⟩
def wrOf (d : wrTy.den) : Wr := ⟨d.1, verOf d.2.1⟩
theorem rep_pairs {W : World} {S : Nat → Prop} : ∀ {xss : List (List Value)} {l : List pairTy.den}, All2 (fun xs d => xs.length = pairTy.size ∧ Rep W S pairTy xs d) xss l → xss.flatten = pairCells (l.map fun p => (p.1, p.2.1))
 | [], [], _ => rfl
 | xs :: xss, d :: l, ⟨⟨h1, h2⟩, h⟩ => by
  have := rep_pairs h
  match xs, h1 with
  | [x0, x1], _ =>
   obtain ⟨⟨k1, _⟩, ⟨k2, _⟩, _⟩ := h2
   have k1' : [x0] = _ := k1
   have k2' : [x1] = _ := k2
   simp only [List.cons.injEq, and_true] at k1' k2'
   subst k1' k2'
   simp only [List.flatten_cons, this, List.map_cons, pairCells, List.flatMap_cons]
theorem rep_mems {W : World} {S : Nat → Prop} : ∀ {xss : List (List Value)} {l : List memTy.den}, All2 (fun xs d => xs.length = memTy.size ∧ Rep W S memTy xs d) xss l → xss.flatten = memCells (l.map fun p => (p.1, p.2.1))
 | [], [], _ => rfl
 | xs :: xss, d :: l, ⟨⟨h1, h2⟩, h⟩ => by
  have := rep_mems h
  match xs, h1 with
  | [x0, x1], _ =>
   obtain ⟨⟨k1, _⟩, ⟨k2, _⟩, _⟩ := h2
   have k1' : [x0] = _ := k1
   have k2' : [x1] = _ := k2
   simp only [List.cons.injEq, and_true] at k1' k2'
   subst k1' k2'
   simp only [List.flatten_cons, this, List.map_cons, memCells, List.flatMap_cons]
   rfl
theorem rep_texts {W : World} {S : Nat → Prop} : ∀ {xss : List (List Value)} {l : List (List UInt8)}, All2 (fun xs (d : Ty.str.den) => xs.length = Ty.str.size ∧ Rep W S .str xs d) xss l → xss.flatten = textCells l
 | [], [], _ => rfl
 | xs :: xss, d :: l, ⟨⟨h1, h2⟩, h⟩ => by
  have := rep_texts h
  match xs, h1 with
  | [x0], _ =>
   obtain ⟨k1, _⟩ := h2
   have k1' : [x0] = _ := k1
   simp only [List.cons.injEq, and_true] at k1'
   subst k1'
   simp only [List.flatten_cons, this, textCells, List.map_cons]
   rfl
theorem rep_val {W : World} {S : Nat → Prop} {k0 k1 k2 k3 k4 : Value} {d : valTy.den} (h : Rep W S valTy [k0, k1, k2, k3, k4] d) : k0 = .int .i64 (valOf d).kind ∧ k1 = strV (valOf d).text ∧ ValRd (Base.of W) (valOf d) k2 k3 k4 := by
 obtain ⟨⟨e0, _⟩, ⟨e1, _⟩, e2, e3, e4, _⟩ := h
 have e0' : [k0] = _ := e0
 have e1' : [k1] = _ := e1
 simp only [List.cons.injEq, and_true] at e0' e1'
 obtain ⟨a2, c2, x2, f2, g2, i2, j2⟩ := rep_row e2
 obtain ⟨a3, c3, x3, f3, g3, i3, j3⟩ := rep_row e3
 obtain ⟨a4, c4, x4, f4, g4, i4, j4⟩ := rep_row e4
 have f2' : [k2] = _ := f2
 have f3' : [k3] = _ := f3
 have f4' : [k4] = _ := f4
 simp only [List.cons.injEq, and_true] at f2' f3' f4'
 rw [rep_pairs j2] at i2
 rw [rep_texts j3] at i3
 rw [rep_mems j4] at i4
 refine ⟨e0', e1', ⟨a2, c2, ?_, ?_, i2⟩, ⟨a3, c3, f3', g3, i3⟩, ⟨a4, c4, ?_, ?_, i4⟩⟩
 ·rw [f2']; simp [valOf]
 ·simpa [valOf] using g2
 ·rw [f4']; simp [valOf]
 simpa [valOf] using g4
theorem rep_wrs {W : World} {S : Nat → Prop} : ∀ {xss : List (List Value)} {l : List wrTy.den}, All2 (fun xs d => xs.length = wrTy.size ∧ Rep W S wrTy xs d) xss l → WrsRd (Base.of W) (l.map wrOf) xss.flatten
 | [], [], _ => rfl
 | xs :: xss, d :: l, ⟨⟨h1, h2⟩, h⟩ => by
  have := rep_wrs h
  match xs, h1 with
  | [x0, x1, x2, x3, x4, x5, x6, x7, x8], _ =>
   obtain ⟨⟨k1, _⟩, ⟨⟨s1, _⟩, g1, ⟨p1, _⟩, v1, _⟩, _⟩ := h2
   have k1' : [x0] = _ := k1
   have s1' : [x1] = _ := s1
   have g1' : [x2] = _ := g1
   have p1' : [x3] = _ := p1
   simp only [List.cons.injEq, and_true] at k1' s1' g1' p1'
   obtain ⟨q1, q2, q3⟩ := rep_val (k0 := x4) (k1 := x5) (k2 := x6) (k3 := x7) (k4 := x8) v1
   subst k1' s1' g1' p1' q1 q2
   exact ⟨x6, x7, x8, _, rfl, q3, this⟩
def WssRd (B : Base) (ll : List (List Wr)) (xs : List Value) : Prop := ∀ (i : Nat) (l : List Wr), ll[i]? = some l → ∃ (ad : Option Addr) (c : Nat) (ys : List Value), xs[i]? = some (Value.slice ad l.length c) ∧ SliceOk ad l.length c ∧ RdV B [] ad ys ∧ WrsRd B l ys
theorem rep_wss0 {W : World} {S : Nat → Prop} : ∀ {xss : List (List Value)} {ll : List (List wrTy.den)}, All2 (fun xs (d : (Ty.slice wrTy).den) => xs.length = (Ty.slice wrTy).size ∧ Rep W S (Ty.slice wrTy) xs d) xss ll → WssRd (Base.of W) (ll.map (·.map wrOf)) xss.flatten
 | [], [], _ => by intro i l h; simp at h
 | xs :: xss, d :: ll, ⟨⟨h1, h2⟩, h⟩ => by
  have ih := rep_wss0 h
  obtain ⟨a, c, ys, e1, e2, e3, e4⟩ := rep_row h2
  subst e1
  intro i l hl
  cases i with
  | zero =>
   simp only [List.map_cons, List.getElem?_cons_zero, Option.some.injEq] at hl
   subst hl
   exact ⟨a, c, _, by simp, by simpa using e2, e3, rep_wrs e4⟩
  | succ i =>
   obtain ⟨ad, c', ys', f1, f2⟩ := ih i l (by simpa using hl)
   exact ⟨ad, c', ys', by simpa using f1, f2⟩
theorem rep_wss {W : World} {S : Nat → Prop} {cs : List Value} {ll : List (List wrTy.den)} (h : Rep W S (.slice (.slice wrTy)) cs ll) :
  ∃ a cap xs, cs = [.slice a ll.length cap] ∧ SliceOk a ll.length cap ∧ RdV (Base.of W) [] a xs ∧ WssRd (Base.of W) (ll.map (·.map wrOf)) xs := by
 obtain ⟨a, cap, xss, h1, h2, h3, h4⟩ := rep_row h
 exact ⟨a, cap, _, h1, h2, h3, rep_wss0 h4⟩
theorem rep_wssL {W : World} {S : Nat → Prop} {cs : List Value} {ll : List (List wrTy.den)} (h : Rep W S (.slice (.slice wrTy)) cs ll) :
  ∃ (a : Option Addr) (cap : Nat) (xs : List Value) (wss : List (List Wr)), cs = [.slice a wss.length cap] ∧ RdV (Base.of W) [] a xs ∧ WssRd (Base.of W) wss xs := by
 obtain ⟨a, cap, xs, h1, -, h3, h4⟩ := rep_wss h
 exact ⟨a, cap, xs, _, by rw [List.length_map]; exact h1, h3, h4⟩
end Go.Pm
/- StorePrunes: the law's walk. -/
namespace Go.Proofs.Ytffmbdagjpdieaa
open Go.RowKit Go.Pm
theorem refSame1F (B : Base) (H : List Res) (w : World) (u u' : Ver) (p t z p' t' z' : Value) (h : ValAt B u.val p t z) (hu : u' = u) (h' : ValAt B u'.val p' t' z') (hv : Inv B H w) : Calls Try.prog 15 #[.agg (verCells u p t z).toArray, .agg (verCells u' p' t' z').toArray] w fun e w' => e = .returned (.bool true) ∧ Inv B H w' := by
 subst hu
 exact refSame1 B H w u' p t z p' t' z' h h' hv
theorem l17ccallable6 : Callable Try.prog 6 := ⟨_, Try.func6, by kernel_rfl, by kernel_rfl⟩
theorem l17ces22 (w : World) : (sizeOf (Try.prog.elem 22)).run Try.prog w = .ok 1 w := by kernel_rfl
theorem l17cna27 (w : World) : (isAgg 27).run Try.prog w = .ok false w := by kernel_rfl
theorem l17ccallable8 : Callable Try.prog 8 := ⟨_, Try.func8, by kernel_rfl, by kernel_rfl⟩
theorem l17cea49 (w : World) : (sizeOf 3).run Try.prog w = .ok 1 w := by kernel_rfl
theorem l17cua49 : Try.prog.underlying 49 = some (.array 2 3) := by kernel_rfl
theorem l17ccallable10 : Callable Try.prog 10 := ⟨_, Try.func10, by kernel_rfl, by kernel_rfl⟩
theorem l17ccallable13 : Callable Try.prog 13 := ⟨_, Try.func13, by kernel_rfl, by kernel_rfl⟩
theorem l17ccallable17 : Callable Try.prog 17 := ⟨_, Try.func17, by kernel_rfl, by kernel_rfl⟩
theorem l17ccallable14 : Callable Try.prog 14 := ⟨_, Try.func14, by kernel_rfl, by kernel_rfl⟩
theorem l17ccallable19 : Callable Try.prog 19 := ⟨_, Try.func19, by kernel_rfl, by kernel_rfl⟩
theorem l17cal38 (w : World) : (Instr.alloc 38 true (.tuple #[])).run Try.prog w = .ok (.pointer (some ⟨w.heap.size, 0, none⟩)) (w.alloc (.cells ([.int .i64 0, .bool false, .int .i64 0, .int .i64 0, .string ⟨([] : List UInt8).toArray⟩, .slice none 0 0, .slice none 0 0, .slice none 0 0] : List Value).toArray 38)) := by kernel_rfl
theorem l17ccallable15 : Callable Try.prog 15 := ⟨_, Try.func15, by kernel_rfl, by kernel_rfl⟩
set_option maxHeartbeats 8000000 in
theorem storePrunesMain (B : Base) (H : List Res) (w : World) (ad : Option Addr) (c : Nat) (ll : List (List Wr)) (xs : List Value) (s0 s9 c0 c1 : Int) (hs9 : -9223372036854775808 ≤ s9 ∧ s9 ≤ 9223372036854775807) (hr : RdV B [] ad xs) (hwss : WssRd B ll xs) (hv : Inv B H w) :
  Calls Try.prog 5 #[.slice ad ll.length c, .agg #[.int .i64 s0, .int .i64 s9], .agg #[.int .i64 c0, .int .i64 c1]] w fun e w' => e = .returned (.bool true) ∧ Inv B H w' := by
 refine (callsIn_wide (n := 5)).1 ?_
 refine callsIn_of_wp Try.func5 rfl trivial ?_
 simp only [Try.ntmps5, List.size_toArray, List.length_cons, List.length_nil, Nat.reduceAdd, Nat.reduceSub, Array.replicate_succ, Array.replicate_zero, List.push_toArray, List.append_toArray, List.nil_append, List.cons_append]
 refine sK fun K1 hK1 => rL ?_
 refine sl_box (L := [.int .i64 s0, .int .i64 s9]) tV (wn rfl) rfl (p := .agg #[.int .i64 s0, .int .i64 s9]) rfl hv (fun w => by kernel_rfl) (fun b2 w3 hv => ?_)
 refine sl_box (L := [.int .i64 c0, .int .i64 c1]) tV (wn rfl) rfl (p := .agg #[.int .i64 c0, .int .i64 c1]) rfl hv (fun w => by kernel_rfl) (fun b4 w5 hv => ?_)
 refine xA (.bool false) rfl rfl rfl ?_
 refine wL ?_
 simp only [zP, zI, zS, zO]
 refine tN (hK1 _ _ ?_)
 clear hK1 K1
 refine sK fun K6 hK6 => ?_
 refine sK fun K7 hK7 => rL ?_
 refine xC l17ccallable6 rfl rfl (l := []) rfl ((lawAwake B _ _ hv).mono ?_)
 rintro e w8 ⟨rfl, hv⟩
 refine ⟨_, rfl, ?_⟩
 refine xG (.bool false) rfl rfl (ex_not (b := true) rfl rfl rfl) ?_
 refine xM (.bool false) rfl rfl rfl ?_
 simp only [zP, zI, zS, zO]
 refine xH 2 26 false (.slice ad ll.length c) rfl rfl rfl rfl (ex_move rfl rfl) ?_
 refine xH 2 26 false (.int .i64 (ll.length : Int)) rfl rfl rfl rfl (ex_len0 Try.underlying22 rfl rfl) ?_
 by_cases hb9 : (ll.length : Int) > 15
 ·refine xH 2 26 false (.bool true) rfl rfl rfl rfl (ex_gtr (k := .i64) (m := (ll.length : Int)) (n := 15) rfl rfl rfl (decide_eq_true hb9)) ?_
  simp only [zP, zI, zS, zO]
  refine xK false (.bool true) rfl rfl rfl rfl ?_
  refine wL ?_
  simp only [zP, zI, zS, zO]
  refine tN (hK7 _ _ ?_)
  clear hK7 K7
  refine wpIn_cond_true rfl ?_
  refine sK fun K10 hK10 => rL ?_
  refine xC l17ccallable6 rfl rfl (l := []) rfl ((lawAwake B _ _ hv).mono ?_)
  rintro e w11 ⟨rfl, hv⟩
  refine ⟨_, rfl, ?_⟩
  refine xA (.bool true) rfl rfl rfl ?_
  refine wL ?_
  simp only [zP, zI, zS, zO]
  refine tN (hK10 _ _ ?_)
  clear hK10 K10
  refine wpIn_ret ?_
  refine then_ret ?_
  clear hK6 K6
  refine bR rfl rfl ?_
  exact ⟨rfl, (hv.sub (List.Sublist.cons _ (List.Sublist.cons _ (List.Sublist.refl _))))⟩
 refine xH 2 26 false (.bool false) rfl rfl rfl rfl (ex_gtr (k := .i64) (m := (ll.length : Int)) (n := 15) rfl rfl rfl (decide_eq_false hb9)) ?_
 simp only [zP, zI, zS, zO]
 refine xK false (.bool false) rfl rfl rfl rfl ?_
 refine wL ?_
 simp only [zP, zI, zS, zO]
 refine tN (hK7 _ _ ?_)
 clear hK7 K7
 refine wpIn_cond_false rfl ?_
 refine wpIn_skip ?_
 refine tN (hK6 _ _ ?_)
 clear hK6 K6
 refine sK fun K12 hK12 => rL ?_
 refine xC s27callable7 rfl rfl (l := []) rfl ((storeNew B _ _ hv).mono ?_)
 rintro e w13 ⟨s1, p1, rfl, hv⟩
 refine ⟨_, rfl, ?_⟩
 refine xC s27callable7 rfl rfl (l := []) rfl ((storeNew B _ _ hv).mono ?_)
 rintro e w14 ⟨s2, p2, rfl, hv⟩
 refine ⟨_, rfl, ?_⟩
 refine xC s27callable7 rfl rfl (l := []) rfl ((storeNew B _ _ hv).mono ?_)
 rintro e w15 ⟨s3, p3, rfl, hv⟩
 refine ⟨_, rfl, ?_⟩
 simp only [zP, zI, zS, zO]
 refine xA (.pointer (some ⟨s1, 0, none⟩)) rfl rfl rfl ?_
 refine xA (.pointer (some ⟨s2, 0, none⟩)) rfl rfl rfl ?_
 refine xA (.pointer (some ⟨s3, 0, none⟩)) rfl rfl rfl ?_
 refine wL ?_
 simp only [zP, zI, zS, zO]
 refine tN (hK12 _ _ ?_)
 clear hK12 K12
 refine sK fun K16 hK16 => ?_
 refine sK fun K17 hK17 => rL ?_
 refine xA (.int .i64 0) rfl rfl rfl ?_
 refine wL ?_
 simp only [zP, zI, zS, zO]
 refine tN (hK17 _ _ ?_)
 clear hK17 K17
 refine wpIn_block ?_
 gi_loopw [10] (fun x10 wr => ∃ (i n : Nat) (C : Base) (v1 : Value) (X1 : List (List Ent)) (f1 : List Value) (v2 : Value) (X2 : List (List Ent)) (f2 : List Value) (M : Model), x10 = .int .i64 (i : Int) ∧ B.Le C ∧ i ≤ ll.length ∧ n ≤ i ∧ M.length ≤ 12 * i ∧ IxM C X1 M ∧ IxM C X2 M ∧ StoM M (n : Int) ∧ Inv C (Res.cell s1 [.pointer (some ⟨p1, 0, none⟩), .int .i64 (n : Int), .int .i64 0] 60 :: ixS 81 93 92 p1 v1 (M.length : Int) X1 f1 :: Res.cell s2 [.pointer (some ⟨p2, 0, none⟩), .int .i64 (n : Int), .int .i64 0] 60 :: ixS 81 93 92 p2 v2 (M.length : Int) X2 f2 :: Res.cell s3 [.pointer (some ⟨p3, 0, none⟩), .int .i64 0, .int .i64 0] 60 :: ixS 81 93 92 p3 (.slice none 0 0) 0 [] [] :: Res.cell b4 [.int .i64 c0, .int .i64 c1] 49 :: Res.cell b2 [.int .i64 s0, .int .i64 s9] 49 :: H) wr) (fun x10 _ => ll.length - (intOf x10).toNat)
 case atStart => exact ⟨0, 0, B, _, [], [], _, [], [], [], rfl, Base.Le.refl _, Nat.zero_le _, Nat.le_refl _, Nat.zero_le _, ixm_nil B, ixm_nil B, StoM.nil, ((((((((hv.front 7 rfl).front 7 rfl).front 3 rfl).front 3 rfl).front 5 rfl).front 5 rfl).front 7 rfl).front 7 rfl)⟩
 case round =>
  obtain ⟨i, n, C, v1, X1, f1, v2, X2, f2, M, rfl, hBC, hi, hni, hMl, hx1, hx2, hsto, hv⟩ := hrel
  refine sK fun K19 hK19 => ?_
  refine sK fun K20 hK20 => rL ?_
  refine xM (.int .i64 (i : Int)) rfl rfl rfl ?_
  refine xM (.slice ad ll.length c) rfl rfl rfl ?_
  refine xG (.int .i64 (ll.length : Int)) rfl rfl (ex_len0 Try.underlying22 rfl rfl) ?_
  simp only [zP, zI, zS, zO]
  by_cases hb21 : (i : Int) < (ll.length : Int)
  ·refine xG (.bool true) rfl rfl (ex_lss (k := .i64) (m := (i : Int)) (n := (ll.length : Int)) rfl rfl rfl (decide_eq_true hb21)) ?_
   refine wL ?_
   simp only [zP, zI, zS, zO]
   refine tN (hK20 _ _ ?_)
   clear hK20 K20
   refine wpIn_cond_true rfl ?_
   refine wpIn_skip ?_
   refine tN (hK19 _ _ ?_)
   clear hK19 K19
   refine sK fun K22 hK22 => ?_
   refine wpIn_block ?_
   refine sK fun K23 hK23 => ?_
   refine sK fun K24 hK24 => ?_
   obtain ⟨ws, hws⟩ : ∃ x, ll[i]? = some x := ⟨_, List.getElem?_eq_getElem (show i < ll.length by omega)⟩
   obtain ⟨wa, wc, ys, hxi, hwok9, hwr, hwrs⟩ := hwss i ws hws
   obtain ⟨bb, bo, had, hrd⟩ := row1_reads (hr.rdW []) hxi
   subst had
   refine rL ?_
   refine xM (.slice (some ⟨bb, bo, none⟩) ll.length c) rfl rfl rfl ?_
   refine xM (.int .i64 (i : Int)) rfl rfl rfl ?_
   refine xG (.pointer (some ⟨bb, bo + i, none⟩)) rfl rfl (ex_index rfl rfl rfl (run_idx1 (k := i) Try.underlying22 l17ces22 (by omega))) ?_
   simp only [zP, zI, zS, zO]
   refine xL (.slice wa ws.length wc) rfl rfl rfl (run_load1 l17cna27 (hrd _ _ _ hBC no_res hv 0 _ rfl)) ?_
   refine xC l17ccallable8 rfl rfl (l := [.slice wa ws.length wc]) rfl ((lawSmall C _ _ wa wc ws ys (hwr.more hBC (fun _ h => h)) (hwrs.more hBC) hv).mono ?_)
   rintro e w26 ⟨bl25, rfl, hbl25, hv⟩
   refine ⟨_, rfl, ?_⟩
   cases bl25
   ·refine xG (.bool true) rfl rfl (ex_not (b := false) rfl rfl rfl) ?_
    refine wL ?_
    simp only [zP, zI, zS, zO]
    refine tN (hK24 _ _ ?_)
    clear hK24 K24
    refine wpIn_cond_true rfl ?_
    refine sK fun K27 hK27 => rL ?_
    refine xA (.bool true) rfl rfl rfl ?_
    refine wL ?_
    simp only [zP, zI, zS, zO]
    refine tN (hK27 _ _ ?_)
    clear hK27 K27
    refine wpIn_ret ?_
    refine then_ret ?_
    clear hK23 K23
    refine blk_ret ?_
    refine then_ret ?_
    clear hK22 K22
    refine then_ret ?_
    refine blk_ret ?_
    refine then_ret ?_
    clear hK16 K16
    refine bR rfl rfl ?_
    exact ⟨rfl, ((hv.sub (List.Sublist.cons _ (List.Sublist.cons _ (List.Sublist.cons _ (List.Sublist.cons _ (List.Sublist.cons _ (List.Sublist.cons _ (List.Sublist.cons _ (List.Sublist.cons _ (List.Sublist.refl _))))))))))).weak hBC⟩
   refine xG (.bool false) rfl rfl (ex_not (b := true) rfl rfl rfl) ?_
   refine wL ?_
   simp only [zP, zI, zS, zO]
   refine tN (hK24 _ _ ?_)
   clear hK24 K24
   refine wpIn_cond_false rfl ?_
   refine wpIn_skip ?_
   refine tN (hK23 _ _ ?_)
   clear hK23 K23
   refine sK fun K28 hK28 => rL ?_
   refine xM (.pointer (some ⟨s1, 0, none⟩)) rfl rfl rfl ?_
   refine xM (.slice (some ⟨bb, bo, none⟩) ll.length c) rfl rfl rfl ?_
   refine xM (.int .i64 (i : Int)) rfl rfl rfl ?_
   simp only [zP, zI, zS, zO]
   refine xG (.pointer (some ⟨bb, bo + i, none⟩)) rfl rfl (ex_index rfl rfl rfl (run_idx1 (k := i) Try.underlying22 l17ces22 (by omega))) ?_
   refine xL (.slice wa ws.length wc) rfl rfl rfl (run_load1 l17cna27 (hrd _ _ _ hBC no_res hv 0 _ rfl)) ?_
   replace hv := hv.front 1 rfl
   simp only [List.eraseIdx_cons_succ, List.eraseIdx_cons_zero] at hv
   replace hv := hv.front 1 rfl
   simp only [List.eraseIdx_cons_succ, List.eraseIdx_cons_zero] at hv
   obtain ⟨hl12, hsm⟩ := hbl25 rfl
   have hwat := hwrs.at_ hsm
   refine xC s27callable9 rfl rfl (l := [.pointer (some ⟨s1, 0, none⟩), .slice wa ws.length wc]) rfl ((storeApply C _ _ s1 p1 v1 X1 f1 M (n : Int) 0 wa wc ys ws (hx1.more (Base.Le.refl _)) (by omega) (hwr.more hBC (fun _ h => h)) (hwat.more hBC) (by omega) (by omega) hv).mono ?_)
   rintro e w29 ⟨D1, m1, ec1, hD1, rfl, hor⟩
   refine ⟨_, rfl, ?_⟩
   rcases hor with ⟨-, hno, -, hv⟩ | ⟨-, -, happ, w1, Y1, e1, Ma, hy1, hset1, hv⟩
   ·refine wL ?_
    simp only [zP, zI, zS, zO]
    refine tN (hK28 _ _ ?_)
    clear hK28 K28
    refine rL ?_
    refine xM (.pointer (some ⟨s2, 0, none⟩)) rfl rfl rfl ?_
    refine xM (.slice (some ⟨bb, bo, none⟩) ll.length c) rfl rfl rfl ?_
    refine xM (.int .i64 (i : Int)) rfl rfl rfl ?_
    simp only [zP, zI, zS, zO]
    refine xG (.pointer (some ⟨bb, bo + i, none⟩)) rfl rfl (ex_index rfl rfl rfl (run_idx1 (k := i) Try.underlying22 l17ces22 (by omega))) ?_
    refine xL (.slice wa ws.length wc) rfl rfl rfl (run_load1 l17cna27 (hrd _ _ _ (hBC.trans hD1) no_res hv 0 _ rfl)) ?_
    replace hv := hv.front 3 rfl
    simp only [List.eraseIdx_cons_succ, List.eraseIdx_cons_zero] at hv
    replace hv := hv.front 3 rfl
    simp only [List.eraseIdx_cons_succ, List.eraseIdx_cons_zero] at hv
    refine xC s27callable9 rfl rfl (l := [.pointer (some ⟨s2, 0, none⟩), .slice wa ws.length wc]) rfl ((storeApply D1 _ _ s2 p2 v2 X2 f2 M (n : Int) 0 wa wc ys ws (hx2.more hD1) (by omega) (hwr.more (hBC.trans hD1) (fun _ h => h)) (hwat.more (hBC.trans hD1)) (by omega) (by omega) hv).mono ?_)
    rintro e w30 ⟨D2, m2, ec2, hD2, rfl, hor⟩
    refine ⟨_, rfl, ?_⟩
    rcases hor with ⟨-, hno, -, hv⟩ | ⟨-, -, happ2, w2, Y2, e2, Mb, hy2, hset2, hv⟩
    rotate_left
    ·exact absurd happ2 hno
    refine wL ?_
    simp only [zP, zI, zS, zO]
    refine blk_normal ?_
    refine tN (hK22 _ _ ?_)
    clear hK22 K22
    refine rL ?_
    refine xM (.int .i64 (i : Int)) rfl rfl rfl ?_
    refine xG (.int .i64 ((i + 1 : Nat) : Int)) rfl rfl (ex_add (m := (i : Int)) (n := 1) rfl rfl rfl (by rw [i64_in (by omega)]; omega)) ?_
    refine xA (.int .i64 ((i + 1 : Nat) : Int)) rfl rfl rfl ?_
    refine wL ?_
    simp only [zP, zI, zS, zO]
    refine then_normal ?_
    go_roundw
    case rel => exact ⟨i + 1, n, _, _, _, _, _, _, _, M, rfl, ((hBC.trans hD1).trans hD2), by omega, by omega, by omega, hx1.more (hD1.trans hD2), hx2.more (hD1.trans hD2), hsto, ((((((((hv.front 7 rfl).front 7 rfl).front 7 rfl).front 7 rfl).front 5 rfl).front 5 rfl).front 7 rfl).front 7 rfl)⟩
    case measure => show ll.length - (((i + 1 : Nat) : Int)).toNat < ll.length - ((i : Int)).toNat; omega
   have hm2 := hset1.len
   refine wL ?_
   simp only [zP, zI, zS, zO]
   refine tN (hK28 _ _ ?_)
   clear hK28 K28
   refine rL ?_
   refine xM (.pointer (some ⟨s2, 0, none⟩)) rfl rfl rfl ?_
   refine xM (.slice (some ⟨bb, bo, none⟩) ll.length c) rfl rfl rfl ?_
   refine xM (.int .i64 (i : Int)) rfl rfl rfl ?_
   simp only [zP, zI, zS, zO]
   refine xG (.pointer (some ⟨bb, bo + i, none⟩)) rfl rfl (ex_index rfl rfl rfl (run_idx1 (k := i) Try.underlying22 l17ces22 (by omega))) ?_
   refine xL (.slice wa ws.length wc) rfl rfl rfl (run_load1 l17cna27 (hrd _ _ _ (hBC.trans hD1) no_res hv 0 _ rfl)) ?_
   replace hv := hv.front 3 rfl
   simp only [List.eraseIdx_cons_succ, List.eraseIdx_cons_zero] at hv
   replace hv := hv.front 3 rfl
   simp only [List.eraseIdx_cons_succ, List.eraseIdx_cons_zero] at hv
   refine xC s27callable9 rfl rfl (l := [.pointer (some ⟨s2, 0, none⟩), .slice wa ws.length wc]) rfl ((storeApply D1 _ _ s2 p2 v2 X2 f2 M (n : Int) 0 wa wc ys ws (hx2.more hD1) (by omega) (hwr.more (hBC.trans hD1) (fun _ h => h)) (hwat.more (hBC.trans hD1)) (by omega) (by omega) hv).mono ?_)
   rintro e w31 ⟨D2, m2, ec2, hD2, rfl, hor⟩
   refine ⟨_, rfl, ?_⟩
   rcases hor with ⟨-, hno, -, hv⟩ | ⟨-, -, happ2, w2, Y2, e2, Mb, hy2, hset2, hv⟩
   ·exact absurd happ hno
   obtain rfl := set_same2 hset1 hset2 hy1 hy2
   refine wL ?_
   simp only [zP, zI, zS, zO]
   refine blk_normal ?_
   refine tN (hK22 _ _ ?_)
   clear hK22 K22
   refine rL ?_
   refine xM (.int .i64 (i : Int)) rfl rfl rfl ?_
   refine xG (.int .i64 ((i + 1 : Nat) : Int)) rfl rfl (ex_add (m := (i : Int)) (n := 1) rfl rfl rfl (by rw [i64_in (by omega)]; omega)) ?_
   refine xA (.int .i64 ((i + 1 : Nat) : Int)) rfl rfl rfl ?_
   refine wL ?_
   simp only [zP, zI, zS, zO]
   refine then_normal ?_
   go_roundw
   case rel => exact ⟨i + 1, n + 1, _, _, _, _, _, _, _, _, rfl, ((hBC.trans hD1).trans hD2), by omega, by omega, by omega, hy1.more hD2, hy2.more (Base.Le.refl _), hsto.step happ hset1, ((((((((hv.front 7 rfl).front 7 rfl).front 7 rfl).front 7 rfl).front 5 rfl).front 5 rfl).front 7 rfl).front 7 rfl)⟩
   case measure => show ll.length - (((i + 1 : Nat) : Int)).toNat < ll.length - ((i : Int)).toNat; omega
  refine xG (.bool false) rfl rfl (ex_lss (k := .i64) (m := (i : Int)) (n := (ll.length : Int)) rfl rfl rfl (decide_eq_false hb21)) ?_
  refine wL ?_
  simp only [zP, zI, zS, zO]
  refine tN (hK20 _ _ ?_)
  clear hK20 K20
  refine wpIn_cond_false rfl ?_
  refine wpIn_exit ?_
  refine then_exit ?_
  clear hK19 K19
  refine then_exit ?_
  refine blk_hit ?_
  refine tN (hK16 _ _ ?_)
  clear hK16 K16
  refine sK fun K32 hK32 => ?_
  obtain ⟨r, mk, hr1, hr2, hr3, hr4, hmk⟩ := wrapN s0 (n + 1) (by omega)
  refine region_st mixed [.pointer (some ⟨b2, 0, none⟩), .int .i64 s0, .pointer (some ⟨s1, 0, none⟩), undef, .int .i64 ((n + 1 : Nat) : Int), .int .i64 r, .pointer (some ⟨s1, 0, none⟩), undef, .int .i64 (r + (n : Int)), .int .i64 (r + ((n + 1 : Nat) : Int)), .pointer (some ⟨s1, 0, none⟩), undef, .int .i64 ((n + 1 : Nat) : Int), .int .i64 (mk : Int), .int .i64 (mk : Int)] [3, 7, 11] [⟨fun vals w => vals = [] ∧ Inv C (Res.cell s1 [.pointer (some ⟨p1, 0, none⟩), .int .i64 (n : Int), .int .i64 0] 60 :: ixS 81 93 92 p1 v1 (M.length : Int) X1 f1 :: Res.cell s2 [.pointer (some ⟨p2, 0, none⟩), .int .i64 (n : Int), .int .i64 0] 60 :: ixS 81 93 92 p2 v2 (M.length : Int) X2 f2 :: Res.cell s3 [.pointer (some ⟨p3, 0, none⟩), .int .i64 0, .int .i64 0] 60 :: ixS 81 93 92 p3 (.slice none 0 0) 0 [] [] :: Res.cell b4 [.int .i64 c0, .int .i64 c1] 49 :: Res.cell b2 [.int .i64 s0, .int .i64 s9] 49 :: H) w, fun _ _ _ ⟨h, hi⟩ he => ⟨h, hi.ext he⟩⟩, ⟨fun vals w => vals = [.int .i64 (n : Int)] ∧ Inv C (Res.cell s1 [.pointer (some ⟨p1, 0, none⟩), .int .i64 (n : Int), .int .i64 0] 60 :: ixS 81 93 92 p1 v1 (M.length : Int) X1 f1 :: Res.cell s2 [.pointer (some ⟨p2, 0, none⟩), .int .i64 (n : Int), .int .i64 0] 60 :: ixS 81 93 92 p2 v2 (M.length : Int) X2 f2 :: Res.cell s3 [.pointer (some ⟨p3, 0, none⟩), .int .i64 0, .int .i64 0] 60 :: ixS 81 93 92 p3 (.slice none 0 0) 0 [] [] :: Res.cell b4 [.int .i64 c0, .int .i64 c1] 49 :: Res.cell b2 [.int .i64 s0, .int .i64 s9] 49 :: H) w, fun _ _ _ ⟨h, hi⟩ he => ⟨h, hi.ext he⟩⟩, ⟨fun vals w => vals = [.int .i64 (n : Int), .int .i64 (n : Int)] ∧ Inv C (Res.cell s1 [.pointer (some ⟨p1, 0, none⟩), .int .i64 (n : Int), .int .i64 0] 60 :: ixS 81 93 92 p1 v1 (M.length : Int) X1 f1 :: Res.cell s2 [.pointer (some ⟨p2, 0, none⟩), .int .i64 (n : Int), .int .i64 0] 60 :: ixS 81 93 92 p2 v2 (M.length : Int) X2 f2 :: Res.cell s3 [.pointer (some ⟨p3, 0, none⟩), .int .i64 0, .int .i64 0] 60 :: ixS 81 93 92 p3 (.slice none 0 0) 0 [] [] :: Res.cell b4 [.int .i64 c0, .int .i64 c1] 49 :: Res.cell b2 [.int .i64 s0, .int .i64 s9] 49 :: H) w, fun _ _ _ ⟨h, hi⟩ he => ⟨h, hi.ext he⟩⟩, ⟨fun vals w => vals = [.int .i64 (n : Int), .int .i64 (n : Int), .int .i64 (n : Int)] ∧ Inv C (Res.cell s1 [.pointer (some ⟨p1, 0, none⟩), .int .i64 (n : Int), .int .i64 0] 60 :: ixS 81 93 92 p1 v1 (M.length : Int) X1 f1 :: Res.cell s2 [.pointer (some ⟨p2, 0, none⟩), .int .i64 (n : Int), .int .i64 0] 60 :: ixS 81 93 92 p2 v2 (M.length : Int) X2 f2 :: Res.cell s3 [.pointer (some ⟨p3, 0, none⟩), .int .i64 0, .int .i64 0] 60 :: ixS 81 93 92 p3 (.slice none 0 0) 0 [] [] :: Res.cell b4 [.int .i64 c0, .int .i64 c1] 49 :: Res.cell b2 [.int .i64 s0, .int .i64 s9] 49 :: H) w, fun _ _ _ ⟨h, hi⟩ he => ⟨h, hi.ext he⟩⟩] 167 rfl (by kernel_rfl) ⟨rfl, hv⟩ ⟨?_, ?_, ?_, ?_, ?_, ?_, ?_, ?_, ?_, ?_, ?_, ?_, ?_, ?_, ?_, trivial⟩ ?_
  ·intro aa ww vals hJ hR
   exact xD rfl (ex_index rfl (show aa.eval (.tmp 4) = _ from hR.keep 4 rfl) rfl (run_idxA1 (k := 0) l17cua49 l17cea49 (by omega))) rfl rfl
  ·intro aa ww vals hJ hR
   have h2 : vals.length ≤ 3 := JS.le (by rfl) hJ
   rcases (show vals.length = 0 ∨ vals.length = 1 ∨ vals.length = 2 ∨ vals.length = 3 by omega) with hl | hl | hl | hl
   ·obtain ⟨hvals, hv⟩ := hJ.at0 hl
    exact xD rfl (ex_load rfl (hR.w 0 59 rfl rfl rfl rfl) (run_load1 s2na3 (hv.load 7 0 rfl rfl))) rfl rfl
   ·obtain ⟨hvals, hv⟩ := hJ.at0 hl
    exact xD rfl (ex_load rfl (hR.w 0 59 rfl rfl rfl rfl) (run_load1 s2na3 (hv.load 7 0 rfl rfl))) rfl rfl
   ·obtain ⟨hvals, hv⟩ := hJ.at0 hl
    exact xD rfl (ex_load rfl (hR.w 0 59 rfl rfl rfl rfl) (run_load1 s2na3 (hv.load 7 0 rfl rfl))) rfl rfl
   obtain ⟨hvals, hv⟩ := hJ.at0 hl
   exact xD rfl (ex_load rfl (hR.w 0 59 rfl rfl rfl rfl) (run_load1 s2na3 (hv.load 7 0 rfl rfl))) rfl rfl
  ·intro aa ww vals hJ hR
   exact xD rfl (ex_move rfl (show aa.eval (.tmp 7) = _ from hR.keep 7 rfl)) rfl rfl
  ·intro aa ww vals hJ hR
   refine mem_step' rfl fun hvl => ?_
   have hl : vals.length = 0 := hvl
   obtain ⟨hvals, hv⟩ := hJ.at0 hl
   refine stepMem_calls l17ccallable10 (wn rfl) rfl (args := #[.pointer (some ⟨s1, 0, none⟩)]) (by simp only [yA, yB, yC]; rw [show aa.eval (.tmp 61) = .pointer (some ⟨s1, 0, none⟩) from hR.v 2 61 rfl rfl rfl rfl] <;> rfl) ((storeLast C _ _ _ _ (n : Int) 0 (hv.front 0 rfl)).mono ?_)
   rintro e w33 ⟨rfl, hv⟩
   refine ⟨_, rfl, JS.next hl ⟨by rw [hvals]; rfl, hv⟩⟩
  ·intro aa ww vals hJ hR
   have h1 : 0 < vals.length := hR.lo 3 (by simp) rfl
   have h2 : vals.length ≤ 3 := JS.le (by rfl) hJ
   rcases (show vals.length = 1 ∨ vals.length = 2 ∨ vals.length = 3 by omega) with hl | hl | hl
   ·obtain ⟨hvals, hv⟩ := hJ.at0 hl
    exact xD rfl (ex_add (m := (n : Int)) (n := 1) rfl (show aa.eval (.tmp 62) = _ from (hR.val 3 62 rfl rfl rfl).trans (by rw [hvals] <;> rfl)) rfl (by rw [i64_in (by omega)]; omega)) rfl rfl
   ·obtain ⟨hvals, hv⟩ := hJ.at0 hl
    exact xD rfl (ex_add (m := (n : Int)) (n := 1) rfl (show aa.eval (.tmp 62) = _ from (hR.val 3 62 rfl rfl rfl).trans (by rw [hvals] <;> rfl)) rfl (by rw [i64_in (by omega)]; omega)) rfl rfl
   obtain ⟨hvals, hv⟩ := hJ.at0 hl
   exact xD rfl (ex_add (m := (n : Int)) (n := 1) rfl (show aa.eval (.tmp 62) = _ from (hR.val 3 62 rfl rfl rfl).trans (by rw [hvals] <;> rfl)) rfl (by rw [i64_in (by omega)]; omega)) rfl rfl
  ·intro aa ww vals hJ hR
   exact xD rfl (ex_rem (m := s0) (n := ((n + 1 : Nat) : Int)) rfl (hR.w 1 60 rfl rfl rfl rfl) (hR.w 4 63 rfl rfl rfl rfl) (by omega) hr1) rfl rfl
  ·intro aa ww vals hJ hR
   exact xD rfl (ex_move rfl (show aa.eval (.tmp 7) = _ from hR.keep 7 rfl)) rfl rfl
  ·intro aa ww vals hJ hR
   refine mem_step' rfl fun hvl => ?_
   have hl : vals.length = 1 := hvl
   obtain ⟨hvals, hv⟩ := hJ.at0 hl
   refine stepMem_calls l17ccallable10 (wn rfl) rfl (args := #[.pointer (some ⟨s1, 0, none⟩)]) (by simp only [yA, yB, yC]; rw [show aa.eval (.tmp 65) = .pointer (some ⟨s1, 0, none⟩) from hR.v 6 65 rfl rfl rfl rfl] <;> rfl) ((storeLast C _ _ _ _ (n : Int) 0 (hv.front 0 rfl)).mono ?_)
   rintro e w34 ⟨rfl, hv⟩
   refine ⟨_, rfl, JS.next hl ⟨by rw [hvals]; rfl, hv⟩⟩
  ·intro aa ww vals hJ hR
   have h1 : 1 < vals.length := hR.lo 7 (by simp) rfl
   have h2 : vals.length ≤ 3 := JS.le (by rfl) hJ
   rcases (show vals.length = 2 ∨ vals.length = 3 by omega) with hl | hl
   ·obtain ⟨hvals, hv⟩ := hJ.at0 hl
    exact xD rfl (ex_add (m := r) (n := (n : Int)) rfl (hR.w 5 64 rfl rfl rfl rfl) (show aa.eval (.tmp 66) = _ from (hR.val 7 66 rfl rfl rfl).trans (by rw [hvals] <;> rfl)) (i64_in (by omega))) rfl rfl
   obtain ⟨hvals, hv⟩ := hJ.at0 hl
   exact xD rfl (ex_add (m := r) (n := (n : Int)) rfl (hR.w 5 64 rfl rfl rfl rfl) (show aa.eval (.tmp 66) = _ from (hR.val 7 66 rfl rfl rfl).trans (by rw [hvals] <;> rfl)) (i64_in (by omega))) rfl rfl
  ·intro aa ww vals hJ hR
   exact xD rfl (ex_add (m := (r + (n : Int))) (n := 1) rfl (hR.w 8 67 rfl rfl rfl rfl) rfl (by rw [i64_in (by omega)]; omega)) rfl rfl
  ·intro aa ww vals hJ hR
   exact xD rfl (ex_move rfl (show aa.eval (.tmp 7) = _ from hR.keep 7 rfl)) rfl rfl
  ·intro aa ww vals hJ hR
   refine mem_step' rfl fun hvl => ?_
   have hl : vals.length = 2 := hvl
   obtain ⟨hvals, hv⟩ := hJ.at0 hl
   refine stepMem_calls l17ccallable10 (wn rfl) rfl (args := #[.pointer (some ⟨s1, 0, none⟩)]) (by simp only [yA, yB, yC]; rw [show aa.eval (.tmp 69) = .pointer (some ⟨s1, 0, none⟩) from hR.v 10 69 rfl rfl rfl rfl] <;> rfl) ((storeLast C _ _ _ _ (n : Int) 0 (hv.front 0 rfl)).mono ?_)
   rintro e w35 ⟨rfl, hv⟩
   refine ⟨_, rfl, JS.next hl ⟨by rw [hvals]; rfl, hv⟩⟩
  ·intro aa ww vals hJ hR
   have h1 : 2 < vals.length := hR.lo 11 (by simp) rfl
   have hl : vals.length = 3 := by have := JS.le (n := 3) (by rfl) hJ; omega
   obtain ⟨hvals, hv⟩ := hJ.at0 hl
   exact xD rfl (ex_add (m := (n : Int)) (n := 1) rfl (show aa.eval (.tmp 70) = _ from (hR.val 11 70 rfl rfl rfl).trans (by rw [hvals] <;> rfl)) rfl (by rw [i64_in (by omega)]; omega)) rfl rfl
  ·intro aa ww vals hJ hR
   exact xD rfl (ex_rem (m := (r + ((n + 1 : Nat) : Int))) (n := ((n + 1 : Nat) : Int)) rfl (hR.w 9 68 rfl rfl rfl rfl) (hR.w 12 71 rfl rfl rfl rfl) (by omega) hr4) rfl rfl
  ·intro aa ww vals hJ hR
   exact xD rfl (ex_assign rfl (hR.w 13 72 rfl rfl rfl rfl)) rfl rfl
  rintro w36 vals ⟨rfl, hv⟩
  rw [show mixV [3, 7, 11] [.int .i64 (n : Int), .int .i64 (n : Int), .int .i64 (n : Int)] 0 [.pointer (some ⟨b2, 0, none⟩), .int .i64 s0, .pointer (some ⟨s1, 0, none⟩), undef, .int .i64 ((n + 1 : Nat) : Int), .int .i64 r, .pointer (some ⟨s1, 0, none⟩), undef, .int .i64 (r + (n : Int)), .int .i64 (r + ((n + 1 : Nat) : Int)), .pointer (some ⟨s1, 0, none⟩), undef, .int .i64 ((n + 1 : Nat) : Int), .int .i64 (mk : Int), .int .i64 (mk : Int)] = [.pointer (some ⟨b2, 0, none⟩), .int .i64 s0, .pointer (some ⟨s1, 0, none⟩), .int .i64 (n : Int), .int .i64 ((n + 1 : Nat) : Int), .int .i64 r, .pointer (some ⟨s1, 0, none⟩), .int .i64 (n : Int), .int .i64 (r + (n : Int)), .int .i64 (r + ((n + 1 : Nat) : Int)), .pointer (some ⟨s1, 0, none⟩), .int .i64 (n : Int), .int .i64 ((n + 1 : Nat) : Int), .int .i64 (mk : Int), .int .i64 (mk : Int)] from rfl]
  simp only [putAll, zP, zI, zS, zO]
  refine tN (hK32 _ _ ?_)
  clear hK32 K32
  refine sK fun K37 hK37 => ?_
  obtain ⟨cm, hcm⟩ : ∃ cm : Int, (if (0 : Int) > c0 then 0 else c0) = cm := ⟨_, rfl⟩
  obtain ⟨clock, hclock⟩ : ∃ clock : Int, (if (1099511627776 : Int) < cm then 1099511627776 else cm) = clock := ⟨_, rfl⟩
  refine rL ?_
  refine xG (.pointer (some ⟨b4, 0, none⟩)) rfl rfl (ex_index rfl rfl rfl (run_idxA1 (k := 0) l17cua49 l17cea49 (by omega))) ?_
  refine xL (.int .i64 c0) rfl rfl rfl (run_load1 s2na3 (hv.load 6 0 rfl rfl)) ?_
  refine xG (.int .i64 cm) rfl rfl (ex_max2 (m := c0) (n := 0) rfl rfl rfl hcm) ?_
  simp only [zP, zI, zS, zO]
  refine xG (.int .i64 clock) rfl rfl (ex_min2 (m := cm) (n := 1099511627776) rfl rfl rfl hclock) ?_
  refine xA (.int .i64 clock) rfl rfl rfl ?_
  refine wL ?_
  simp only [zP, zI, zS, zO]
  refine tN (hK37 _ _ ?_)
  clear hK37 K37
  refine sK fun K38 hK38 => ?_
  obtain ⟨later, hlater⟩ : ∃ later : Int, (if c1 > clock then c1 else clock) = later := ⟨_, rfl⟩
  have hcl : clock ≤ later := by rw [← hlater]; split <;> omega
  refine rL ?_
  refine xM (.int .i64 clock) rfl rfl rfl ?_
  refine xG (.pointer (some ⟨b4, 1, none⟩)) rfl rfl (ex_index rfl rfl rfl (run_idxA1 (k := 1) l17cua49 l17cea49 (by omega))) ?_
  refine xL (.int .i64 c1) rfl rfl rfl (run_load1 s2na3 (hv.load 6 1 rfl rfl)) ?_
  simp only [zP, zI, zS, zO]
  refine xG (.int .i64 later) rfl rfl (ex_max2 (m := clock) (n := c1) rfl rfl rfl hlater) ?_
  refine xA (.int .i64 later) rfl rfl rfl ?_
  refine wL ?_
  simp only [zP, zI, zS, zO]
  refine tN (hK38 _ _ ?_)
  clear hK38 K38
  refine sK fun K39 hK39 => ?_
  refine sK fun K40 hK40 => rL ?_
  refine xM (.pointer (some ⟨s2, 0, none⟩)) rfl rfl rfl ?_
  refine xM (.int .i64 (mk : Int)) rfl rfl rfl ?_
  refine xM (.int .i64 clock) rfl rfl rfl ?_
  simp only [zP, zI, zS, zO]
  replace hv := hv.front 3 rfl
  simp only [List.eraseIdx_cons_succ, List.eraseIdx_cons_zero] at hv
  replace hv := hv.front 3 rfl
  simp only [List.eraseIdx_cons_succ, List.eraseIdx_cons_zero] at hv
  refine xC s27callable16 rfl rfl (l := [.pointer (some ⟨s2, 0, none⟩), .int .i64 (mk : Int), .int .i64 clock]) rfl ((storePrune C _ _ s2 p2 v2 X2 f2 M (n : Int) 0 (mk : Int) clock (hx2.more (Base.Le.refl _)) (by omega) hsto.asc hv).mono ?_)
  rintro e w41 ⟨E1, n3, ec3, hE1, rfl, hor⟩
  refine ⟨_, rfl, ?_⟩
  rcases hor with ⟨hno, -⟩ | ⟨-, rfl, -, w2, Y2, e2, Mb, hxb, hpr, hv⟩
  ·exact absurd ⟨by omega, by omega⟩ hno
  have hascb := prune_asc hsto.asc hpr
  refine xM (.tuple #[.int .i64 n3, .int .i64 0]) rfl rfl rfl ?_
  refine xG (.int .i64 n3) rfl rfl (ex_extract rfl rfl rfl) ?_
  simp only [zP, zI, zS, zO]
  refine xG (.int .i64 0) rfl rfl (ex_extract rfl rfl rfl) ?_
  refine xA (.int .i64 n3) rfl rfl rfl ?_
  refine xA (.int .i64 0) rfl rfl rfl ?_
  refine wL ?_
  simp only [zP, zI, zS, zO]
  refine tN (hK40 _ _ ?_)
  clear hK40 K40
  refine sK fun K42 hK42 => rL ?_
  refine xM (.int .i64 0) rfl rfl rfl ?_
  refine xG (.bool false) rfl rfl (ex_neq (k := .i64) (m := 0) (n := 0) rfl rfl rfl (by decide)) ?_
  refine xM (.bool false) rfl rfl rfl ?_
  simp only [zP, zI, zS, zO]
  refine xH 2 90 false (.pointer (some ⟨s3, 0, none⟩)) rfl rfl rfl rfl (ex_move rfl rfl) ?_
  refine xH 2 90 false (.pointer (some ⟨s1, 0, none⟩)) rfl rfl rfl rfl (ex_move rfl rfl) ?_
  replace hv := hv.front 2 rfl
  simp only [List.eraseIdx_cons_succ, List.eraseIdx_cons_zero] at hv
  refine wpi_callG l17ccallable10 tV wideC rfl (wanted_of (j := 2) (d := 90) (b := false) rfl rfl rfl) rfl (args := #[.pointer (some ⟨s1, 0, none⟩)]) (by simp only [yA, yB, yC]; rfl) ((storeLast E1 _ _ _ _ (n : Int) 0 hv).mono ?_)
  rintro e w43 ⟨rfl, hv⟩
  refine ⟨_, rfl, ?_⟩
  simp only [zP, zI, zS, zO]
  refine xH 2 90 false (.pointer (some ⟨s1, 0, none⟩)) rfl rfl rfl rfl (ex_move rfl rfl) ?_
  refine xH 2 90 false (.int .i64 clock) rfl rfl rfl rfl (ex_move rfl rfl) ?_
  replace hv := hv.front 3 rfl
  simp only [List.eraseIdx_cons_succ, List.eraseIdx_cons_zero] at hv
  replace hv := hv.front 1 rfl
  simp only [List.eraseIdx_cons_succ, List.eraseIdx_cons_zero] at hv
  refine wpi_callG l17ccallable13 tV wideC rfl (wanted_of (j := 2) (d := 90) (b := false) rfl rfl rfl) rfl (args := #[.pointer (some ⟨s1, 0, none⟩), .int .i64 clock]) (by simp only [yA, yB, yC]; rfl) ((storeDump E1 _ _ s1 p1 v1 X1 f1 M (n : Int) 0 clock (hx1.more hE1) hsto.asc hv).mono ?_)
  rintro e w44 ⟨E2, da, dc, dys, hE2, rfl, hdok, hdr, hdw, hv⟩
  refine ⟨_, rfl, ?_⟩
  simp only [zP, zI, zS, zO]
  replace hv := hv.front 5 rfl
  simp only [List.eraseIdx_cons_succ, List.eraseIdx_cons_zero] at hv
  replace hv := hv.front 5 rfl
  simp only [List.eraseIdx_cons_succ, List.eraseIdx_cons_zero] at hv
  have hdl := dumpM_le M (n : Int) clock
  refine wpi_callG l17ccallable17 tV wideC rfl (wanted_of (j := 2) (d := 90) (b := false) rfl rfl rfl) rfl (args := #[.pointer (some ⟨s3, 0, none⟩), .int .i64 (n : Int), .slice da ((dumpM M (n : Int) clock).length) dc]) (by simp only [yA, yB, yC]; rfl) ((storeLoad E2 _ _ s3 p3 _ [] [] 0 0 0 (n : Int) da dc dys (dumpM M (n : Int) clock) hdr hdw (by omega) hv).mono ?_)
  rintro e w45 ⟨E3, ec4, hE3, rfl, hor⟩
  refine ⟨_, rfl, ?_⟩
  rcases hor with ⟨-, hno, -⟩ | ⟨-, hno, -⟩ | ⟨rfl, -, -, p4, w3, Y3, e3, Mc, hxc, hld, hv⟩
  ·exact absurd (dump_ok hsto hx1.sorted (by omega) (by omega)) hno
  ·omega
  have hascc := load_asc hx1.sorted hld
  refine xH 2 90 false (.bool false) rfl rfl rfl rfl (ex_neq (k := .i64) (m := 0) (n := 0) rfl rfl rfl (by decide)) ?_
  refine xK false (.bool false) rfl rfl rfl rfl ?_
  refine wL ?_
  simp only [zP, zI, zS, zO]
  refine tN (hK42 _ _ ?_)
  clear hK42 K42
  refine wpIn_cond_false rfl ?_
  refine wpIn_skip ?_
  refine tN (hK39 _ _ ?_)
  clear hK39 K39
  refine sK fun K46 hK46 => ?_
  obtain ⟨at_, hat⟩ : ∃ at_ : Int, (if s9 > (mk : Int) then s9 else (mk : Int)) = at_ := ⟨_, rfl⟩
  have hma : (mk : Int) ≤ at_ := by rw [← hat]; split <;> omega
  refine rL ?_
  refine xM (.int .i64 (mk : Int)) rfl rfl rfl ?_
  refine xG (.pointer (some ⟨b2, 1, none⟩)) rfl rfl (ex_index rfl rfl rfl (run_idxA1 (k := 1) l17cua49 l17cea49 (by omega))) ?_
  refine xL (.int .i64 s9) rfl rfl rfl (run_load1 s2na3 (hv.load 7 1 rfl rfl)) ?_
  simp only [zP, zI, zS, zO]
  refine xG (.int .i64 at_) rfl rfl (ex_max2 (m := (mk : Int)) (n := s9) rfl rfl rfl hat) ?_
  refine xA (.int .i64 at_) rfl rfl rfl ?_
  refine wL ?_
  simp only [zP, zI, zS, zO]
  refine tN (hK46 _ _ ?_)
  clear hK46 K46
  refine sK fun K47 hK47 => rL ?_
  refine xM (.pointer (some ⟨s1, 0, none⟩)) rfl rfl rfl ?_
  refine xM (.int .i64 at_) rfl rfl rfl ?_
  refine xM (.int .i64 later) rfl rfl rfl ?_
  simp only [zP, zI, zS, zO]
  replace hv := hv.front 3 rfl
  simp only [List.eraseIdx_cons_succ, List.eraseIdx_cons_zero] at hv
  replace hv := hv.front 3 rfl
  simp only [List.eraseIdx_cons_succ, List.eraseIdx_cons_zero] at hv
  refine xC l17ccallable14 rfl rfl (l := [.pointer (some ⟨s1, 0, none⟩), .int .i64 at_, .int .i64 later]) rfl ((storeNames E3 _ _ s1 p1 v1 X1 f1 M (n : Int) 0 at_ later (hx1.more ((hE1.trans hE2).trans hE3)) hsto.asc hv).mono ?_)
  rintro e w48 ⟨na1, nc1, rfl, hv⟩
  refine ⟨_, rfl, ?_⟩
  obtain ⟨K1, hK1, hv7, hrk1, -, -⟩ := hv.rowBy
  clear hv
  have hv := hv7
  clear hv7
  refine xM (.pointer (some ⟨s2, 0, none⟩)) rfl rfl rfl ?_
  refine xM (.int .i64 at_) rfl rfl rfl ?_
  simp only [zP, zI, zS, zO]
  refine xM (.int .i64 later) rfl rfl rfl ?_
  replace hv := hv.front 5 rfl
  simp only [List.eraseIdx_cons_succ, List.eraseIdx_cons_zero] at hv
  replace hv := hv.front 5 rfl
  simp only [List.eraseIdx_cons_succ, List.eraseIdx_cons_zero] at hv
  refine xC l17ccallable14 rfl rfl (l := [.pointer (some ⟨s2, 0, none⟩), .int .i64 at_, .int .i64 later]) rfl ((storeNames K1 _ _ s2 p2 w2 Y2 e2 Mb (n : Int) (mk : Int) at_ later (hxb.more ((hE2.trans hE3).trans hK1)) hascb hv).mono ?_)
  rintro e w49 ⟨na2, nc2, rfl, hv⟩
  refine ⟨_, rfl, ?_⟩
  have hnb : namesM Mb at_ later = namesM M at_ later := namesM_eq hxb.sorted hx1.sorted (fun k => by rw [prune_read hsto.asc hpr hma hcl])
  rw [hnb] at hv ⊢
  obtain ⟨K2, hK2, hv7, hrk2, -, -⟩ := hv.rowBy
  clear hv
  have hv := hv7
  clear hv7
  refine xA (.slice na1 ((namesM M at_ later).length) nc1) rfl rfl rfl ?_
  simp only [zP, zI, zS, zO]
  refine xA (.slice na2 ((namesM M at_ later).length) nc2) rfl rfl rfl ?_
  refine wL ?_
  simp only [zP, zI, zS, zO]
  refine tN (hK47 _ _ ?_)
  clear hK47 K47
  refine sK fun K50 hK50 => ?_
  refine sK fun K51 hK51 => rL ?_
  refine xM (.slice na1 ((namesM M at_ later).length) nc1) rfl rfl rfl ?_
  refine xM (.slice na2 ((namesM M at_ later).length) nc2) rfl rfl rfl ?_
  refine xC s18callable18 rfl rfl (l := [.slice na1 ((namesM M at_ later).length) nc1, .slice na2 ((namesM M at_ later).length) nc2]) rfl ((refWords K2 _ _ na1 na2 nc1 nc2 (namesM M at_ later) (hrk1.more hK2 (fun _ h => h)) (hrk2.more (Base.Le.refl _) (fun _ h => h)) (by have := namesM_le M at_ later; omega) hv).mono ?_)
  rintro e w52 ⟨rfl, hv⟩
  refine ⟨_, rfl, ?_⟩
  simp only [zP, zI, zS, zO]
  refine xG (.bool false) rfl rfl (ex_not (b := true) rfl rfl rfl) ?_
  refine xM (.bool false) rfl rfl rfl ?_
  refine xH 4 116 false (.slice na1 ((namesM M at_ later).length) nc1) rfl rfl rfl rfl (ex_move rfl rfl) ?_
  simp only [zP, zI, zS, zO]
  refine wpi_callG l17ccallable19 tV wideC rfl (wanted_of (j := 4) (d := 116) (b := false) rfl rfl rfl) rfl (args := #[.slice na1 ((namesM M at_ later).length) nc1]) (by simp only [yA, yB, yC]; rfl) ((refRises K2 _ _ na1 nc1 (namesM M at_ later) (hrk1.more hK2 (fun _ h => h)) (by have := namesM_le M at_ later; omega) (names_len hsto _ _) (sorted_next (namesM_sorted hx1.sorted _ _)) hv).mono ?_)
  rintro e w53 ⟨rfl, hv⟩
  refine ⟨_, rfl, ?_⟩
  refine xH 4 116 false (.bool false) rfl rfl rfl rfl (ex_not (b := true) rfl rfl rfl) ?_
  refine xK false (.bool false) rfl rfl rfl rfl ?_
  simp only [zP, zI, zS, zO]
  refine xM (.bool false) rfl rfl rfl ?_
  refine xH 9 121 false (.pointer (some ⟨s1, 0, none⟩)) rfl rfl rfl rfl (ex_move rfl rfl) ?_
  refine xH 9 121 false (.pointer (some ⟨s1, 0, none⟩)) rfl rfl rfl rfl (ex_move rfl rfl) ?_
  simp only [zP, zI, zS, zO]
  replace hv := hv.front 2 rfl
  simp only [List.eraseIdx_cons_succ, List.eraseIdx_cons_zero] at hv
  refine wpi_callG l17ccallable10 tV wideC rfl (wanted_of (j := 9) (d := 121) (b := false) rfl rfl rfl) rfl (args := #[.pointer (some ⟨s1, 0, none⟩)]) (by simp only [yA, yB, yC]; rfl) ((storeLast K2 _ _ _ _ (n : Int) 0 hv).mono ?_)
  rintro e w54 ⟨rfl, hv⟩
  refine ⟨_, rfl, ?_⟩
  refine xH 9 121 false (.int .i64 later) rfl rfl rfl rfl (ex_move rfl rfl) ?_
  replace hv := hv.front 3 rfl
  simp only [List.eraseIdx_cons_succ, List.eraseIdx_cons_zero] at hv
  replace hv := hv.front 1 rfl
  simp only [List.eraseIdx_cons_succ, List.eraseIdx_cons_zero] at hv
  refine wpi_callG l17ccallable14 tV wideC rfl (wanted_of (j := 9) (d := 121) (b := false) rfl rfl rfl) rfl (args := #[.pointer (some ⟨s1, 0, none⟩), .int .i64 (n : Int), .int .i64 later]) (by simp only [yA, yB, yC]; rfl) ((storeNames K2 _ _ s1 p1 v1 X1 f1 M (n : Int) 0 (n : Int) later (hx1.more ((((hE1.trans hE2).trans hE3).trans hK1).trans hK2)) hsto.asc hv).mono ?_)
  rintro e w55 ⟨na3, nc3, rfl, hv⟩
  refine ⟨_, rfl, ?_⟩
  obtain ⟨K3, hK3, hv7, hrk3, -, -⟩ := hv.rowBy
  clear hv
  have hv := hv7
  clear hv7
  simp only [zP, zI, zS, zO]
  refine xH 9 121 false (.pointer (some ⟨s3, 0, none⟩)) rfl rfl rfl rfl (ex_move rfl rfl) ?_
  refine xH 9 121 false (.pointer (some ⟨s1, 0, none⟩)) rfl rfl rfl rfl (ex_move rfl rfl) ?_
  refine wpi_callG l17ccallable10 tV wideC rfl (wanted_of (j := 9) (d := 121) (b := false) rfl rfl rfl) rfl (args := #[.pointer (some ⟨s1, 0, none⟩)]) (by simp only [yA, yB, yC]; rfl) ((storeLast K3 _ _ _ _ (n : Int) 0 hv).mono ?_)
  rintro e w56 ⟨rfl, hv⟩
  refine ⟨_, rfl, ?_⟩
  simp only [zP, zI, zS, zO]
  refine xH 9 121 false (.int .i64 later) rfl rfl rfl rfl (ex_move rfl rfl) ?_
  replace hv := hv.front 5 rfl
  simp only [List.eraseIdx_cons_succ, List.eraseIdx_cons_zero] at hv
  replace hv := hv.front 5 rfl
  simp only [List.eraseIdx_cons_succ, List.eraseIdx_cons_zero] at hv
  refine wpi_callG l17ccallable14 tV wideC rfl (wanted_of (j := 9) (d := 121) (b := false) rfl rfl rfl) rfl (args := #[.pointer (some ⟨s3, 0, none⟩), .int .i64 (n : Int), .int .i64 later]) (by simp only [yA, yB, yC]; rfl) ((storeNames K3 _ _ s3 p4 w3 Y3 e3 Mc (n : Int) (n : Int) (n : Int) later (hxc.more ((hK1.trans hK2).trans hK3)) hascc hv).mono ?_)
  rintro e w57 ⟨na4, nc4, rfl, hv⟩
  refine ⟨_, rfl, ?_⟩
  have hnc : namesM Mc (n : Int) later = namesM M (n : Int) later := namesM_eq hxc.sorted hx1.sorted (fun k => by rw [load_read hx1.sorted hld hcl])
  rw [hnc] at hv ⊢
  obtain ⟨K4, hK4, hv7, hrk4, -, -⟩ := hv.rowBy
  clear hv
  have hv := hv7
  clear hv7
  refine wpi_callG s18callable18 tV wideC rfl (wanted_of (j := 9) (d := 121) (b := false) rfl rfl rfl) rfl (args := #[.slice na3 ((namesM M (n : Int) later).length) nc3, .slice na4 ((namesM M (n : Int) later).length) nc4]) (by simp only [yA, yB, yC]; rfl) ((refWords K4 _ _ na3 na4 nc3 nc4 (namesM M (n : Int) later) (hrk3.more hK4 (fun _ h => h)) (hrk4.more (Base.Le.refl _) (fun _ h => h)) (by have := namesM_le M (n : Int) later; omega) hv).mono ?_)
  rintro e w58 ⟨rfl, hv⟩
  refine ⟨_, rfl, ?_⟩
  simp only [zP, zI, zS, zO]
  refine xH 9 121 false (.bool false) rfl rfl rfl rfl (ex_not (b := true) rfl rfl rfl) ?_
  refine xK false (.bool false) rfl rfl rfl rfl ?_
  refine wL ?_
  simp only [zP, zI, zS, zO]
  refine tN (hK51 _ _ ?_)
  clear hK51 K51
  refine wpIn_cond_false rfl ?_
  refine wpIn_skip ?_
  refine tN (hK50 _ _ ?_)
  clear hK50 K50
  refine sK fun K59 hK59 => ?_
  refine sK fun K60 hK60 => rL ?_
  refine xA (.int .i64 0) rfl rfl rfl ?_
  refine wL ?_
  simp only [zP, zI, zS, zO]
  refine tN (hK60 _ _ ?_)
  clear hK60 K60
  refine wpIn_block ?_
  gi_loopw [19] (fun x19 wr => ∃ (j : Nat) (E : Base), x19 = .int .i64 (j : Int) ∧ K4.Le E ∧ j ≤ (namesM M at_ later).length ∧ Inv E (Res.cell s1 [.pointer (some ⟨p1, 0, none⟩), .int .i64 (n : Int), .int .i64 0] 60 :: ixS 81 93 92 p1 v1 (M.length : Int) X1 f1 :: Res.cell s2 [.pointer (some ⟨p2, 0, none⟩), .int .i64 (n : Int), .int .i64 (mk : Int)] 60 :: ixS 81 93 92 p2 w2 (Mb.length : Int) Y2 e2 :: Res.cell s3 [.pointer (some ⟨p4, 0, none⟩), .int .i64 (n : Int), .int .i64 (n : Int)] 60 :: ixS 81 93 92 p4 w3 (Mc.length : Int) Y3 e3 :: H) wr) (fun x19 _ => (namesM M at_ later).length - (intOf x19).toNat)
  case atStart => exact ⟨0, K4, rfl, Base.Le.refl _, Nat.zero_le _, (((((((hv.front 1 rfl).front 1 rfl).front 5 rfl).front 5 rfl).front 5 rfl).front 5 rfl).sub (List.Sublist.cons_cons _ (List.Sublist.cons_cons _ (List.Sublist.cons_cons _ (List.Sublist.cons_cons _ (List.Sublist.cons_cons _ (List.Sublist.cons_cons _ (List.Sublist.cons _ (List.Sublist.cons _ (List.Sublist.refl _))))))))))⟩
  case round =>
   obtain ⟨j, E, rfl, hKE, hj, hv⟩ := hrel
   refine sK fun K62 hK62 => ?_
   refine sK fun K63 hK63 => rL ?_
   refine xM (.int .i64 (j : Int)) rfl rfl rfl ?_
   refine xM (.slice na1 ((namesM M at_ later).length) nc1) rfl rfl rfl ?_
   refine xG (.int .i64 (((namesM M at_ later).length) : Int)) rfl rfl (ex_len0 Try.underlying33 rfl rfl) ?_
   simp only [zP, zI, zS, zO]
   by_cases hb64 : (j : Int) < (((namesM M at_ later).length) : Int)
   ·refine xG (.bool true) rfl rfl (ex_lss (k := .i64) (m := (j : Int)) (n := (((namesM M at_ later).length) : Int)) rfl rfl rfl (decide_eq_true hb64)) ?_
    refine wL ?_
    simp only [zP, zI, zS, zO]
    refine tN (hK63 _ _ ?_)
    clear hK63 K63
    refine wpIn_cond_true rfl ?_
    refine wpIn_skip ?_
    refine tN (hK62 _ _ ?_)
    clear hK62 K62
    refine sK fun K65 hK65 => ?_
    refine wpIn_block ?_
    refine sK fun K66 hK66 => ?_
    have hnle := namesM_le M at_ later
    obtain ⟨key, hkey⟩ : ∃ x, (namesM M at_ later)[j]? = some x := ⟨_, List.getElem?_eq_getElem (show j < (namesM M at_ later).length by omega)⟩
    obtain ⟨kb, ko, had4, hrd4⟩ := text_reads hrk1 hkey
    subst had4
    obtain ⟨u9, hu9⟩ := Option.isSome_iff_exists.1 ((namesM_mem key).1 (List.mem_of_getElem? hkey))
    refine rL ?_
    refine xM (.pointer (some ⟨s1, 0, none⟩)) rfl rfl rfl ?_
    refine xM (.slice (some ⟨kb, ko, none⟩) ((namesM M at_ later).length) nc1) rfl rfl rfl ?_
    refine xM (.int .i64 (j : Int)) rfl rfl rfl ?_
    simp only [zP, zI, zS, zO]
    refine xG (.pointer (some ⟨kb, ko + j, none⟩)) rfl rfl (ex_index rfl rfl rfl (run_idx1 (k := j) Try.underlying33 s9es33 (by omega))) ?_
    refine xL (.string ⟨key.toArray⟩) rfl rfl rfl (run_load1 s3na9 (hrd4 _ _ _ (((hK2.trans hK3).trans hK4).trans hKE) no_res hv 0 _ rfl)) ?_
    refine xM (.int .i64 at_) rfl rfl rfl ?_
    simp only [zP, zI, zS, zO]
    refine xM (.int .i64 later) rfl rfl rfl ?_
    replace hv := hv.front 1 rfl
    simp only [List.eraseIdx_cons_succ, List.eraseIdx_cons_zero] at hv
    replace hv := hv.front 1 rfl
    simp only [List.eraseIdx_cons_succ, List.eraseIdx_cons_zero] at hv
    refine xC s26callable11 rfl rfl (l := [.pointer (some ⟨s1, 0, none⟩), .string ⟨key.toArray⟩, .int .i64 at_, .int .i64 later]) rfl ((storeReadV E _ _ s1 p1 v1 X1 f1 M (n : Int) 0 at_ later key (hx1.more (((((((hE1.trans hE2).trans hE3).trans hK1).trans hK2).trans hK3).trans hK4).trans hKE)) hsto.asc hv).mono ?_)
    rintro e w67 ⟨F1, y1, q1, t1, z1, ok1, hF1, rfl, hrd9, hvy1, hv⟩
    refine ⟨_, rfl, ?_⟩
    rw [hu9] at hrd9
    rcases hrd9 with ⟨rfl, hrd9⟩ | ⟨-, hrd9⟩
    rotate_left
    ·cases hrd9
    have hy1 : u9 = y1 := by cases hrd9; rfl
    refine xM (.tuple #[.agg #[.int .i64 y1.stamp, .bool y1.gone, .int .i64 y1.expire, .int .i64 y1.val.kind, .string ⟨y1.val.text.toArray⟩, q1, t1, z1], .bool true]) rfl rfl rfl ?_
    simp only [zP, zI, zS, zO]
    refine xG (.agg #[.int .i64 y1.stamp, .bool y1.gone, .int .i64 y1.expire, .int .i64 y1.val.kind, .string ⟨y1.val.text.toArray⟩, q1, t1, z1]) rfl rfl (ex_extract rfl rfl rfl) ?_
    refine xG (.bool true) rfl rfl (ex_extract rfl rfl rfl) ?_
    refine sl_alloc tV (wn rfl) rfl hv l17cal38 (fun b68 w69 hv => ?_)
    simp only [zP, zI, zS, zO]
    refine sl_storeNAt 0 (new := [.int .i64 y1.stamp, .bool y1.gone, .int .i64 y1.expire, .int .i64 y1.val.kind, .string ⟨y1.val.text.toArray⟩, q1, t1, z1]) (pre := []) (mid := [.int .i64 0, .bool false, .int .i64 0, .int .i64 0, .string ⟨([] : List UInt8).toArray⟩, .slice none 0 0, .slice none 0 0, .slice none 0 0]) (post := []) (L' := [.int .i64 y1.stamp, .bool y1.gone, .int .i64 y1.expire, .int .i64 y1.val.kind, .string ⟨y1.val.text.toArray⟩, q1, t1, z1]) tV (wn rfl) rfl rfl rfl hv rfl s1sz38 rfl rfl rfl (one_cons rfl (one_cons rfl (one_cons rfl (one_cons rfl (one_cons rfl (one_cons hvy1.p.one (one_cons hvy1.t.one (one_cons hvy1.z.one one_nil)))))))) rfl (fun w70 hv => ?_)
    simp only [List.set_cons_zero] at hv
    refine xA (.bool true) rfl rfl rfl ?_
    refine wL ?_
    simp only [zP, zN, zI, zS, zO]
    refine tN (hK66 _ _ ?_)
    clear hK66 K66
    refine sK fun K71 hK71 => rL ?_
    refine xM (.pointer (some ⟨s2, 0, none⟩)) rfl rfl rfl ?_
    refine xM (.slice (some ⟨kb, ko, none⟩) ((namesM M at_ later).length) nc1) rfl rfl rfl ?_
    refine xM (.int .i64 (j : Int)) rfl rfl rfl ?_
    simp only [zP, zI, zS, zO]
    refine xG (.pointer (some ⟨kb, ko + j, none⟩)) rfl rfl (ex_index rfl rfl rfl (run_idx1 (k := j) Try.underlying33 s9es33 (by omega))) ?_
    refine xL (.string ⟨key.toArray⟩) rfl rfl rfl (run_load1 s3na9 (hrd4 _ _ _ ((((hK2.trans hK3).trans hK4).trans hKE).trans hF1) no_res hv 0 _ rfl)) ?_
    refine xM (.int .i64 at_) rfl rfl rfl ?_
    simp only [zP, zI, zS, zO]
    refine xM (.int .i64 later) rfl rfl rfl ?_
    replace hv := hv.front 4 rfl
    simp only [List.eraseIdx_cons_succ, List.eraseIdx_cons_zero] at hv
    replace hv := hv.front 4 rfl
    simp only [List.eraseIdx_cons_succ, List.eraseIdx_cons_zero] at hv
    refine xC s26callable11 rfl rfl (l := [.pointer (some ⟨s2, 0, none⟩), .string ⟨key.toArray⟩, .int .i64 at_, .int .i64 later]) rfl ((storeReadV F1 _ _ s2 p2 w2 Y2 e2 Mb (n : Int) (mk : Int) at_ later key (hxb.more (((((((hE2.trans hE3).trans hK1).trans hK2).trans hK3).trans hK4).trans hKE).trans hF1)) hascb hv).mono ?_)
    rintro e w72 ⟨F2, y2, q2, t2, z2, ok2, hF2, rfl, hrd9, hvy2, hv⟩
    refine ⟨_, rfl, ?_⟩
    rw [prune_read hsto.asc hpr hma hcl] at hrd9
    rw [hu9] at hrd9
    rcases hrd9 with ⟨rfl, hrd9⟩ | ⟨-, hrd9⟩
    rotate_left
    ·cases hrd9
    have hy2 : u9 = y2 := by cases hrd9; rfl
    refine xM (.tuple #[.agg #[.int .i64 y2.stamp, .bool y2.gone, .int .i64 y2.expire, .int .i64 y2.val.kind, .string ⟨y2.val.text.toArray⟩, q2, t2, z2], .bool true]) rfl rfl rfl ?_
    simp only [zP, zI, zS, zO]
    refine xG (.agg #[.int .i64 y2.stamp, .bool y2.gone, .int .i64 y2.expire, .int .i64 y2.val.kind, .string ⟨y2.val.text.toArray⟩, q2, t2, z2]) rfl rfl (ex_extract rfl rfl rfl) ?_
    refine xG (.bool true) rfl rfl (ex_extract rfl rfl rfl) ?_
    refine sl_alloc tV (wn rfl) rfl hv l17cal38 (fun b73 w74 hv => ?_)
    simp only [zP, zI, zS, zO]
    refine sl_storeNAt 0 (new := [.int .i64 y2.stamp, .bool y2.gone, .int .i64 y2.expire, .int .i64 y2.val.kind, .string ⟨y2.val.text.toArray⟩, q2, t2, z2]) (pre := []) (mid := [.int .i64 0, .bool false, .int .i64 0, .int .i64 0, .string ⟨([] : List UInt8).toArray⟩, .slice none 0 0, .slice none 0 0, .slice none 0 0]) (post := []) (L' := [.int .i64 y2.stamp, .bool y2.gone, .int .i64 y2.expire, .int .i64 y2.val.kind, .string ⟨y2.val.text.toArray⟩, q2, t2, z2]) tV (wn rfl) rfl rfl rfl hv rfl s1sz38 rfl rfl rfl (one_cons rfl (one_cons rfl (one_cons rfl (one_cons rfl (one_cons rfl (one_cons hvy2.p.one (one_cons hvy2.t.one (one_cons hvy2.z.one one_nil)))))))) rfl (fun w75 hv => ?_)
    simp only [List.set_cons_zero] at hv
    refine xA (.bool true) rfl rfl rfl ?_
    refine wL ?_
    simp only [zP, zN, zI, zS, zO]
    refine tN (hK71 _ _ ?_)
    clear hK71 K71
    refine sK fun K76 hK76 => rL ?_
    refine xL (.agg #[.int .i64 y1.stamp, .bool y1.gone, .int .i64 y1.expire, .int .i64 y1.val.kind, .string ⟨y1.val.text.toArray⟩, q1, t1, z1]) rfl rfl rfl (run_load_mid (pre := []) (mid := [.int .i64 y1.stamp, .bool y1.gone, .int .i64 y1.expire, .int .i64 y1.val.kind, .string ⟨y1.val.text.toArray⟩, q1, t1, z1]) (post := []) s1wd38 (show Blk _ b68 ([] ++ [.int .i64 y1.stamp, .bool y1.gone, .int .i64 y1.expire, .int .i64 y1.val.kind, .string ⟨y1.val.text.toArray⟩, q1, t1, z1] ++ []) _ from hv.get 3 rfl) rfl) ?_
    refine xL (.agg #[.int .i64 y2.stamp, .bool y2.gone, .int .i64 y2.expire, .int .i64 y2.val.kind, .string ⟨y2.val.text.toArray⟩, q2, t2, z2]) rfl rfl rfl (run_load_mid (pre := []) (mid := [.int .i64 y2.stamp, .bool y2.gone, .int .i64 y2.expire, .int .i64 y2.val.kind, .string ⟨y2.val.text.toArray⟩, q2, t2, z2]) (post := []) s1wd38 (show Blk _ b73 ([] ++ [.int .i64 y2.stamp, .bool y2.gone, .int .i64 y2.expire, .int .i64 y2.val.kind, .string ⟨y2.val.text.toArray⟩, q2, t2, z2] ++ []) _ from hv.get 0 rfl) rfl) ?_
    refine xC l17ccallable15 rfl rfl (l := [.agg #[.int .i64 y1.stamp, .bool y1.gone, .int .i64 y1.expire, .int .i64 y1.val.kind, .string ⟨y1.val.text.toArray⟩, q1, t1, z1], .agg #[.int .i64 y2.stamp, .bool y2.gone, .int .i64 y2.expire, .int .i64 y2.val.kind, .string ⟨y2.val.text.toArray⟩, q2, t2, z2]]) rfl ((refSame1F F2 _ _ y1 y2 _ _ _ _ _ _ (hvy1.more hF2) (hy2.symm.trans hy1) hvy2 hv).mono ?_)
    rintro e w77 ⟨rfl, hv⟩
    refine ⟨_, rfl, ?_⟩
    simp only [zP, zI, zS, zO]
    refine xG (.bool false) rfl rfl (ex_not (b := true) rfl rfl rfl) ?_
    refine wL ?_
    simp only [zP, zI, zS, zO]
    refine tN (hK76 _ _ ?_)
    clear hK76 K76
    refine wpIn_cond_false rfl ?_
    refine wpIn_skip ?_
    refine blk_normal ?_
    refine tN (hK65 _ _ ?_)
    clear hK65 K65
    refine rL ?_
    refine xM (.int .i64 (j : Int)) rfl rfl rfl ?_
    refine xG (.int .i64 ((j + 1 : Nat) : Int)) rfl rfl (ex_add (m := (j : Int)) (n := 1) rfl rfl rfl (by rw [i64_in (by omega)]; omega)) ?_
    refine xA (.int .i64 ((j + 1 : Nat) : Int)) rfl rfl rfl ?_
    refine wL ?_
    simp only [zP, zI, zS, zO]
    refine then_normal ?_
    go_roundw
    case rel => exact ⟨j + 1, _, rfl, ((hKE.trans hF1).trans hF2), by omega, (((((((hv.front 7 rfl).front 7 rfl).front 4 rfl).front 4 rfl).front 7 rfl).front 7 rfl).sub (List.Sublist.cons_cons _ (List.Sublist.cons_cons _ (List.Sublist.cons_cons _ (List.Sublist.cons_cons _ (List.Sublist.cons_cons _ (List.Sublist.cons_cons _ (List.Sublist.cons _ (List.Sublist.cons _ (List.Sublist.refl _))))))))))⟩
    case measure => show (namesM M at_ later).length - (((j + 1 : Nat) : Int)).toNat < (namesM M at_ later).length - ((j : Int)).toNat; omega
   refine xG (.bool false) rfl rfl (ex_lss (k := .i64) (m := (j : Int)) (n := (((namesM M at_ later).length) : Int)) rfl rfl rfl (decide_eq_false hb64)) ?_
   refine wL ?_
   simp only [zP, zI, zS, zO]
   refine tN (hK63 _ _ ?_)
   clear hK63 K63
   refine wpIn_cond_false rfl ?_
   refine wpIn_exit ?_
   refine then_exit ?_
   clear hK62 K62
   refine then_exit ?_
   refine blk_hit ?_
   refine tN (hK59 _ _ ?_)
   clear hK59 K59
   refine sK fun K78 hK78 => rL ?_
   refine xA (.bool true) rfl rfl rfl ?_
   refine wL ?_
   simp only [zP, zI, zS, zO]
   refine tN (hK78 _ _ ?_)
   clear hK78 K78
   refine wpIn_ret ?_
   refine bR rfl rfl ?_
   exact ⟨rfl, ((hv.sub (List.Sublist.cons _ (List.Sublist.cons _ (List.Sublist.cons _ (List.Sublist.cons _ (List.Sublist.cons _ (List.Sublist.cons _ (List.Sublist.refl _))))))))).weak ((((((((hBC.trans hE1).trans hE2).trans hE3).trans hK1).trans hK2).trans hK3).trans hK4).trans hKE)⟩
end Go.Proofs.Ytffmbdagjpdieaa
/- Arguments that are two numbers. -/
namespace Go.Pm
open Go.RowKit
theorem rep_arr2 {w : World} {S : Nat → Prop} {cs : List Value} {d : List Int} (h : Rep w S (.arr 2 (.int .i64)) cs d) : ∃ a b : Int, cs = [.int .i64 a, .int .i64 b] ∧ d = [a, b] ∧ (-9223372036854775808 ≤ b ∧ b ≤ 9223372036854775807) := by
 obtain ⟨h1, h2, h3⟩ := h
 match d, h1 with
 | [b0, b1], _ =>
  match cs, h2 with
  | [c0, c1], _ =>
   have e0 := (h3 0 (by simp)).1
   have e1 := (h3 1 (by simp)).1
   have e2 := bounds_i64 (h3 1 (by simp)).2
   simp only [Ty.size, List.drop, List.take, List.getElem_cons_zero, List.getElem_cons_succ, List.cons.injEq, and_true] at e0 e1 e2
   exact ⟨b0, b1, by rw [e0, e1]; rfl, rfl, e2⟩
end Go.Pm
