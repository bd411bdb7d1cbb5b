/- clist: keep, numbered, index, insert. -/
import Derived.Test.YtmhdpjifhfoabaaGreatDoorClFauC
import Derived.Test.YtmhdpjifhfoabaaGreatDoorClFauK
import Derived.Test.YtmhdpjifhfoabaaGreatDoorClFauH
import Derived.Test.YtmhdpjifhfoabaaGreatDoorClFauF
import Derived.Test.YtmhdpjifhfoabaaGreatDoorClFauG
import Derived.Test.YtmhdpjifhfoabaaGreatDoorClFauB
import Derived.Test.YtmhdpjifhfoabaaGreatDoorRows
set_option maxRecDepth 100000
set_option maxHeartbeats 16000000
set_option synthInstance.maxSize 4096
set_option synthInstance.maxHeartbeats 400000
namespace Go.Proofs.YtmhdpjifhfoabaaGreatDoor
open Go.RowKit Go.Pm
theorem listV_at {B : Base} {l : List (List UInt8)} {la : Option Addr} {lc : Nat} (hr : RdV B [] la (textCells l)) (hok : SliceOk la l.length lc) (hm : l.length ≤ 1000000) : ValAt B (listV l) (vN) (.slice la l.length lc) (vN) :=
 ⟨⟨none, 0, rfl, nil_ok, rdV_nil⟩, ⟨la, lc, rfl, hok, hr⟩, ⟨none, 0, rfl, nil_ok, rdV_nil⟩, Nat.zero_le _, hm, Nat.zero_le _⟩
theorem ints_one {t : List UInt8} {ns : List Int} {ec : Int} (h : IntsR [t] ns ec) : (ec = 0 ∧ ∃ n, ns = [n] ∧ NumP t n true) ∨ (ec = 41 ∧ ns = [] ∧ NumP t 0 false) := by
 rcases h with ⟨h1, h2, h3⟩ | ⟨h1, h2, t2, h3, h4⟩
 ·match ns, h2 with
  | [n], _ => exact .inl ⟨h1, n, rfl, h3 0 t n rfl rfl⟩
 rw [List.mem_singleton.1 h3] at h4; exact .inr ⟨h1, h2, h4⟩
theorem j1fa74_0 : FA Tryz.prog 74 0 0 := fun w b o => by kernel_rfl
theorem j1na24 (w : World) : (isAgg 24).run Tryz.prog w = .ok false w := by kernel_rfl
theorem j1callable30 : Callable Tryz.prog 30 := cb Tryz.func30 (by kernel_rfl)
theorem clistKeep (B : Base) (H : List Res) (w : World) (v t m s p wb : Nat) (va : Option Addr) (vc : Nat) (sv : Value) (clk : Int) (es : List (List UInt8 × Value)) (M : List (List UInt8 × Ver)) (hM : VM B es M) (aa : Option Addr) (an ac : Nat) (key : List UInt8) (ys : Int) (yg : Bool) (yx yk : Int) (yt9 : List UInt8) (p1 : Option Addr) (q1 c1 : Nat) (p2 : Option Addr) (q2 c2 : Nat) (p3 : Option Addr) (q3 c3 : Nat) (la : Option Addr) (lc : Nat) (l : Tx) (hrl : RdV B [] la (textCells l)) (hokl : SliceOk la l.length lc) (hml : l.length ≤ 1000000) (hv : Inv B (Res.cell v [.iface 62 (vP t)] 36 :: txR t m s p wb va vc sv clk es :: H) w) :
  Calls Tryz.prog 71 #[.agg #[vP v, .slice aa an ac], vS key, .agg #[vI ys, .bool yg, vI yx, vI yk, vS yt9, .slice p1 q1 c1, .slice p2 q2 c2, .slice p3 q3 c3], .slice la l.length lc] w fun e w' => ∃ C es' M' ec, B.Le C ∧ e = .returned (vI ec) ∧ VM C es' M' ∧ KeepI M clk key (listV l) yx ec M' ∧ Inv C (Res.cell v [.iface 62 (vP t)] 36 :: txR t m s p wb va vc sv clk es' :: H) w' := by
 refine cW Tryz.func71 rfl Tryz.ntmps71 ?_
 simp only [al]
 refine sK fun _ k1 => rL (sl_box (L := [vP v, .slice aa an ac]) tV (wn rfl) rfl rfl hv (fun w => by kernel_rfl) (fun b2 w3 hv => ?_))
 refine sl_box (L := [vI ys, .bool yg, vI yx, vI yk, vS yt9, .slice p1 q1 c1, .slice p2 q2 c2, .slice p3 q3 c3]) tV (wn rfl) rfl rfl hv (fun w => by kernel_rfl) (fun b4 w5 hv => ?_)
 refine uA rfl (uW k1 ?_)
 refine sK fun _ k6 => rL (uF (vP b2) rfl (j1fa74_0 _ _ _) ?_)
 refine uL _ rfl (run_load1 j1na24 (hv.load 1 0 rfl rfl)) (uM rfl ?_)
 refine uM rfl ?_
 refine uG (.agg #[vI 3, vS [], vN, .slice la l.length lc, vN]) rfl (ex_buildN (vs := #[(0, vI 3), (3, .slice la l.length lc)]) rfl (by simp only [List.map_toArray, List.map_cons, List.map_nil]; rfl) (by kernel_rfl)) ?_
 refine uF (.pointer (some ⟨b4, 2, none⟩)) rfl (s2fa85_2 _ _ _) ?_
 refine uL _ rfl (run_load1 s2na3 (hv.load 0 2 rfl rfl)) ?_
 replace hv := hv.front 3 rfl
 simp only [eS, eZ] at hv
 replace hv := hv.front 3 rfl
 simp only [eS, eZ] at hv
 refine xC j1callable30 rfl ((viewKeep B _ _ v t m s p wb va vc sv clk es M key (listV l) _ _ _ yx hM (listV_at hrl hokl hml) hv).mono ?_) rfl
 rintro e w7 ⟨C, es', M', ec, hC, rfl, hM', hk, hv⟩
 refine ⟨_, rfl, uA rfl ?_⟩
 refine uW k6 (rR ?_)
 refine bR rfl rfl (⟨C, es', M', ec, hC, rfl, hM', hk, (hv.kp [1, 1] 2 2)⟩)
theorem j1al85 : AL Tryz.prog 85 [vI 0, .bool false, vI 0, vI 0, vS [], vN, vN, vN] := fun w => by kernel_rfl
theorem j1fa74_1 : FA Tryz.prog 74 1 1 := fun w b o => by kernel_rfl
theorem j1mk9 : (Tryz.prog.info? 9).map (fun i => (i.zero, i.size, i.bytes)) = some (some (vS []), 1, 16) := by kernel_rfl
theorem j1el22 : Elem Tryz.prog 22 9 (vS []) 1 16 := elem_of Tryz.underlying22 j1mk9 (by rfl) (by decide)
theorem j1callable76 : Callable Tryz.prog 76 := cb Tryz.func76 (by kernel_rfl)
theorem j1callable41 : Callable Tryz.prog 41 := cb Tryz.func41 (by kernel_rfl)
theorem clistNumbered (B : Base) (H : List Res) (w : World) (v t m s p wb : Nat) (va : Option Addr) (vc : Nat) (sv : Value) (clk : Int) (es : List (List UInt8 × Value)) (M : List (List UInt8 × Ver)) (hM : VM B es M) (aa : Option Addr) (ac : Nat) (args : List (List UInt8)) (hra : RdV B [] aa (textCells args)) (hoka : SliceOk aa args.length ac) (_ : args.length ≤ 10000) (key : List UInt8) (hkey : args[0]? = some key) (wd1 : List UInt8) (hwd1 : args[1]? = some wd1) (hN : NumB B) (hv : Inv B (Res.cell v [.iface 62 (vP t)] 36 :: txR t m s p wb va vc sv clk es :: H) w) :
  Calls Tryz.prog 66 #[.agg #[vP v, .slice aa args.length ac]] w fun e w' => ∃ (C : Base) (ys : Int) (yg : Bool) (yx yk : Int) (yt9 : List UInt8) (p1 : Option Addr) (q1 c1 : Nat) (sa : Option Addr) (ts : Tx) (sc : Nat) (p3 : Option Addr) (q3 c3 : Nat) (n ec : Int), B.Le C ∧ e = .returned (.tuple #[.agg #[vI ys, .bool yg, vI yx, vI yk, vS yt9, .slice p1 q1 c1, .slice sa ts.length sc, .slice p3 q3 c3], vI n, vI ec]) ∧ SliceOk sa ts.length sc ∧ RdV C [] sa (textCells ts) ∧ ts.length ≤ 1000000 ∧ (-9223372036854775808 ≤ n ∧ n ≤ 9223372036854775807) ∧ Inv C (Res.cell v [.iface 62 (vP t)] 36 :: txR t m s p wb va vc sv clk es :: H) w' := by
 refine cW Tryz.func66 rfl Tryz.ntmps66 ?_
 simp only [al]
 refine sK fun _ k1 => ?_
 obtain ⟨ab, ao, had, hrdkey⟩ := text_reads hra hkey
 subst had
 have halkey : 0 < args.length := (List.getElem?_eq_some_iff.1 hkey).1
 obtain ⟨ab9, ao9, had9, hrdwd1⟩ := text_reads hra hwd1
 cases had9
 have halwd1 : 1 < args.length := (List.getElem?_eq_some_iff.1 hwd1).1
 refine rL (sl_box (L := [vP v, .slice (some ⟨ab, ao, none⟩) args.length ac]) tV (wn rfl) rfl rfl hv (fun w => by kernel_rfl) (fun b2 w3 hv => ?_))
 refine sl_alloc tV (wn rfl) rfl hv j1al85 (fun b4 w5 hv => ?_)
 refine uA rfl (uA rfl ?_)
 refine uW k1 (sK fun _ k6 => ?_)
 refine rL (uF (.pointer (some ⟨b2, 1, none⟩)) rfl (j1fa74_1 _ _ _) ?_)
 refine uL _ rfl (run_load1 s1na22 (hv.load 1 1 rfl rfl)) ?_
 refine uG (.pointer (some ⟨ab, ao + 1, none⟩)) rfl (ex_index rfl rfl rfl (run_idx1 (k := 1) Tryz.underlying22 s9es22 (by omega))) ?_
 refine uL _ rfl (run_load1 s9na9 (hrdwd1 _ _ _ (Base.Le.refl _) no_res hv 0 _ rfl)) ?_
 refine sl_rowOne (v := vS wd1) tV (wn rfl) rfl rfl hv j1el22 rfl (fun b7 w8 hv => ?_)
 obtain ⟨K9, hK9, hv, hrkK9, hokK9, -⟩ := (hv.cellRow (n := 1) (c := 1) (size := 1) rfl (by decide) (by decide)).rowBy
 refine xC j1callable76 rfl ((viewInts K9 _ _ _ 1 [wd1] hrkK9 (Nat.le_of_ble_eq_true rfl) (hN.more hK9) hv).mono ?_) rfl
 rintro e w18 ⟨E12, ia10, ic11, ns13, ei14, hE12, rfl, hri15, hir, hv⟩
 refine ⟨_, rfl, ?_⟩
 rcases ints_one hir with ⟨rfl, n17, rfl, hnp16⟩ | ⟨rfl, rfl, hnp16⟩
 ·refine uG (.tuple #[.slice ia10 1 ic11, vI 0]) rfl (ex_move rfl rfl) ?_
  refine uG (.slice ia10 1 ic11) rfl (ex_extract rfl rfl rfl) (uE rfl ?_)
  refine uA rfl (uA rfl ?_)
  refine uW k6 (sK fun _ k19 => ?_)
  refine sK fun _ k20 => rL (uM rfl ?_)
  refine uG (.bool false) rfl (ex_neq rfl rfl rfl (by decide)) (uW k20 ?_)
  refine cF rfl (kS ?_)
  refine tK k19 (sK fun _ k21 => ?_)
  refine rT mixed (fun az wz => ∃ (C : Base) (y : Ver) (yp yt yz : Value) (ec : Int) (b28 : Nat), (E12.Le C) ∧ (ValAt C y.val yp yt yz) ∧ (OfI M clk key 3 y ec) ∧ az = { tmps := List.toArray (.agg #[vP v, .slice (some ⟨ab, ao, none⟩) args.length ac] :: vP b2 :: vP b4 :: vI 0 :: vI 0 :: .slice ia10 1 ic11 :: vI ec :: vP b28 :: .tuple #[.slice ia10 1 ic11, vI 0] :: .pointer (some ⟨b2, 1, none⟩) :: .slice (some ⟨ab, ao, none⟩) args.length ac :: .pointer (some ⟨ab, ao + 1, none⟩) :: vS wd1 :: .slice (some ⟨b7, 0, none⟩) 1 1 :: .tuple #[.slice ia10 1 ic11, vI 0] :: .slice ia10 1 ic11 :: vI 0 :: vI 0 :: .bool false :: undef :: undef :: .tuple #[.agg #[vI y.stamp, .bool y.gone, vI y.expire, vI y.val.kind, vS y.val.text, yp, yt, yz], vI ec] :: vP b2 :: vP v :: .pointer (some ⟨b2, 1, none⟩) :: .slice (some ⟨ab, ao, none⟩) args.length ac :: .pointer (some ⟨ab, ao + 0, none⟩) :: vS key :: .tuple #[.agg #[vI y.stamp, .bool y.gone, vI y.expire, vI y.val.kind, vS y.val.text, yp, yt, yz], vI ec] :: .agg #[vI y.stamp, .bool y.gone, vI y.expire, vI y.val.kind, vS y.val.text, yp, yt, yz] :: vI ec :: undef :: undef :: undef :: undef :: undef :: undef :: undef :: undef :: []), defers := [] } ∧ Inv C (Res.cell b28 [vI y.stamp, .bool y.gone, vI y.expire, vI y.val.kind, vS y.val.text, yp, yt, yz] 85 :: Res.cell v [.iface 62 (vP t)] 36 :: txR t m s p wb va vc sv clk es :: Res.cell b4 [vI 0, .bool false, vI 0, vI 0, vS [], vN, vN, vN] 85 :: Res.cell b2 [vP v, .slice (some ⟨ab, ao, none⟩) args.length ac] 74 :: H) wz) [6, 10, 11] [0,1,2,3,4,5] [7,8,9,10,11,12] [6,7,8,9,11,12] 6 10 39 rfl (by kernel_rfl) hv ?_ ?_
  ·intro R2 l1 l2 hR2 hl1 hl2
   simp only [qm, opAt]
   refine tG (vP b2) rfl (ex_field rfl rfl (j1fa74_0 _ _ _)) (tF (vP v) rfl (fun hv => ex_load rfl rfl (run_load1 j1na24 (hv.load 1 0 rfl rfl))) fun f22 hf22 => ?_)
   simp only [zP, po]
   refine tG (.pointer (some ⟨b2, 1, none⟩)) rfl (ex_field rfl rfl (j1fa74_1 _ _ _)) (tF (.slice (some ⟨ab, ao, none⟩) args.length ac) rfl (fun hv => ex_load rfl rfl (run_load1 s1na22 (hv.load 1 1 rfl rfl))) fun f23 hf23 => ?_)
   simp only [zP, po]
   refine tG (.pointer (some ⟨ab, ao + 0, none⟩)) rfl (ex_index rfl rfl rfl (run_idx1 (k := 0) Tryz.underlying22 s9es22 (by omega))) (tF (vS key) rfl (fun hv => ex_load rfl rfl (run_load1 s9na9 (hrdkey _ _ _ (hK9.trans hE12) no_res hv 0 _ rfl))) fun f24 hf24 => ?_)
   simp only [zP, po]
   refine tB ?_ ?_
   ·rw [hl1]; clear hl1 hl2
    simp only [qm, opAt]
    refine dS rfl fun w25 hv => ?_
    replace hv := hv.front 3 rfl
    simp only [eS, eZ] at hv
    replace hv := hv.front 3 rfl
    simp only [eS, eZ] at hv
    refine mC j1callable41 rfl ((viewOf E12 _ _ v t m s p wb va vc sv clk es M key 3 (hM.more (hK9.trans hE12)) hv).mono ?_) rfl
    rintro e w26 ⟨C, y, yp, yt, yz, ec, hC, rfl, hyv, hof, hv⟩
    refine ⟨_, rfl, dV hv (fK rfl (fK rfl (fK rfl fN))) ?_⟩
    refine dM (.tuple #[.agg #[vI y.stamp, .bool y.gone, vI y.expire, vI y.val.kind, vS y.val.text, yp, yt, yz], vI ec]) rfl (dG (.agg #[vI y.stamp, .bool y.gone, vI y.expire, vI y.val.kind, vS y.val.text, yp, yt, yz]) rfl (ex_extract rfl rfl rfl) ?_)
    simp only [zP, po]
    refine dG (vI ec) rfl (ex_extract rfl rfl rfl) (dS rfl fun w27 hv => ?_)
    refine mem_alloc rfl rfl hv j1al85 (fun b28 w29 hv => ?_)
    refine dV hv (fC (fun ww hv => hf24 ww (ex_load rfl rfl (run_load1 s9na9 (hrdkey _ _ _ ((hK9.trans hE12).trans hC) no_res hv 0 _ rfl)))) (fC (fun ww hv => hf23 ww (ex_load rfl rfl (run_load1 s1na22 (hv.load 4 1 rfl rfl)))) (fC (fun ww hv => hf22 ww (ex_load rfl rfl (run_load1 j1na24 (hv.load 4 0 rfl rfl)))) fN))) (dS rfl fun w30 hv => ?_)
    refine mS 0 rfl hv x0sz85 rfl (by exact ⟨rfl, rfl, rfl, rfl, rfl, hyv.p.one, hyv.t.one, hyv.z.one, trivial⟩) (fun w31 hv => ?_)
    simp only [zO, sp] at hv
    refine dV hv (fK rfl (fK rfl (fK rfl fN))) ?_
    simp only [zP, po]
    refine dA (vI ec) rfl (dE fun wz hv => ?_)
    simp only [zP, po]
    exact hR2 _ _ ⟨C, y, yp, yt, yz, ec, b28, hC, hyv, hof, rfl, (((((hv.front 4 rfl).front 4 rfl).front 4 rfl).front 4 rfl).front 4 rfl)⟩
   rw [hl2]; clear hl1 hl2
   simp only [qm, opAt]
   refine dS rfl fun w32 hv => mem_alloc rfl rfl hv j1al85 (fun b33 w34 hv => ?_)
   refine dV hv (fC (fun ww hv => hf24 ww (ex_load rfl rfl (run_load1 s9na9 (hrdkey _ _ _ (hK9.trans hE12) no_res hv 0 _ rfl)))) (fC (fun ww hv => hf23 ww (ex_load rfl rfl (run_load1 s1na22 (hv.load 2 1 rfl rfl)))) (fC (fun ww hv => hf22 ww (ex_load rfl rfl (run_load1 j1na24 (hv.load 2 0 rfl rfl)))) fN))) (dS rfl fun w35 hv => ?_)
   replace hv := hv.front 4 rfl
   simp only [eS, eZ] at hv
   replace hv := hv.front 4 rfl
   simp only [eS, eZ] at hv
   refine mC j1callable41 rfl ((viewOf E12 _ _ v t m s p wb va vc sv clk es M key 3 (hM.more (hK9.trans hE12)) hv).mono ?_) rfl
   rintro e w36 ⟨C, y, yp, yt, yz, ec, hC, rfl, hyv, hof, hv⟩
   refine ⟨_, rfl, dV hv (fK rfl (fK rfl (fK rfl fN))) ?_⟩
   refine dM (.tuple #[.agg #[vI y.stamp, .bool y.gone, vI y.expire, vI y.val.kind, vS y.val.text, yp, yt, yz], vI ec]) rfl ?_
   simp only [zP, po]
   refine dG (.agg #[vI y.stamp, .bool y.gone, vI y.expire, vI y.val.kind, vS y.val.text, yp, yt, yz]) rfl (ex_extract rfl rfl rfl) (dG (vI ec) rfl (ex_extract rfl rfl rfl) ?_)
   refine dS rfl fun w37 hv => mS 2 rfl hv x0sz85 rfl (by exact ⟨rfl, rfl, rfl, rfl, rfl, hyv.p.one, hyv.t.one, hyv.z.one, trivial⟩) (fun w38 hv => ?_)
   simp only [zS, zO, sp] at hv
   refine dV hv (fK rfl (fK rfl (fK rfl fN))) ?_
   simp only [zP, po]
   refine dA (vI ec) rfl (dE fun wz hv => ?_)
   simp only [zP, po]
   exact hR2 _ _ ⟨C, y, yp, yt, yz, ec, b33, hC, hyv, hof, rfl, (((((hv.front 4 rfl).front 4 rfl).front 3 rfl).front 3 rfl).front 4 rfl)⟩
  rintro _ w39 ⟨C, y, yp, yt, yz, ec, b28, hC, hyv, hof, rfl, hv⟩
  obtain ⟨pa, pc, sa, sc, za, zc, rfl, rfl, rfl, hokp, hrp, hoks, hrs, hokz, hrz⟩ := valAt_open hyv
  refine tK k21 (sK fun _ k40 => ?_)
  refine sK fun _ k41 => rL (uM rfl ?_)
  by_cases hb42 : ec ≠ 0
  ·refine uG (.bool true) rfl (ex_neq rfl rfl rfl (qT hb42)) (uW k41 ?_)
   refine cT rfl (sK fun _ k43 => ?_)
   refine rL (uG (.agg #[vI 0, .bool false, vI 0, vI 0, vS [], vN, vN, vN]) rfl (ex_buildN (vs := #[]) rfl (by simp only [List.map_toArray, List.map_nil]) (by kernel_rfl)) ?_)
   refine uM rfl ?_
   refine xS 3 rfl hv x0sz85 rfl (by exact ⟨rfl, rfl, rfl, rfl, rfl, rfl, rfl, rfl, trivial⟩) (fun w44 hv => ?_)
   simp only [zS, zO, sp] at hv
   refine uA rfl (uA rfl ?_)
   refine uW k43 (rR ?_)
   refine tR (bodyPost_ret (res_cell3 rfl rfl (lM 3 x0wd85 hv rfl rfl rfl rfl)) rfl ?_)
   exact ⟨C, 0, false, 0, 0, [], none, 0, 0, none, [], 0, none, 0, 0, 0, _, ((hK9.trans hE12).trans hC), rfl, nil_ok, rdV_nil, Nat.zero_le _, by decide, (hv.kp [2, 2] 2 3)⟩
  refine uG (.bool false) rfl (ex_neq rfl rfl rfl (qF hb42)) (uW k41 ?_)
  refine cF rfl (kS ?_)
  refine tK k40 (sK fun _ k45 => ?_)
  obtain ⟨ib, io, had, hrdn17⟩ := int_reads hri15 (show [n17][0]? = some n17 from rfl)
  subst had
  have hfitn17 : -9223372036854775808 ≤ n17 ∧ n17 ≤ 9223372036854775807 := hnp16.elim (fun h => ⟨h.2.1, h.2.2.1⟩) (fun h => absurd h.1 (by decide))
  refine rW mixed [4] [0,1,2,3,4,5,6] 39 rfl (by kernel_rfl) hv ?_
  simp only [qm, opAt]
  refine dL (.agg #[vI y.stamp, .bool y.gone, vI y.expire, vI y.val.kind, vS y.val.text, .slice pa y.val.pairs.length pc, .slice sa y.val.texts.length sc, .slice za y.val.zset.length zc]) rfl (fun hv => ex_load rfl rfl (lM 0 x0wd85 hv rfl rfl rfl rfl)) (dM (.slice (some ⟨ib, io, none⟩) 1 ic11) rfl ?_)
  refine dG (.pointer (some ⟨ib, io + 0, none⟩)) rfl (ex_index rfl rfl rfl (run_idx1 (k := 0) Tryz.underlying149 s11es149 (by omega))) ?_
  simp only [zP, po]
  refine dF _ rfl (fun hv => ex_load rfl rfl (run_load1 s2na3 (hrdn17 _ _ _ hC no_res hv 0 _ rfl))) fun f46 hf46 => dS rfl fun w47 hv => mS 3 rfl hv x0sz85 rfl (by exact ⟨rfl, rfl, rfl, rfl, rfl, rfl, rfl, rfl, trivial⟩) (fun w48 hv => ?_)
  simp only [zS, zO, sp] at hv
  refine dV hv (fC (fun ww hv => hf46 ww (ex_load rfl rfl (run_load1 s2na3 (hrdn17 _ _ _ hC no_res hv 0 _ rfl)))) fN) (dA (vI n17) rfl ?_)
  simp only [zP, po]
  refine dA (vI 0) rfl (dE fun w49 hv => ?_)
  simp only [zP, po]
  refine tK k45 (rR ?_)
  refine bodyPost_ret (res_cell3 rfl rfl (lM 3 x0wd85 hv rfl rfl rfl rfl)) rfl (⟨C, _, _, _, _, _, _, _, _, sa, y.val.texts, sc, _, _, _, n17, 0, ((hK9.trans hE12).trans hC), rfl, hoks, (hrs.more (Base.Le.refl _) (fun _ h => h)), hyv.tm, hfitn17, (hv.kp [2, 2] 2 3)⟩)
 refine uM rfl (uE rfl ?_)
 refine uE rfl (uA rfl ?_)
 refine uA rfl (uW k6 ?_)
 refine sK fun _ k50 => sK fun _ k51 => rL (uM rfl ?_)
 refine uG (.bool true) rfl (ex_neq rfl rfl rfl (by decide)) (uW k51 ?_)
 refine cT rfl (sK fun _ k52 => ?_)
 refine rL (uG (.agg #[vI 0, .bool false, vI 0, vI 0, vS [], vN, vN, vN]) rfl (ex_buildN (vs := #[]) rfl (by simp only [List.map_toArray, List.map_nil]) (by kernel_rfl)) ?_)
 refine uM rfl ?_
 refine xS 0 rfl hv x0sz85 rfl (by exact ⟨rfl, rfl, rfl, rfl, rfl, rfl, rfl, rfl, trivial⟩) (fun w53 hv => ?_)
 simp only [zO, sp] at hv
 refine uA rfl (uA rfl ?_)
 refine uW k52 (rR ?_)
 refine tR (bodyPost_ret (res_cell3 rfl rfl (lM 0 x0wd85 hv rfl rfl rfl rfl)) rfl ?_)
 exact ⟨E12, 0, false, 0, 0, [], none, 0, 0, none, [], 0, none, 0, 0, 0, _, (hK9.trans hE12), rfl, nil_ok, rdV_nil, Nat.zero_le _, by decide, (hv.kp [3, 3] 2 2)⟩
theorem j1al28 : AL Tryz.prog 28 [vI 0, vS [], vI 0, vN] := fun w => by kernel_rfl
theorem j1wd74 : Wide Tryz.prog 74 2 := wide_of (fun w => by kernel_rfl) (by kernel_rfl)
theorem j1callable66 : Callable Tryz.prog 66 := cb Tryz.func66 (by kernel_rfl)
theorem j1callable67 : Callable Tryz.prog 67 := cb Tryz.func67 (by kernel_rfl)
theorem j1callable68 : Callable Tryz.prog 68 := cb Tryz.func68 (by kernel_rfl)
theorem clistIndex (B : Base) (H : List Res) (w : World) (v t m s p wb : Nat) (va : Option Addr) (vc : Nat) (sv : Value) (clk : Int) (es : List (List UInt8 × Value)) (M : List (List UInt8 × Ver)) (hM : VM B es M) (hO : OkM M) (aa : Option Addr) (ac : Nat) (args : List (List UInt8)) (hra : RdV B [] aa (textCells args)) (hoka : SliceOk aa args.length ac) (hma : args.length ≤ 10000) (key : List UInt8) (hkey : args[0]? = some key) (wd1 : List UInt8) (hwd1 : args[1]? = some wd1) (hN : NumB B) (hv : Inv B (Res.cell v [.iface 62 (vP t)] 36 :: txR t m s p wb va vc sv clk es :: H) w) :
  Calls Tryz.prog 39 #[.agg #[vP v, .slice aa args.length ac]] w fun e w' => ∃ C es' M' r cs, B.Le C ∧ e = .returned (.agg cs.toArray) ∧ RpAt C r cs ∧ VM C es' M' ∧ CmdR M M' r ∧ Inv C (Res.cell v [.iface 62 (vP t)] 36 :: txR t m s p wb va vc sv clk es' :: H) w' := by
 refine cW Tryz.func39 rfl Tryz.ntmps39 ?_
 simp only [al]
 refine sK fun _ k1 => rL (sl_box (L := [vP v, .slice aa args.length ac]) tV (wn rfl) rfl rfl hv (fun w => by kernel_rfl) (fun b2 w3 hv => ?_))
 refine sl_alloc tV (wn rfl) rfl hv j1al28 (fun b4 w5 hv => ?_)
 refine uW k1 (sK fun _ k6 => ?_)
 refine rL (uL (.agg #[vP v, .slice aa args.length ac]) rfl (lM 1 j1wd74 hv rfl rfl rfl rfl) ?_)
 replace hv := hv.front 3 rfl
 simp only [eS, eZ] at hv
 replace hv := hv.front 3 rfl
 simp only [eS, eZ] at hv
 refine xC j1callable66 rfl ((clistNumbered B _ _ v t m s p wb va vc sv clk es M hM aa ac args hra hoka hma key hkey wd1 hwd1 hN hv).mono ?_) rfl
 rintro e w7 ⟨C, ys, yg, yx, yk, yt9, p1, q1, c1, sa, ts, sc, p3, q3, c3, n, ec, hC, rfl, hoks, hrs, hml, hnf, hv⟩
 refine ⟨_, rfl, uM rfl ?_⟩
 refine uE rfl (uE rfl ?_)
 refine uE rfl ?_
 refine sl_alloc tV (wn rfl) rfl hv j1al85 (fun b8 w9 hv => ?_)
 refine xS 0 rfl hv x0sz85 rfl (by exact ⟨rfl, rfl, rfl, rfl, rfl, rfl, rfl, rfl, trivial⟩) (fun w10 hv => ?_)
 simp only [zO, sp] at hv
 refine uA rfl (uA rfl ?_)
 refine uW k6 (sK fun _ k11 => ?_)
 refine sK fun _ k12 => rL (uM rfl ?_)
 by_cases hb13 : ec ≠ 0
 ·refine uG (.bool true) rfl (ex_neq rfl rfl rfl (qT hb13)) (uW k12 ?_)
  refine cT rfl (sK fun _ k14 => ?_)
  refine rL (uM rfl ?_)
  refine xC rscallable25 rfl ((viewWrong C _ _ ec hv).mono ?_) rfl
  rintro e w16 ⟨s15, rfl, hv⟩
  refine ⟨_, rfl, ?_⟩
  refine xS 3 rfl hv rssz28 rfl (by exact ⟨rfl, rfl, rfl, rfl, trivial⟩) (fun w17 hv => ?_)
  simp only [zS, zO, sp] at hv
  refine uW k14 (rR ?_)
  refine tR (bC 3 rswd28 hv rfl rfl rfl rfl ?_)
  exact ⟨C, es, M, (.mk 1 s15 0 []), _, hC, rfl, rpAt_leaf, hM.more hC, ⟨hO, fun _ => rfl⟩, (hv.kp [2, 2] 2 3)⟩
 refine uG (.bool false) rfl (ex_neq rfl rfl rfl (qF hb13)) (uW k12 ?_)
 refine cF rfl (kS ?_)
 refine tK k11 (sK fun _ k18 => ?_)
 refine rL (uF (.pointer (some ⟨b8, 3, none⟩)) rfl (x2fa85_3 _ _ _) ?_)
 refine uF (.pointer (some ⟨b8, 6, none⟩)) rfl (s1fa78_3 _ _ _) ?_
 refine uL _ rfl (run_load1 s1na22 (hv.load 0 6 rfl rfl)) (uM rfl ?_)
 refine xC j1callable67 rfl ((listIndex C _ _ sa sc ts hoks hrs hml n hnf hv).mono ?_) rfl
 rintro e w19 ⟨xs9, xok, rfl, hv⟩
 refine ⟨_, rfl, uM rfl ?_⟩
 refine uE rfl (uE rfl ?_)
 refine uA rfl (uA rfl ?_)
 refine uW k18 (sK fun _ k20 => ?_)
 refine sK fun _ k21 => rL (uM rfl ?_)
 refine uG (.bool (!xok)) rfl (ex_not rfl rfl rfl) (uW k21 ?_)
 refine wpIn_cond_split (t := !xok) rfl (fun hc22 => ?_) (fun hc22 => ?_)
 ·refine sK fun _ k23 => rL (xC j1callable68 rfl ((respNone C _ _ hv).mono ?_) rfl)
  rintro e w24 ⟨rfl, hv⟩
  refine ⟨_, rfl, ?_⟩
  refine xS 3 rfl hv rssz28 rfl (by exact ⟨rfl, rfl, rfl, rfl, trivial⟩) (fun w25 hv => ?_)
  simp only [zS, zO, sp] at hv
  refine uW k23 (rR ?_)
  refine tR (bC 3 rswd28 hv rfl rfl rfl rfl ?_)
  exact ⟨C, es, M, (.mk 4 ([] : List UInt8) 0 []), _, hC, rfl, rpAt_leaf, hM.more hC, ⟨hO, fun _ => rfl⟩, (hv.kp [2, 2] 2 3)⟩
 refine kS (tK k20 ?_)
 refine sK fun _ k26 => rL (uM rfl ?_)
 refine xC rtcallable69 rfl ((respStr C _ _ xs9 hv).mono ?_) rfl
 rintro e w27 ⟨rfl, hv⟩
 refine ⟨_, rfl, ?_⟩
 refine xS 3 rfl hv rssz28 rfl (by exact ⟨rfl, rfl, rfl, rfl, trivial⟩) (fun w28 hv => ?_)
 simp only [zS, zO, sp] at hv
 refine uW k26 (rR ?_)
 refine bC 3 rswd28 hv rfl rfl rfl rfl (⟨C, es, M, (.mk 3 xs9 0 []), _, hC, rfl, rpAt_leaf, hM.more hC, ⟨hO, fun _ => rfl⟩, (hv.kp [2, 2] 2 3)⟩)
theorem j1callable44 : Callable Tryz.prog 44 := cb Tryz.func44 (by kernel_rfl)
theorem j1callable43 : Callable Tryz.prog 43 := cb Tryz.func43 (by kernel_rfl)
theorem j1callable70 : Callable Tryz.prog 70 := cb Tryz.func70 (by kernel_rfl)
theorem j1callable71 : Callable Tryz.prog 71 := cb Tryz.func71 (by kernel_rfl)
theorem j1callable42 : Callable Tryz.prog 42 := cb Tryz.func42 (by kernel_rfl)
theorem clistInsert (B : Base) (H : List Res) (w : World) (v t m s p wb : Nat) (va : Option Addr) (vc : Nat) (sv : Value) (clk : Int) (es : List (List UInt8 × Value)) (M : List (List UInt8 × Ver)) (hM : VM B es M) (hO : OkM M) (aa : Option Addr) (ac : Nat) (args : List (List UInt8)) (hra : RdV B [] aa (textCells args)) (hoka : SliceOk aa args.length ac) (_ : args.length ≤ 10000) (key : List UInt8) (hkey : args[0]? = some key) (wd1 : List UInt8) (hwd1 : args[1]? = some wd1) (wd2 : List UInt8) (hwd2 : args[2]? = some wd2) (wd3 : List UInt8) (hwd3 : args[3]? = some wd3) (hxl : ∀ x ∈ args, x.length ≤ 9223372036854775807) (hv : Inv B (Res.cell v [.iface 62 (vP t)] 36 :: txR t m s p wb va vc sv clk es :: H) w) :
  Calls Tryz.prog 40 #[.agg #[vP v, .slice aa args.length ac]] w fun e w' => ∃ C es' M' r cs, B.Le C ∧ e = .returned (.agg cs.toArray) ∧ RpAt C r cs ∧ VM C es' M' ∧ CmdR M M' r ∧ Inv C (Res.cell v [.iface 62 (vP t)] 36 :: txR t m s p wb va vc sv clk es' :: H) w' := by
 refine cW Tryz.func40 rfl Tryz.ntmps40 ?_
 simp only [al]
 refine sK fun _ k1 => ?_
 obtain ⟨ab, ao, had, hrdkey⟩ := text_reads hra hkey
 subst had
 have halkey : 0 < args.length := (List.getElem?_eq_some_iff.1 hkey).1
 obtain ⟨ab9, ao9, had9, hrdwd1⟩ := text_reads hra hwd1
 cases had9
 have halwd1 : 1 < args.length := (List.getElem?_eq_some_iff.1 hwd1).1
 obtain ⟨ab9, ao9, had9, hrdwd2⟩ := text_reads hra hwd2
 cases had9
 have halwd2 : 2 < args.length := (List.getElem?_eq_some_iff.1 hwd2).1
 obtain ⟨ab9, ao9, had9, hrdwd3⟩ := text_reads hra hwd3
 cases had9
 have halwd3 : 3 < args.length := (List.getElem?_eq_some_iff.1 hwd3).1
 refine rL (sl_box (L := [vP v, .slice (some ⟨ab, ao, none⟩) args.length ac]) tV (wn rfl) rfl rfl hv (fun w => by kernel_rfl) (fun b2 w3 hv => ?_))
 simp only [zP, po]
 refine sl_alloc tV (wn rfl) rfl hv j1al28 (fun b4 w5 hv => ?_)
 refine uW k1 (sK fun _ k6 => ?_)
 refine rW mixed [] [0,1,2,3,4,5,6,7,8,9,10,11,12,13,14] 76 rfl (by kernel_rfl) hv ?_
 simp only [qm, opAt]
 refine dG (.pointer (some ⟨b2, 1, none⟩)) rfl (ex_field rfl rfl (j1fa74_1 _ _ _)) (dL _ rfl (fun hv => ex_load rfl rfl (run_load1 s1na22 (hv.load 1 1 rfl rfl))) ?_)
 refine dG (.pointer (some ⟨ab, ao + 0, none⟩)) rfl (ex_index rfl rfl rfl (run_idx1 (k := 0) Tryz.underlying22 s9es22 (by omega))) ?_
 simp only [zP, po]
 refine dL _ rfl (fun hv => ex_load rfl rfl (run_load1 s9na9 (hrdkey _ _ _ (Base.Le.refl _) no_res hv 0 _ rfl))) (dG (.pointer (some ⟨b2, 1, none⟩)) rfl (ex_field rfl rfl (j1fa74_1 _ _ _)) ?_)
 refine dL _ rfl (fun hv => ex_load rfl rfl (run_load1 s1na22 (hv.load 1 1 rfl rfl))) ?_
 simp only [zP, po]
 refine dG (.pointer (some ⟨ab, ao + 2, none⟩)) rfl (ex_index rfl rfl rfl (run_idx1 (k := 2) Tryz.underlying22 s9es22 (by omega))) (dL _ rfl (fun hv => ex_load rfl rfl (run_load1 s9na9 (hrdwd2 _ _ _ (Base.Le.refl _) no_res hv 0 _ rfl))) ?_)
 refine dG (.pointer (some ⟨b2, 1, none⟩)) rfl (ex_field rfl rfl (j1fa74_1 _ _ _)) ?_
 simp only [zP, po]
 refine dL _ rfl (fun hv => ex_load rfl rfl (run_load1 s1na22 (hv.load 1 1 rfl rfl))) (dG (.pointer (some ⟨ab, ao + 3, none⟩)) rfl (ex_index rfl rfl rfl (run_idx1 (k := 3) Tryz.underlying22 s9es22 (by omega))) ?_)
 refine dL _ rfl (fun hv => ex_load rfl rfl (run_load1 s9na9 (hrdwd3 _ _ _ (Base.Le.refl _) no_res hv 0 _ rfl))) ?_
 simp only [zP, po]
 refine dA (vS key) rfl (dA (vS wd2) rfl ?_)
 refine dA (vS wd3) rfl (dE fun w7 hv => ?_)
 simp only [zP, po]
 refine tK k6 (sK fun _ k8 => ?_)
 refine rL (uF (.pointer (some ⟨b2, 1, none⟩)) rfl (j1fa74_1 _ _ _) ?_)
 refine uL _ rfl (run_load1 s1na22 (hv.load 1 1 rfl rfl)) ?_
 refine uG (.pointer (some ⟨ab, ao + 1, none⟩)) rfl (ex_index rfl rfl rfl (run_idx1 (k := 1) Tryz.underlying22 s9es22 (by omega))) ?_
 refine uL _ rfl (run_load1 s9na9 (hrdwd1 _ _ _ (Base.Le.refl _) no_res hv 0 _ rfl)) ?_
 refine sl_rowN (pv := #[(0, vS [66, 69, 70, 79, 82, 69]), (1, vS [65, 70, 84, 69, 82])]) (L := [vS [66, 69, 70, 79, 82, 69], vS [65, 70, 84, 69, 82]]) (e := 9) tV (wn rfl) rfl (by simp only [List.map_toArray, List.map_cons, List.map_nil]; rfl) hv (fun w => by kernel_rfl) (fun b9 w10 hv => ?_)
 simp only [zP, po]
 obtain ⟨K11, hK11, hv, hrkK11, hokK11, -⟩ := (hv.cellRow (n := 2) (c := 2) (size := 1) rfl (by decide) (by decide)).rowBy
 refine xC j1callable44 rfl ((viewIs K11 _ _ wd1 _ 2 [([66, 69, 70, 79, 82, 69] : List UInt8), ([65, 70, 84, 69, 82] : List UInt8)] hrkK11 (Nat.le_of_ble_eq_true rfl) (hxl wd1 (List.mem_of_getElem? hwd1)) hv).mono ?_) rfl
 rintro e w14 ⟨ri12, rfl, his13, hv⟩
 refine ⟨_, rfl, uA rfl ?_⟩
 refine uW k8 (sK fun _ k15 => ?_)
 refine sK fun _ k16 => rL (uM rfl ?_)
 by_cases hb17 : ri12 < 0
 ·refine uG (.bool true) rfl (ex_lss rfl rfl rfl (qT hb17)) (uW k16 ?_)
  refine cT rfl (sK fun _ k18 => ?_)
  refine rL (xC rscallable25 rfl ((viewWrong K11 _ _ 42 hv).mono ?_) rfl)
  rintro e w20 ⟨s19, rfl, hv⟩
  refine ⟨_, rfl, ?_⟩
  simp only [zP, po]
  refine xS 0 rfl hv rssz28 rfl (by exact ⟨rfl, rfl, rfl, rfl, trivial⟩) (fun w21 hv => ?_)
  simp only [zO, sp] at hv
  refine uW k18 (rR ?_)
  refine tR (bC 0 rswd28 hv rfl rfl rfl rfl ?_)
  exact ⟨K11, es, M, (.mk 1 s19 0 []), _, hK11, rfl, rpAt_leaf, hM.more hK11, ⟨hO, fun _ => rfl⟩, (hv.kp [3, 3] 2 2)⟩
 refine uG (.bool false) rfl (ex_lss rfl rfl rfl (qF hb17)) (uW k16 ?_)
 refine cF rfl (kS ?_)
 refine tK k15 (sK fun _ k22 => ?_)
 refine rL (uF (vP b2) rfl (j1fa74_0 _ _ _) ?_)
 refine uL _ rfl (run_load1 j1na24 (hv.load 1 0 rfl rfl)) (uM rfl ?_)
 replace hv := hv.front 3 rfl
 simp only [eS, eZ] at hv
 replace hv := hv.front 3 rfl
 simp only [eS, eZ] at hv
 refine xC j1callable41 rfl ((viewOf K11 _ _ v t m s p wb va vc sv clk es M key 3 (hM.more hK11) hv).mono ?_) rfl
 rintro e w23 ⟨C, y, yp, yt, yz, ec, hC, rfl, hyv, hof, hv⟩
 refine ⟨_, rfl, ?_⟩
 obtain ⟨pa, pc, sa, sc, za, zc, rfl, rfl, rfl, hokp, hrp, hoks, hrs, hokz, hrz⟩ := valAt_open hyv
 refine uM rfl (uE rfl ?_)
 refine uE rfl ?_
 refine sl_alloc tV (wn rfl) rfl hv j1al85 (fun b24 w25 hv => ?_)
 simp only [zP, po]
 refine xS 0 rfl hv x0sz85 rfl (by exact ⟨rfl, rfl, rfl, rfl, rfl, rfl, rfl, rfl, trivial⟩) (fun w26 hv => ?_)
 simp only [zO, sp] at hv
 refine uA rfl (uW k22 ?_)
 refine sK fun _ k27 => sK fun _ k28 => rL (uM rfl ?_)
 by_cases hb29 : ec ≠ 0
 ·refine uG (.bool true) rfl (ex_neq rfl rfl rfl (qT hb29)) (uW k28 ?_)
  refine cT rfl (sK fun _ k30 => ?_)
  refine rL (uM rfl ?_)
  refine xC rscallable25 rfl ((viewWrong C _ _ ec hv).mono ?_) rfl
  rintro e w32 ⟨s31, rfl, hv⟩
  refine ⟨_, rfl, ?_⟩
  simp only [zP, po]
  refine xS 3 rfl hv rssz28 rfl (by exact ⟨rfl, rfl, rfl, rfl, trivial⟩) (fun w33 hv => ?_)
  simp only [zS, zO, sp] at hv
  refine uW k30 (rR ?_)
  refine tR (bC 3 rswd28 hv rfl rfl rfl rfl ?_)
  exact ⟨C, es, M, (.mk 1 s31 0 []), _, (hK11.trans hC), rfl, rpAt_leaf, hM.more (hK11.trans hC), ⟨hO, fun _ => rfl⟩, (hv.kp [2, 2] 2 3)⟩
 refine uG (.bool false) rfl (ex_neq rfl rfl rfl (qF hb29)) (uW k28 ?_)
 refine cF rfl (kS ?_)
 refine tK k27 (sK fun _ k34 => ?_)
 refine sK fun _ k35 => rL (uF (.pointer (some ⟨b24, 3, none⟩)) rfl (x2fa85_3 _ _ _) ?_)
 refine uF (.pointer (some ⟨b24, 3, none⟩)) rfl (s12fa78_0 _ _ _) ?_
 refine uL _ rfl (run_load1 s2na3 (hv.load 0 3 rfl rfl)) ?_
 by_cases hb36 : y.val.kind ≠ 3
 ·refine uG (.bool true) rfl (ex_neq rfl rfl rfl (qT hb36)) (uW k35 ?_)
  refine cT rfl (sK fun _ k37 => ?_)
  refine rL (xC j1callable43 rfl ((respInt C _ _ 0 hv).mono ?_) rfl)
  rintro e w38 ⟨rfl, hv⟩
  refine ⟨_, rfl, ?_⟩
  simp only [zP, po]
  refine xS 3 rfl hv rssz28 rfl (by exact ⟨rfl, rfl, rfl, rfl, trivial⟩) (fun w39 hv => ?_)
  simp only [zS, zO, sp] at hv
  refine uW k37 (rR ?_)
  refine tR (bC 3 rswd28 hv rfl rfl rfl rfl ?_)
  exact ⟨C, es, M, (.mk 2 ([] : List UInt8) 0 []), _, (hK11.trans hC), rfl, rpAt_leaf, hM.more (hK11.trans hC), ⟨hO, fun _ => rfl⟩, (hv.kp [2, 2] 2 3)⟩
 refine uG (.bool false) rfl (ex_neq rfl rfl rfl (qF hb36)) (uW k35 ?_)
 refine cF rfl (kS ?_)
 refine tK k34 (sK fun _ k40 => ?_)
 refine rL (uF (.pointer (some ⟨b24, 3, none⟩)) rfl (x2fa85_3 _ _ _) ?_)
 refine uF (.pointer (some ⟨b24, 6, none⟩)) rfl (s1fa78_3 _ _ _) ?_
 refine uL _ rfl (run_load1 s1na22 (hv.load 0 6 rfl rfl)) (uM rfl ?_)
 by_cases hb41 : ri12 = 0
 ·refine uG (.bool true) rfl (ex_eql rfl rfl rfl (qT hb41)) (uM rfl ?_)
  refine uM rfl ?_
  refine xC j1callable70 rfl ((listInsert C _ _ sa sc y.val.texts hoks hrs hyv.tm _ wd2 wd3 hv).mono ?_) rfl
  rintro e w42 ⟨D, oa, oc, out, iok, e2, hD, rfl, hoko, hro, hol, hv⟩
  refine ⟨_, rfl, uM rfl ?_⟩
  refine uE rfl (uE rfl ?_)
  refine uE rfl (uA rfl ?_)
  refine uA rfl (uA rfl ?_)
  refine uW k40 (sK fun _ k43 => ?_)
  refine sK fun _ k44 => rL (uM rfl ?_)
  by_cases hb45 : e2 ≠ 0
  ·refine uG (.bool true) rfl (ex_neq rfl rfl rfl (qT hb45)) (uW k44 ?_)
   refine cT rfl (sK fun _ k46 => ?_)
   refine rL (uM rfl ?_)
   refine xC rscallable25 rfl ((viewWrong D _ _ e2 hv).mono ?_) rfl
   rintro e w48 ⟨s47, rfl, hv⟩
   refine ⟨_, rfl, ?_⟩
   simp only [zP, po]
   refine xS 3 rfl hv rssz28 rfl (by exact ⟨rfl, rfl, rfl, rfl, trivial⟩) (fun w49 hv => ?_)
   simp only [zS, zO, sp] at hv
   refine uW k46 (rR ?_)
   refine tR (bC 3 rswd28 hv rfl rfl rfl rfl ?_)
   exact ⟨D, es, M, (.mk 1 s47 0 []), _, ((hK11.trans hC).trans hD), rfl, rpAt_leaf, hM.more ((hK11.trans hC).trans hD), ⟨hO, fun _ => rfl⟩, (hv.kp [2, 2] 2 3)⟩
  refine uG (.bool false) rfl (ex_neq rfl rfl rfl (qF hb45)) (uW k44 ?_)
  refine cF rfl (kS ?_)
  refine tK k43 (sK fun _ k50 => ?_)
  refine sK fun _ k51 => rL (uM rfl ?_)
  refine uG (.bool (!iok)) rfl (ex_not rfl rfl rfl) (uW k51 ?_)
  refine wpIn_cond_split (t := !iok) rfl (fun hc52 => ?_) (fun hc52 => ?_)
  ·refine sK fun _ k53 => rL (xC j1callable43 rfl ((respInt D _ _ (-1) hv).mono ?_) rfl)
   rintro e w54 ⟨rfl, hv⟩
   refine ⟨_, rfl, ?_⟩
   simp only [zP, po]
   refine xS 3 rfl hv rssz28 rfl (by exact ⟨rfl, rfl, rfl, rfl, trivial⟩) (fun w55 hv => ?_)
   simp only [zS, zO, sp] at hv
   refine uW k53 (rR ?_)
   refine tR (bC 3 rswd28 hv rfl rfl rfl rfl ?_)
   exact ⟨D, es, M, (.mk 2 ([] : List UInt8) (-1) []), _, ((hK11.trans hC).trans hD), rfl, rpAt_leaf, hM.more ((hK11.trans hC).trans hD), ⟨hO, fun _ => rfl⟩, (hv.kp [2, 2] 2 3)⟩
  refine kS (tK k50 ?_)
  refine sK fun _ k56 => rL (uL (.agg #[vP v, .slice (some ⟨ab, ao, none⟩) args.length ac]) rfl (lM 4 j1wd74 hv rfl rfl rfl rfl) ?_)
  refine uM rfl ?_
  refine uL (.agg #[vI y.stamp, .bool y.gone, vI y.expire, vI y.val.kind, vS y.val.text, .slice pa y.val.pairs.length pc, .slice sa y.val.texts.length sc, .slice za y.val.zset.length zc]) rfl (lM 0 x0wd85 hv rfl rfl rfl rfl) (uM rfl ?_)
  replace hv := hv.front 2 rfl
  simp only [eS, eZ] at hv
  replace hv := hv.front 2 rfl
  simp only [eS, eZ] at hv
  refine xC j1callable71 rfl ((clistKeep D _ _ v t m s p wb va vc sv clk es M (hM.more ((hK11.trans hC).trans hD)) (some ⟨ab, ao, none⟩) args.length ac key _ _ y.expire _ _ _ _ _ _ _ _ _ _ _ oa oc out (hro.more (Base.Le.refl _) (fun _ h => h)) hoko (hol) hv).mono ?_) rfl
  rintro e w63 ⟨G58, es62, Mk61, e57, hG58, rfl, hMk60, hkp59, hv⟩
  refine ⟨_, rfl, uM rfl ?_⟩
  refine uG (vI (out.length : Int)) rfl (ex_len0 Tryz.underlying22 rfl rfl) ?_
  refine xC j1callable43 rfl ((respInt G58 _ _ (out.length : Int) hv).mono ?_) rfl
  rintro e w64 ⟨rfl, hv⟩
  refine ⟨_, rfl, ?_⟩
  simp only [zP, po]
  refine xC j1callable42 rfl ((viewDone G58 _ _ e57 2 (out.length : Int) ([] : List UInt8) (vN) rfl rfl hv).mono ?_) rfl
  rintro e w65 ⟨xr, hxr, rfl, hv⟩
  refine ⟨_, rfl, ?_⟩
  rcases hxr with ⟨hec0, rfl⟩ | ⟨hec0, s66, rfl⟩
  ·simp only [zP, po]
   refine xS 3 rfl hv rssz28 rfl (by exact ⟨rfl, rfl, rfl, rfl, trivial⟩) (fun w67 hv => ?_)
   simp only [zS, zO, sp] at hv
   refine uW k56 (rR ?_)
   refine bC 3 rswd28 hv rfl rfl rfl rfl (⟨G58, es62, Mk61, (.mk 2 ([] : List UInt8) (out.length : Int) []), _, (((hK11.trans hC).trans hD).trans hG58), rfl, rpAt_leaf, hMk60.more (Base.Le.refl _), DoneR.keep (r0 := (.mk 2 ([] : List UInt8) (out.length : Int) [])) hO hkp59 (.inl ⟨by omega, rfl⟩) (fun h9 => absurd (show (2 : Int) = 1 from h9) (by decide)), (hv.kp [1, 1] 2 3)⟩)
  simp only [zP, po]
  refine xS 3 rfl hv rssz28 rfl (by exact ⟨rfl, rfl, rfl, rfl, trivial⟩) (fun w68 hv => ?_)
  simp only [zS, zO, sp] at hv
  refine uW k56 (rR ?_)
  refine bC 3 rswd28 hv rfl rfl rfl rfl (⟨G58, es62, Mk61, (.mk 1 s66 0 []), _, (((hK11.trans hC).trans hD).trans hG58), rfl, rpAt_leaf, hMk60.more (Base.Le.refl _), DoneR.keep (r0 := (.mk 2 ([] : List UInt8) (out.length : Int) [])) hO hkp59 (.inr ⟨by omega, rfl⟩) (fun h9 => absurd (show (2 : Int) = 1 from h9) (by decide)), (hv.kp [1, 1] 2 3)⟩)
 refine uG (.bool false) rfl (ex_eql rfl rfl rfl (qF hb41)) (uM rfl ?_)
 refine uM rfl ?_
 refine xC j1callable70 rfl ((listInsert C _ _ sa sc y.val.texts hoks hrs hyv.tm _ wd2 wd3 hv).mono ?_) rfl
 rintro e w69 ⟨D, oa, oc, out, iok, e2, hD, rfl, hoko, hro, hol, hv⟩
 refine ⟨_, rfl, uM rfl ?_⟩
 refine uE rfl (uE rfl ?_)
 refine uE rfl (uA rfl ?_)
 refine uA rfl (uA rfl ?_)
 refine uW k40 (sK fun _ k70 => ?_)
 refine sK fun _ k71 => rL (uM rfl ?_)
 by_cases hb72 : e2 ≠ 0
 ·refine uG (.bool true) rfl (ex_neq rfl rfl rfl (qT hb72)) (uW k71 ?_)
  refine cT rfl (sK fun _ k73 => ?_)
  refine rL (uM rfl ?_)
  refine xC rscallable25 rfl ((viewWrong D _ _ e2 hv).mono ?_) rfl
  rintro e w75 ⟨s74, rfl, hv⟩
  refine ⟨_, rfl, ?_⟩
  simp only [zP, po]
  refine xS 3 rfl hv rssz28 rfl (by exact ⟨rfl, rfl, rfl, rfl, trivial⟩) (fun w76 hv => ?_)
  simp only [zS, zO, sp] at hv
  refine uW k73 (rR ?_)
  refine tR (bC 3 rswd28 hv rfl rfl rfl rfl ?_)
  exact ⟨D, es, M, (.mk 1 s74 0 []), _, ((hK11.trans hC).trans hD), rfl, rpAt_leaf, hM.more ((hK11.trans hC).trans hD), ⟨hO, fun _ => rfl⟩, (hv.kp [2, 2] 2 3)⟩
 refine uG (.bool false) rfl (ex_neq rfl rfl rfl (qF hb72)) (uW k71 ?_)
 refine cF rfl (kS ?_)
 refine tK k70 (sK fun _ k77 => ?_)
 refine sK fun _ k78 => rL (uM rfl ?_)
 refine uG (.bool (!iok)) rfl (ex_not rfl rfl rfl) (uW k78 ?_)
 refine wpIn_cond_split (t := !iok) rfl (fun hc79 => ?_) (fun hc79 => ?_)
 ·refine sK fun _ k80 => rL (xC j1callable43 rfl ((respInt D _ _ (-1) hv).mono ?_) rfl)
  rintro e w81 ⟨rfl, hv⟩
  refine ⟨_, rfl, ?_⟩
  simp only [zP, po]
  refine xS 3 rfl hv rssz28 rfl (by exact ⟨rfl, rfl, rfl, rfl, trivial⟩) (fun w82 hv => ?_)
  simp only [zS, zO, sp] at hv
  refine uW k80 (rR ?_)
  refine tR (bC 3 rswd28 hv rfl rfl rfl rfl ?_)
  exact ⟨D, es, M, (.mk 2 ([] : List UInt8) (-1) []), _, ((hK11.trans hC).trans hD), rfl, rpAt_leaf, hM.more ((hK11.trans hC).trans hD), ⟨hO, fun _ => rfl⟩, (hv.kp [2, 2] 2 3)⟩
 refine kS (tK k77 ?_)
 refine sK fun _ k83 => rL (uL (.agg #[vP v, .slice (some ⟨ab, ao, none⟩) args.length ac]) rfl (lM 4 j1wd74 hv rfl rfl rfl rfl) ?_)
 refine uM rfl ?_
 refine uL (.agg #[vI y.stamp, .bool y.gone, vI y.expire, vI y.val.kind, vS y.val.text, .slice pa y.val.pairs.length pc, .slice sa y.val.texts.length sc, .slice za y.val.zset.length zc]) rfl (lM 0 x0wd85 hv rfl rfl rfl rfl) (uM rfl ?_)
 replace hv := hv.front 2 rfl
 simp only [eS, eZ] at hv
 replace hv := hv.front 2 rfl
 simp only [eS, eZ] at hv
 refine xC j1callable71 rfl ((clistKeep D _ _ v t m s p wb va vc sv clk es M (hM.more ((hK11.trans hC).trans hD)) (some ⟨ab, ao, none⟩) args.length ac key _ _ y.expire _ _ _ _ _ _ _ _ _ _ _ oa oc out (hro.more (Base.Le.refl _) (fun _ h => h)) hoko (hol) hv).mono ?_) rfl
 rintro e w90 ⟨G85, es89, Mk88, e84, hG85, rfl, hMk87, hkp86, hv⟩
 refine ⟨_, rfl, uM rfl ?_⟩
 refine uG (vI (out.length : Int)) rfl (ex_len0 Tryz.underlying22 rfl rfl) ?_
 refine xC j1callable43 rfl ((respInt G85 _ _ (out.length : Int) hv).mono ?_) rfl
 rintro e w91 ⟨rfl, hv⟩
 refine ⟨_, rfl, ?_⟩
 simp only [zP, po]
 refine xC j1callable42 rfl ((viewDone G85 _ _ e84 2 (out.length : Int) ([] : List UInt8) (vN) rfl rfl hv).mono ?_) rfl
 rintro e w92 ⟨xr, hxr, rfl, hv⟩
 refine ⟨_, rfl, ?_⟩
 rcases hxr with ⟨hec0, rfl⟩ | ⟨hec0, s93, rfl⟩
 ·simp only [zP, po]
  refine xS 3 rfl hv rssz28 rfl (by exact ⟨rfl, rfl, rfl, rfl, trivial⟩) (fun w94 hv => ?_)
  simp only [zS, zO, sp] at hv
  refine uW k83 (rR ?_)
  refine bC 3 rswd28 hv rfl rfl rfl rfl (⟨G85, es89, Mk88, (.mk 2 ([] : List UInt8) (out.length : Int) []), _, (((hK11.trans hC).trans hD).trans hG85), rfl, rpAt_leaf, hMk87.more (Base.Le.refl _), DoneR.keep (r0 := (.mk 2 ([] : List UInt8) (out.length : Int) [])) hO hkp86 (.inl ⟨by omega, rfl⟩) (fun h9 => absurd (show (2 : Int) = 1 from h9) (by decide)), (hv.kp [1, 1] 2 3)⟩)
 simp only [zP, po]
 refine xS 3 rfl hv rssz28 rfl (by exact ⟨rfl, rfl, rfl, rfl, trivial⟩) (fun w95 hv => ?_)
 simp only [zS, zO, sp] at hv
 refine uW k83 (rR ?_)
 refine bC 3 rswd28 hv rfl rfl rfl rfl (⟨G85, es89, Mk88, (.mk 1 s93 0 []), _, (((hK11.trans hC).trans hD).trans hG85), rfl, rpAt_leaf, hMk87.more (Base.Le.refl _), DoneR.keep (r0 := (.mk 2 ([] : List UInt8) (out.length : Int) [])) hO hkp86 (.inr ⟨by omega, rfl⟩) (fun h9 => absurd (show (2 : Int) = 1 from h9) (by decide)), (hv.kp [1, 1] 2 3)⟩)
theorem pop_one {l : Tx} {fr : Bool} (h : popG l fr 1 ≠ []) : ∃ g, popG l fr 1 = [g] := by
 have h1 : (popG l fr 1).length ≤ 1 := by
  unfold popG popN
  split
  ·rw [List.length_take]; omega
  rw [List.length_reverse, List.length_drop]; omega
 match hp : popG l fr 1, h, h1 with
 | [g], _, _ => exact ⟨g, rfl⟩
 | [], h, _ => exact absurd rfl h
 | _ :: _ :: _, _, h1 => simp at h1
theorem popL_le {l : Tx} {fr : Bool} {n : Int} : (popL l fr n).length ≤ l.length := by
 unfold popL
 split
 ·rw [List.length_drop]; omega
 rw [List.length_take]; omega
theorem popG_le {l : Tx} {fr : Bool} {n : Int} : (popG l fr n).length ≤ l.length := by
 unfold popG popN
 split
 ·rw [List.length_take]; omega
 rw [List.length_reverse, List.length_drop]; omega
theorem push_le {l ss out : Tx} {front : Bool} {ec : Int} (h : PushI l front ss out ec) : out.length ≤ 1000000 := by
 rcases h with ⟨-, h9, -⟩ | ⟨-, -, h9, h8⟩
 ·rw [h9]; exact Nat.zero_le _
 rw [h8]; split <;> simp only [List.length_append, List.length_reverse] <;> omega
theorem j2al28 : AL Tryz.prog 28 [vI 0, vS [], vI 0, vN] := fun w => by kernel_rfl
theorem j2al85 : AL Tryz.prog 85 [vI 0, .bool false, vI 0, vI 0, vS [], vN, vN, vN] := fun w => by kernel_rfl
theorem j2callable75 : Callable Tryz.prog 75 := cb Tryz.func75 (by kernel_rfl)
theorem clistPush (B : Base) (H : List Res) (w : World) (v t m s p wb : Nat) (va : Option Addr) (vc : Nat) (sv : Value) (clk : Int) (es : List (List UInt8 × Value)) (M : List (List UInt8 × Ver)) (hM : VM B es M) (hO : OkM M) (aa : Option Addr) (an ac : Nat) (key : List UInt8) (front there : Bool) (xa : Option Addr) (xc : Nat) (xs : Tx) (hokx : SliceOk xa xs.length xc) (hrx : RdV B [] xa (textCells xs)) (hmx : xs.length ≤ 10000) (hv : Inv B (Res.cell v [.iface 62 (vP t)] 36 :: txR t m s p wb va vc sv clk es :: H) w) :
  Calls Tryz.prog 49 #[.agg #[vP v, .slice aa an ac], vS key, .bool front, .bool there, .slice xa xs.length xc] w fun e w' => ∃ C es' M' r cs, B.Le C ∧ e = .returned (.agg cs.toArray) ∧ RpAt C r cs ∧ VM C es' M' ∧ (OkM M' ∧ LPushR M clk key front there xs M' r) ∧ Inv C (Res.cell v [.iface 62 (vP t)] 36 :: txR t m s p wb va vc sv clk es' :: H) w' := by
 refine cW Tryz.func49 rfl Tryz.ntmps49 ?_
 simp only [al]
 refine sK fun _ k1 => rL (sl_box (L := [vP v, .slice aa an ac]) tV (wn rfl) rfl rfl hv (fun w => by kernel_rfl) (fun b2 w3 hv => ?_))
 refine sl_alloc tV (wn rfl) rfl hv j2al28 (fun b4 w5 hv => ?_)
 refine uW k1 (sK fun _ k6 => ?_)
 refine rL (uF (vP b2) rfl (j1fa74_0 _ _ _) ?_)
 refine uL _ rfl (run_load1 j1na24 (hv.load 1 0 rfl rfl)) (uM rfl ?_)
 replace hv := hv.front 3 rfl
 simp only [eS, eZ] at hv
 replace hv := hv.front 3 rfl
 simp only [eS, eZ] at hv
 refine xC j1callable41 rfl ((viewOf B _ _ v t m s p wb va vc sv clk es M key 3 (hM.more (Base.Le.refl _)) hv).mono ?_) rfl
 rintro e w7 ⟨C, y, yp, yt, yz, ec, hC, rfl, hyv, hof, hv⟩
 refine ⟨_, rfl, ?_⟩
 obtain ⟨pa, pc, sa, sc, za, zc, rfl, rfl, rfl, hokp, hrp, hoks, hrs, hokz, hrz⟩ := valAt_open hyv
 refine uM rfl (uE rfl ?_)
 refine uE rfl ?_
 refine sl_alloc tV (wn rfl) rfl hv j2al85 (fun b8 w9 hv => ?_)
 refine xS 0 rfl hv x0sz85 rfl (by exact ⟨rfl, rfl, rfl, rfl, rfl, rfl, rfl, rfl, trivial⟩) (fun w10 hv => ?_)
 simp only [zO, sp] at hv
 refine uA rfl (uW k6 ?_)
 refine sK fun _ k11 => sK fun _ k12 => rL (uM rfl ?_)
 by_cases hb13 : ec ≠ 0
 ·refine uG (.bool true) rfl (ex_neq rfl rfl rfl (qT hb13)) (uW k12 ?_)
  refine cT rfl (sK fun _ k14 => ?_)
  refine rL (uM rfl ?_)
  refine xC rscallable25 rfl ((viewWrong C _ _ ec hv).mono ?_) rfl
  rintro e w16 ⟨s15, rfl, hv⟩
  refine ⟨_, rfl, ?_⟩
  refine xS 3 rfl hv rssz28 rfl (by exact ⟨rfl, rfl, rfl, rfl, trivial⟩) (fun w17 hv => ?_)
  simp only [zS, zO, sp] at hv
  refine uW k14 (rR ?_)
  refine tR (bC 3 rswd28 hv rfl rfl rfl rfl ?_)
  exact ⟨C, es, M, (.mk 1 s15 0 []), _, hC, rfl, rpAt_leaf, hM.more hC, ⟨hO, y, ec, hof, .inl ⟨hb13, rfl, rfl⟩⟩, (hv.kp [2, 2] 2 3)⟩
 refine uG (.bool false) rfl (ex_neq rfl rfl rfl (qF hb13)) (uW k12 ?_)
 refine cF rfl (kS ?_)
 refine tK k11 (sK fun _ k18 => ?_)
 refine sK fun _ k19 => rL (uM rfl ?_)
 refine uM rfl ?_
 cases there
 ·iterate 4 refine uP rfl ?_
  refine uK rfl (uW k19 ?_)
  refine cF rfl (kS ?_)
  refine tK k18 (sK fun _ k20 => ?_)
  refine rL (uF (.pointer (some ⟨b8, 3, none⟩)) rfl (x2fa85_3 _ _ _) ?_)
  refine uF (.pointer (some ⟨b8, 6, none⟩)) rfl (s1fa78_3 _ _ _) ?_
  refine uL _ rfl (run_load1 s1na22 (hv.load 0 6 rfl rfl)) (uM rfl ?_)
  refine uM rfl ?_
  refine xC j2callable75 rfl ((listPush C _ _ sa sc y.val.texts hoks hrs hyv.tm front xa xc xs hokx (hrx.more hC (fun _ h => h)) (by omega) hv).mono ?_) rfl
  rintro e w21 ⟨D, oa, oc, out, e2, hD, rfl, hoko, hro, hpu, hv⟩
  refine ⟨_, rfl, uM rfl ?_⟩
  refine uE rfl (uE rfl ?_)
  refine uA rfl (uA rfl ?_)
  refine uW k20 (sK fun _ k22 => ?_)
  refine sK fun _ k23 => rL (uM rfl ?_)
  by_cases hb24 : e2 ≠ 0
  ·refine uG (.bool true) rfl (ex_neq rfl rfl rfl (qT hb24)) (uW k23 ?_)
   refine cT rfl (sK fun _ k25 => ?_)
   refine rL (uM rfl ?_)
   refine xC rscallable25 rfl ((viewWrong D _ _ e2 hv).mono ?_) rfl
   rintro e w27 ⟨s26, rfl, hv⟩
   refine ⟨_, rfl, ?_⟩
   refine xS 3 rfl hv rssz28 rfl (by exact ⟨rfl, rfl, rfl, rfl, trivial⟩) (fun w28 hv => ?_)
   simp only [zS, zO, sp] at hv
   refine uW k25 (rR ?_)
   refine tR (bC 3 rswd28 hv rfl rfl rfl rfl ?_)
   exact ⟨D, es, M, (.mk 1 s26 0 []), _, (hC.trans hD), rfl, rpAt_leaf, hM.more (hC.trans hD), ⟨hO, y, ec, hof, .inr ⟨by omega, .inr ⟨fun h9 => (by cases h9.1), out, e2, hpu, .inl ⟨hb24, rfl, rfl⟩⟩⟩⟩, (hv.kp [2, 2] 2 3)⟩
  refine uG (.bool false) rfl (ex_neq rfl rfl rfl (qF hb24)) (uW k23 ?_)
  refine cF rfl (kS ?_)
  refine tK k22 (sK fun _ k29 => ?_)
  refine rL (uL (.agg #[vP v, .slice aa an ac]) rfl (lM 4 j1wd74 hv rfl rfl rfl rfl) ?_)
  refine uM rfl ?_
  refine uL (.agg #[vI y.stamp, .bool y.gone, vI y.expire, vI y.val.kind, vS y.val.text, .slice pa y.val.pairs.length pc, .slice sa y.val.texts.length sc, .slice za y.val.zset.length zc]) rfl (lM 0 x0wd85 hv rfl rfl rfl rfl) (uM rfl ?_)
  replace hv := hv.front 2 rfl
  simp only [eS, eZ] at hv
  replace hv := hv.front 2 rfl
  simp only [eS, eZ] at hv
  refine xC j1callable71 rfl ((clistKeep D _ _ v t m s p wb va vc sv clk es M (hM.more (hC.trans hD)) aa an ac key _ _ y.expire _ _ _ _ _ _ _ _ _ _ _ oa oc out (hro.more (Base.Le.refl _) (fun _ h => h)) hoko (push_le hpu) hv).mono ?_) rfl
  rintro e w36 ⟨G31, es35, Mk34, e30, hG31, rfl, hMk33, hkp32, hv⟩
  refine ⟨_, rfl, uM rfl ?_⟩
  refine uG (vI (out.length : Int)) rfl (ex_len0 Tryz.underlying22 rfl rfl) ?_
  refine xC j1callable43 rfl ((respInt G31 _ _ (out.length : Int) hv).mono ?_) rfl
  rintro e w37 ⟨rfl, hv⟩
  refine ⟨_, rfl, ?_⟩
  refine xC j1callable42 rfl ((viewDone G31 _ _ e30 2 (out.length : Int) ([] : List UInt8) (vN) rfl rfl hv).mono ?_) rfl
  rintro e w38 ⟨xr, hxr, rfl, hv⟩
  refine ⟨_, rfl, ?_⟩
  rcases hxr with ⟨hec0, rfl⟩ | ⟨hec0, s39, rfl⟩
  ·simp only [zP, po]
   refine xS 3 rfl hv rssz28 rfl (by exact ⟨rfl, rfl, rfl, rfl, trivial⟩) (fun w40 hv => ?_)
   simp only [zS, zO, sp] at hv
   refine uW k29 (rR ?_)
   refine bC 3 rswd28 hv rfl rfl rfl rfl (⟨G31, es35, Mk34, (.mk 2 ([] : List UInt8) (out.length : Int) []), _, ((hC.trans hD).trans hG31), rfl, rpAt_leaf, hMk33.more (Base.Le.refl _), ⟨hO.keep hkp32, y, ec, hof, .inr ⟨by omega, .inr ⟨fun h9 => (by cases h9.1), out, e2, hpu, .inr ⟨by omega, e30, hkp32, .inl ⟨by omega, rfl⟩⟩⟩⟩⟩, (hv.kp [1, 1] 2 3)⟩)
  simp only [zP, po]
  refine xS 3 rfl hv rssz28 rfl (by exact ⟨rfl, rfl, rfl, rfl, trivial⟩) (fun w41 hv => ?_)
  simp only [zS, zO, sp] at hv
  refine uW k29 (rR ?_)
  refine bC 3 rswd28 hv rfl rfl rfl rfl (⟨G31, es35, Mk34, (.mk 1 s39 0 []), _, ((hC.trans hD).trans hG31), rfl, rpAt_leaf, hMk33.more (Base.Le.refl _), ⟨hO.keep hkp32, y, ec, hof, .inr ⟨by omega, .inr ⟨fun h9 => (by cases h9.1), out, e2, hpu, .inr ⟨by omega, e30, hkp32, .inr ⟨by omega, rfl⟩⟩⟩⟩⟩, (hv.kp [1, 1] 2 3)⟩)
 refine uF (.pointer (some ⟨b8, 3, none⟩)) rfl (x2fa85_3 _ _ _) ?_
 refine uF (.pointer (some ⟨b8, 3, none⟩)) rfl (s12fa78_0 _ _ _) ?_
 refine uL _ rfl (run_load1 s2na3 (hv.load 0 3 rfl rfl)) ?_
 by_cases hb42 : y.val.kind ≠ 3
 ·refine uG (.bool true) rfl (ex_neq rfl rfl rfl (qT hb42)) (uK rfl ?_)
  refine uW k19 (cT rfl ?_)
  refine sK fun _ k43 => rL (xC j1callable43 rfl ((respInt C _ _ 0 hv).mono ?_) rfl)
  rintro e w44 ⟨rfl, hv⟩
  refine ⟨_, rfl, ?_⟩
  refine xS 3 rfl hv rssz28 rfl (by exact ⟨rfl, rfl, rfl, rfl, trivial⟩) (fun w45 hv => ?_)
  simp only [zS, zO, sp] at hv
  refine uW k43 (rR ?_)
  refine tR (bC 3 rswd28 hv rfl rfl rfl rfl ?_)
  exact ⟨C, es, M, (.mk 2 ([] : List UInt8) 0 []), _, hC, rfl, rpAt_leaf, hM.more hC, ⟨hO, y, ec, hof, .inr ⟨by omega, .inl ⟨rfl, hb42, rfl, rfl⟩⟩⟩, (hv.kp [2, 2] 2 3)⟩
 refine uG (.bool false) rfl (ex_neq rfl rfl rfl (qF hb42)) (uK rfl ?_)
 refine uW k19 (cF rfl ?_)
 refine kS (tK k18 ?_)
 refine sK fun _ k46 => rL (uF (.pointer (some ⟨b8, 3, none⟩)) rfl (x2fa85_3 _ _ _) ?_)
 refine uF (.pointer (some ⟨b8, 6, none⟩)) rfl (s1fa78_3 _ _ _) ?_
 refine uL _ rfl (run_load1 s1na22 (hv.load 0 6 rfl rfl)) (uM rfl ?_)
 refine uM rfl ?_
 refine xC j2callable75 rfl ((listPush C _ _ sa sc y.val.texts hoks hrs hyv.tm front xa xc xs hokx (hrx.more hC (fun _ h => h)) (by omega) hv).mono ?_) rfl
 rintro e w47 ⟨D, oa, oc, out, e2, hD, rfl, hoko, hro, hpu, hv⟩
 refine ⟨_, rfl, uM rfl ?_⟩
 refine uE rfl (uE rfl ?_)
 refine uA rfl (uA rfl ?_)
 refine uW k46 (sK fun _ k48 => ?_)
 refine sK fun _ k49 => rL (uM rfl ?_)
 by_cases hb50 : e2 ≠ 0
 ·refine uG (.bool true) rfl (ex_neq rfl rfl rfl (qT hb50)) (uW k49 ?_)
  refine cT rfl (sK fun _ k51 => ?_)
  refine rL (uM rfl ?_)
  refine xC rscallable25 rfl ((viewWrong D _ _ e2 hv).mono ?_) rfl
  rintro e w53 ⟨s52, rfl, hv⟩
  refine ⟨_, rfl, ?_⟩
  refine xS 3 rfl hv rssz28 rfl (by exact ⟨rfl, rfl, rfl, rfl, trivial⟩) (fun w54 hv => ?_)
  simp only [zS, zO, sp] at hv
  refine uW k51 (rR ?_)
  refine tR (bC 3 rswd28 hv rfl rfl rfl rfl ?_)
  exact ⟨D, es, M, (.mk 1 s52 0 []), _, (hC.trans hD), rfl, rpAt_leaf, hM.more (hC.trans hD), ⟨hO, y, ec, hof, .inr ⟨by omega, .inr ⟨fun h9 => hb42 h9.2, out, e2, hpu, .inl ⟨hb50, rfl, rfl⟩⟩⟩⟩, (hv.kp [2, 2] 2 3)⟩
 refine uG (.bool false) rfl (ex_neq rfl rfl rfl (qF hb50)) (uW k49 ?_)
 refine cF rfl (kS ?_)
 refine tK k48 (sK fun _ k55 => ?_)
 refine rL (uL (.agg #[vP v, .slice aa an ac]) rfl (lM 4 j1wd74 hv rfl rfl rfl rfl) ?_)
 refine uM rfl ?_
 refine uL (.agg #[vI y.stamp, .bool y.gone, vI y.expire, vI y.val.kind, vS y.val.text, .slice pa y.val.pairs.length pc, .slice sa y.val.texts.length sc, .slice za y.val.zset.length zc]) rfl (lM 0 x0wd85 hv rfl rfl rfl rfl) (uM rfl ?_)
 replace hv := hv.front 2 rfl
 simp only [eS, eZ] at hv
 replace hv := hv.front 2 rfl
 simp only [eS, eZ] at hv
 refine xC j1callable71 rfl ((clistKeep D _ _ v t m s p wb va vc sv clk es M (hM.more (hC.trans hD)) aa an ac key _ _ y.expire _ _ _ _ _ _ _ _ _ _ _ oa oc out (hro.more (Base.Le.refl _) (fun _ h => h)) hoko (push_le hpu) hv).mono ?_) rfl
 rintro e w62 ⟨G57, es61, Mk60, e56, hG57, rfl, hMk59, hkp58, hv⟩
 refine ⟨_, rfl, uM rfl ?_⟩
 refine uG (vI (out.length : Int)) rfl (ex_len0 Tryz.underlying22 rfl rfl) ?_
 refine xC j1callable43 rfl ((respInt G57 _ _ (out.length : Int) hv).mono ?_) rfl
 rintro e w63 ⟨rfl, hv⟩
 refine ⟨_, rfl, ?_⟩
 refine xC j1callable42 rfl ((viewDone G57 _ _ e56 2 (out.length : Int) ([] : List UInt8) (vN) rfl rfl hv).mono ?_) rfl
 rintro e w64 ⟨xr, hxr, rfl, hv⟩
 refine ⟨_, rfl, ?_⟩
 rcases hxr with ⟨hec0, rfl⟩ | ⟨hec0, s65, rfl⟩
 ·simp only [zP, po]
  refine xS 3 rfl hv rssz28 rfl (by exact ⟨rfl, rfl, rfl, rfl, trivial⟩) (fun w66 hv => ?_)
  simp only [zS, zO, sp] at hv
  refine uW k55 (rR ?_)
  refine bC 3 rswd28 hv rfl rfl rfl rfl (⟨G57, es61, Mk60, (.mk 2 ([] : List UInt8) (out.length : Int) []), _, ((hC.trans hD).trans hG57), rfl, rpAt_leaf, hMk59.more (Base.Le.refl _), ⟨hO.keep hkp58, y, ec, hof, .inr ⟨by omega, .inr ⟨fun h9 => hb42 h9.2, out, e2, hpu, .inr ⟨by omega, e56, hkp58, .inl ⟨by omega, rfl⟩⟩⟩⟩⟩, (hv.kp [1, 1] 2 3)⟩)
 simp only [zP, po]
 refine xS 3 rfl hv rssz28 rfl (by exact ⟨rfl, rfl, rfl, rfl, trivial⟩) (fun w67 hv => ?_)
 simp only [zS, zO, sp] at hv
 refine uW k55 (rR ?_)
 refine bC 3 rswd28 hv rfl rfl rfl rfl (⟨G57, es61, Mk60, (.mk 1 s65 0 []), _, ((hC.trans hD).trans hG57), rfl, rpAt_leaf, hMk59.more (Base.Le.refl _), ⟨hO.keep hkp58, y, ec, hof, .inr ⟨by omega, .inr ⟨fun h9 => hb42 h9.2, out, e2, hpu, .inr ⟨by omega, e56, hkp58, .inr ⟨by omega, rfl⟩⟩⟩⟩⟩, (hv.kp [1, 1] 2 3)⟩)
theorem j2callable74 : Callable Tryz.prog 74 := cb Tryz.func74 (by kernel_rfl)
theorem clistMove (B : Base) (H : List Res) (w : World) (v t m s p wb : Nat) (va : Option Addr) (vc : Nat) (sv : Value) (clk : Int) (es : List (List UInt8 × Value)) (M : List (List UInt8 × Ver)) (hM : VM B es M) (hO : OkM M) (aa : Option Addr) (an ac : Nat) (k l : List UInt8) (fr to : Bool) (hv : Inv B (Res.cell v [.iface 62 (vP t)] 36 :: txR t m s p wb va vc sv clk es :: H) w) :
  Calls Tryz.prog 45 #[.agg #[vP v, .slice aa an ac], vS k, vS l, .bool fr, .bool to] w fun e w' => ∃ C es' M' r cs, B.Le C ∧ e = .returned (.agg cs.toArray) ∧ RpAt C r cs ∧ VM C es' M' ∧ (OkM M' ∧ LMoveR M clk k l fr to M' r) ∧ Inv C (Res.cell v [.iface 62 (vP t)] 36 :: txR t m s p wb va vc sv clk es' :: H) w' := by
 refine cW Tryz.func45 rfl Tryz.ntmps45 ?_
 simp only [al]
 refine sK fun _ k1 => rL (sl_box (L := [vP v, .slice aa an ac]) tV (wn rfl) rfl rfl hv (fun w => by kernel_rfl) (fun b2 w3 hv => ?_))
 simp only [zP, po]
 refine sl_alloc tV (wn rfl) rfl hv j2al28 (fun b4 w5 hv => ?_)
 refine uW k1 (sK fun _ k6 => ?_)
 refine rL (uF (vP b2) rfl (j1fa74_0 _ _ _) ?_)
 refine uL _ rfl (run_load1 j1na24 (hv.load 1 0 rfl rfl)) (uM rfl ?_)
 replace hv := hv.front 3 rfl
 simp only [eS, eZ] at hv
 replace hv := hv.front 3 rfl
 simp only [eS, eZ] at hv
 refine xC j1callable41 rfl ((viewOf B _ _ v t m s p wb va vc sv clk es M k 3 (hM.more (Base.Le.refl _)) hv).mono ?_) rfl
 rintro e w7 ⟨C1, y1, y1p, y1t, y1z, ey1, hC1, rfl, hy1v, hy1f, hv⟩
 refine ⟨_, rfl, ?_⟩
 obtain ⟨y1pa, y1pc, y1sa, y1sc, y1za, y1zc, rfl, rfl, rfl, y1hokp, y1hrp, y1hoks, y1hrs, y1hokz, y1hrz⟩ := valAt_open hy1v
 refine uM rfl (uE rfl ?_)
 refine uE rfl ?_
 refine sl_alloc tV (wn rfl) rfl hv j2al85 (fun b8 w9 hv => ?_)
 simp only [zP, po]
 refine xS 0 rfl hv x0sz85 rfl (by exact ⟨rfl, rfl, rfl, rfl, rfl, rfl, rfl, rfl, trivial⟩) (fun w10 hv => ?_)
 simp only [zO, sp] at hv
 refine uA rfl (uW k6 ?_)
 refine sK fun _ k11 => sK fun _ k12 => rL (uM rfl ?_)
 by_cases hb13 : ey1 ≠ 0
 ·refine uG (.bool true) rfl (ex_neq rfl rfl rfl (qT hb13)) (uW k12 ?_)
  refine cT rfl (sK fun _ k14 => ?_)
  refine rL (uM rfl ?_)
  refine xC rscallable25 rfl ((viewWrong C1 _ _ ey1 hv).mono ?_) rfl
  rintro e w16 ⟨s15, rfl, hv⟩
  refine ⟨_, rfl, ?_⟩
  simp only [zP, po]
  refine xS 3 rfl hv rssz28 rfl (by exact ⟨rfl, rfl, rfl, rfl, trivial⟩) (fun w17 hv => ?_)
  simp only [zS, zO, sp] at hv
  refine uW k14 (rR ?_)
  refine tR (bC 3 rswd28 hv rfl rfl rfl rfl ?_)
  exact ⟨C1, es, M, (.mk 1 s15 0 []), _, hC1, rfl, rpAt_leaf, hM.more hC1, ⟨hO, y1, ey1, hy1f, .inl ⟨hb13, rfl, rfl⟩⟩, (hv.kp [2, 2] 2 3)⟩
 refine uG (.bool false) rfl (ex_neq rfl rfl rfl (qF hb13)) (uW k12 ?_)
 refine cF rfl (kS ?_)
 refine tK k11 (sK fun _ k18 => ?_)
 refine rL (uF (vP b2) rfl (j1fa74_0 _ _ _) ?_)
 refine uL _ rfl (run_load1 j1na24 (hv.load 4 0 rfl rfl)) (uM rfl ?_)
 replace hv := hv.front 2 rfl
 simp only [eS, eZ] at hv
 replace hv := hv.front 2 rfl
 simp only [eS, eZ] at hv
 refine xC j1callable41 rfl ((viewOf C1 _ _ v t m s p wb va vc sv clk es M l 3 (hM.more hC1) hv).mono ?_) rfl
 rintro e w19 ⟨C2, y2, y2p, y2t, y2z, ey2, hC2, rfl, hy2v, hy2f, hv⟩
 refine ⟨_, rfl, ?_⟩
 obtain ⟨y2pa, y2pc, y2sa, y2sc, y2za, y2zc, rfl, rfl, rfl, y2hokp, y2hrp, y2hoks, y2hrs, y2hokz, y2hrz⟩ := valAt_open hy2v
 refine uM rfl (uE rfl ?_)
 refine uE rfl ?_
 refine sl_alloc tV (wn rfl) rfl hv j2al85 (fun b20 w21 hv => ?_)
 simp only [zP, po]
 refine xS 0 rfl hv x0sz85 rfl (by exact ⟨rfl, rfl, rfl, rfl, rfl, rfl, rfl, rfl, trivial⟩) (fun w22 hv => ?_)
 simp only [zO, sp] at hv
 refine uA rfl (uW k18 ?_)
 refine sK fun _ k23 => sK fun _ k24 => rL (uM rfl ?_)
 by_cases hb25 : ey2 ≠ 0
 ·refine uG (.bool true) rfl (ex_neq rfl rfl rfl (qT hb25)) (uW k24 ?_)
  refine cT rfl (sK fun _ k26 => ?_)
  refine rL (uM rfl ?_)
  refine xC rscallable25 rfl ((viewWrong C2 _ _ ey2 hv).mono ?_) rfl
  rintro e w28 ⟨s27, rfl, hv⟩
  refine ⟨_, rfl, ?_⟩
  simp only [zP, po]
  refine xS 4 rfl hv rssz28 rfl (by exact ⟨rfl, rfl, rfl, rfl, trivial⟩) (fun w29 hv => ?_)
  simp only [zS, zO, sp] at hv
  refine uW k26 (rR ?_)
  refine tR (bC 4 rswd28 hv rfl rfl rfl rfl ?_)
  exact ⟨C2, es, M, (.mk 1 s27 0 []), _, (hC1.trans hC2), rfl, rpAt_leaf, hM.more (hC1.trans hC2), ⟨hO, y1, ey1, hy1f, .inr ⟨by omega, y2, ey2, hy2f, .inl ⟨hb25, rfl, rfl⟩⟩⟩, (hv.kp [2, 2] 2 4)⟩
 refine uG (.bool false) rfl (ex_neq rfl rfl rfl (qF hb25)) (uW k24 ?_)
 refine cF rfl (kS ?_)
 refine tK k23 (sK fun _ k30 => ?_)
 refine rL (uF (.pointer (some ⟨b8, 3, none⟩)) rfl (x2fa85_3 _ _ _) ?_)
 refine uF (.pointer (some ⟨b8, 6, none⟩)) rfl (s1fa78_3 _ _ _) ?_
 refine uL _ rfl (run_load1 s1na22 (hv.load 3 6 rfl rfl)) (uM rfl ?_)
 refine xC j2callable74 rfl ((listPop C2 _ _ y1sa y1sc y1.val.texts y1hoks (y1hrs.more hC2 (fun _ h => h)) hy1v.tm fr 1 hv).mono ?_) rfl
 rintro e w31 ⟨D, ka, kc, ga, gc, left, gone, hD, rfl, hokk, hrk, hokg, hrg, hleft, hgone, hv⟩
 refine ⟨_, rfl, ?_⟩
 have hll : left.length ≤ 1000000 := by rw [hleft]; exact Nat.le_trans popL_le hy1v.tm
 have hgl : gone.length ≤ 1000000 := by rw [hgone]; exact Nat.le_trans popG_le hy1v.tm
 refine uM rfl (uE rfl ?_)
 refine uE rfl (uA rfl ?_)
 refine uA rfl (uW k30 ?_)
 refine sK fun _ k32 => sK fun _ k33 => rL (uM rfl ?_)
 refine uG (vI (gone.length : Int)) rfl (ex_len0 Tryz.underlying22 rfl rfl) ?_
 by_cases hb34 : (gone.length : Int) = 0
 ·refine uG (.bool true) rfl (ex_eql rfl rfl rfl (qT hb34)) (uW k33 ?_)
  refine cT rfl (sK fun _ k35 => ?_)
  refine rL (xC j1callable68 rfl ((respNone D _ _ hv).mono ?_) rfl)
  rintro e w36 ⟨rfl, hv⟩
  refine ⟨_, rfl, ?_⟩
  simp only [zP, po]
  refine xS 4 rfl hv rssz28 rfl (by exact ⟨rfl, rfl, rfl, rfl, trivial⟩) (fun w37 hv => ?_)
  simp only [zS, zO, sp] at hv
  refine uW k35 (rR ?_)
  refine tR (bC 4 rswd28 hv rfl rfl rfl rfl ?_)
  exact ⟨D, es, M, (.mk 4 ([] : List UInt8) 0 []), _, ((hC1.trans hC2).trans hD), rfl, rpAt_leaf, hM.more ((hC1.trans hC2).trans hD), ⟨hO, y1, ey1, hy1f, .inr ⟨by omega, y2, ey2, hy2f, .inr ⟨by omega, .inl ⟨by rw [← hgone]; exact List.eq_nil_of_length_eq_zero (by omega), rfl, rfl⟩⟩⟩⟩, (hv.kp [2, 2] 2 4)⟩
 obtain ⟨g0, hg0⟩ : ∃ q, gone = [q] := by rw [hgone]; exact pop_one (fun h9 => hb34 (by rw [hgone, h9]; rfl))
 refine uG (.bool false) rfl (ex_eql rfl rfl rfl (qF hb34)) (uW k33 ?_)
 refine cF rfl (kS ?_)
 refine tK k32 (sK fun _ k38 => ?_)
 refine sK fun _ k39 => rL (uM rfl ?_)
 refine uM rfl ?_
 by_cases hb40 : k = l
 ·skip
  refine uG (.bool true) rfl (ex_seql rfl rfl rfl (qT hb40)) (uW k39 ?_)
  refine cT rfl (rL ?_)
  refine uM rfl ?_
  refine uF (.pointer (some ⟨b20, 3, none⟩)) rfl (x2fa85_3 _ _ _) ?_
  refine uF (.pointer (some ⟨b20, 6, none⟩)) rfl (s1fa78_3 _ _ _) ?_
  refine xV 0 (.slice ka left.length kc) rfl hv s1sz22 rfl rfl (fun w41 hv => ?_)
  simp only [zO, sp] at hv
  refine uW k38 (sK fun _ k42 => ?_)
  refine rL (uF (.pointer (some ⟨b20, 3, none⟩)) rfl (x2fa85_3 _ _ _) ?_)
  refine uF (.pointer (some ⟨b20, 6, none⟩)) rfl (s1fa78_3 _ _ _) ?_
  refine uL _ rfl (run_load1 s1na22 (hv.load 0 6 rfl rfl)) (uM rfl ?_)
  refine uM rfl ?_
  refine xC j2callable75 rfl ((listPush D _ _ ka kc left hokk (hrk.more (Base.Le.refl _) (fun _ h => h)) hll to ga gc gone hokg (hrg.more (Base.Le.refl _) (fun _ h => h)) hgl hv).mono ?_) rfl
  rintro e w43 ⟨E, oa, oc, out, e3, hE, rfl, hoko, hro, hpu, hv⟩
  refine ⟨_, rfl, ?_⟩
  have hpu2 : PushI (if k = l then popL y1.val.texts fr 1 else y2.val.texts) to [g0] out e3 := by rw [if_pos hb40, ← hleft, ← hg0]; exact hpu
  refine uM rfl (uE rfl ?_)
  refine uE rfl (uA rfl ?_)
  refine uA rfl (uW k42 ?_)
  refine sK fun _ k44 => sK fun _ k45 => rL (uM rfl ?_)
  by_cases hb46 : e3 ≠ 0
  ·refine uG (.bool true) rfl (ex_neq rfl rfl rfl (qT hb46)) (uW k45 ?_)
   refine cT rfl (sK fun _ k47 => ?_)
   refine rL (uM rfl ?_)
   refine xC rscallable25 rfl ((viewWrong E _ _ e3 hv).mono ?_) rfl
   rintro e w49 ⟨s48, rfl, hv⟩
   refine ⟨_, rfl, ?_⟩
   simp only [zP, po]
   refine xS 4 rfl hv rssz28 rfl (by exact ⟨rfl, rfl, rfl, rfl, trivial⟩) (fun w50 hv => ?_)
   simp only [zS, zO, sp] at hv
   refine uW k47 (rR ?_)
   refine tR (bC 4 rswd28 hv rfl rfl rfl rfl ?_)
   exact ⟨E, es, M, (.mk 1 s48 0 []), _, (((hC1.trans hC2).trans hD).trans hE), rfl, rpAt_leaf, hM.more (((hC1.trans hC2).trans hD).trans hE), ⟨hO, y1, ey1, hy1f, .inr ⟨by omega, y2, ey2, hy2f, .inr ⟨by omega, .inr ⟨g0, by rw [← hgone]; exact hg0, out, e3, hpu2, .inl ⟨hb46, rfl, rfl⟩⟩⟩⟩⟩, (hv.kp [2, 2] 2 4)⟩
  refine uG (.bool false) rfl (ex_neq rfl rfl rfl (qF hb46)) (uW k45 ?_)
  refine cF rfl (kS ?_)
  refine tK k44 (sK fun _ k51 => ?_)
  refine sK fun _ k52 => rL (uL (.agg #[vP v, .slice aa an ac]) rfl (lM 5 j1wd74 hv rfl rfl rfl rfl) ?_)
  refine uM rfl ?_
  refine uL (.agg #[vI y2.stamp, .bool y2.gone, vI y2.expire, vI y2.val.kind, vS y2.val.text, .slice y2pa y2.val.pairs.length y2pc, .slice ka left.length kc, .slice y2za y2.val.zset.length y2zc]) rfl (lM 0 x0wd85 hv rfl rfl rfl rfl) (uM rfl ?_)
  replace hv := hv.front 2 rfl
  simp only [eS, eZ] at hv
  replace hv := hv.front 2 rfl
  simp only [eS, eZ] at hv
  refine xC j1callable71 rfl ((clistKeep E _ _ v t m s p wb va vc sv clk es M (hM.more (((hC1.trans hC2).trans hD).trans hE)) aa an ac l _ _ y2.expire _ _ _ _ _ _ _ _ _ _ _ oa oc out (hro.more (Base.Le.refl _) (fun _ h => h)) hoko (push_le hpu) hv).mono ?_) rfl
  rintro e w59 ⟨G54, es58, Mk57, e53, hG54, rfl, hMk56, hkp55, hv⟩
  refine ⟨_, rfl, uA rfl ?_⟩
  refine uW k52 (sK fun _ k60 => ?_)
  refine rL (uM rfl ?_)
  by_cases hb61 : e53 ≠ 0
  ·refine uG (.bool true) rfl (ex_neq rfl rfl rfl (qT hb61)) (uW k60 ?_)
   refine cT rfl (sK fun _ k62 => ?_)
   refine rL (uM rfl ?_)
   refine xC rscallable25 rfl ((viewWrong G54 _ _ e53 hv).mono ?_) rfl
   rintro e w64 ⟨s63, rfl, hv⟩
   refine ⟨_, rfl, ?_⟩
   simp only [zP, po]
   refine xS 4 rfl hv rssz28 rfl (by exact ⟨rfl, rfl, rfl, rfl, trivial⟩) (fun w65 hv => ?_)
   simp only [zS, zO, sp] at hv
   refine uW k62 (rR ?_)
   refine tR (bC 4 rswd28 hv rfl rfl rfl rfl ?_)
   exact ⟨G54, es58, Mk57, (.mk 1 s63 0 []), _, ((((hC1.trans hC2).trans hD).trans hE).trans hG54), rfl, rpAt_leaf, hMk56.more (Base.Le.refl _), ⟨hO.keep hkp55, y1, ey1, hy1f, .inr ⟨by omega, y2, ey2, hy2f, .inr ⟨by omega, .inr ⟨g0, by rw [← hgone]; exact hg0, out, e3, hpu2, .inr ⟨by omega, _, e53, hkp55, .inl ⟨hb61, rfl, rfl⟩⟩⟩⟩⟩⟩, (hv.kp [1, 1] 2 4)⟩
  refine uG (.bool false) rfl (ex_neq rfl rfl rfl (qF hb61)) (uW k60 ?_)
  refine cF rfl (kS ?_)
  refine tK k51 (sK fun _ k66 => ?_)
  refine sK fun _ k67 => rL (uM rfl ?_)
  refine uM rfl ?_
  refine uG (.bool false) rfl (ex_sneq rfl rfl rfl (qF (fun h9 => h9 hb40))) (uW k67 ?_)
  refine cF rfl (kS ?_)
  refine tK k66 (sK fun _ k68 => ?_)
  obtain ⟨gb, go, had, hrdg⟩ := text_reads hrg (show gone[0]? = some g0 by rw [hg0]; rfl)
  have hgpos : 0 < gone.length := by rw [hg0]; exact Nat.zero_lt_one
  subst had
  refine rL (uM rfl ?_)
  refine uM rfl ?_
  refine uG (.pointer (some ⟨gb, go + 0, none⟩)) rfl (ex_index rfl rfl rfl (run_idx1 (k := 0) Tryz.underlying22 s9es22 (by omega))) ?_
  refine uL _ rfl (run_load1 s9na9 (hrdg _ _ _ (hE.trans hG54) no_res hv 0 _ rfl)) ?_
  refine xC rtcallable69 rfl ((respStr G54 _ _ g0 hv).mono ?_) rfl
  rintro e w69 ⟨rfl, hv⟩
  refine ⟨_, rfl, ?_⟩
  simp only [zP, po]
  refine xC j1callable42 rfl ((viewDone G54 _ _ e3 3 0 g0 (vN) rfl rfl hv).mono ?_) rfl
  rintro e w70 ⟨xr, hxr, rfl, hv⟩
  refine ⟨_, rfl, ?_⟩
  rcases hxr with ⟨hec0, rfl⟩ | ⟨hec0, s71, rfl⟩
  ·simp only [zP, po]
   refine xS 4 rfl hv rssz28 rfl (by exact ⟨rfl, rfl, rfl, rfl, trivial⟩) (fun w72 hv => ?_)
   simp only [zS, zO, sp] at hv
   refine uW k68 (rR ?_)
   refine bC 4 rswd28 hv rfl rfl rfl rfl (⟨G54, es58, Mk57, (.mk 3 g0 0 []), _, ((((hC1.trans hC2).trans hD).trans hE).trans hG54), rfl, rpAt_leaf, hMk56.more (Base.Le.refl _), ⟨hO.keep hkp55, y1, ey1, hy1f, .inr ⟨by omega, y2, ey2, hy2f, .inr ⟨by omega, .inr ⟨g0, by rw [← hgone]; exact hg0, out, e3, hpu2, .inr ⟨by omega, _, e53, hkp55, .inr ⟨by omega, .inl ⟨hb40, rfl, rfl⟩⟩⟩⟩⟩⟩⟩, (hv.kp [1, 1] 2 4)⟩)
  simp only [zP, po]
  refine xS 4 rfl hv rssz28 rfl (by exact ⟨rfl, rfl, rfl, rfl, trivial⟩) (fun w73 hv => ?_)
  simp only [zS, zO, sp] at hv
  refine uW k68 (rR ?_)
  refine bC 4 rswd28 hv rfl rfl rfl rfl ?_
  exfalso; omega
 skip
 refine uG (.bool false) rfl (ex_seql rfl rfl rfl (qF hb40)) (uW k39 ?_)
 refine cF rfl (kS ?_)
 refine tK k38 (sK fun _ k74 => ?_)
 refine rL (uF (.pointer (some ⟨b20, 3, none⟩)) rfl (x2fa85_3 _ _ _) ?_)
 refine uF (.pointer (some ⟨b20, 6, none⟩)) rfl (s1fa78_3 _ _ _) ?_
 refine uL _ rfl (run_load1 s1na22 (hv.load 0 6 rfl rfl)) (uM rfl ?_)
 refine uM rfl ?_
 refine xC j2callable75 rfl ((listPush D _ _ y2sa y2sc y2.val.texts y2hoks (y2hrs.more hD (fun _ h => h)) hy2v.tm to ga gc gone hokg (hrg.more (Base.Le.refl _) (fun _ h => h)) hgl hv).mono ?_) rfl
 rintro e w75 ⟨E, oa, oc, out, e3, hE, rfl, hoko, hro, hpu, hv⟩
 refine ⟨_, rfl, ?_⟩
 have hpu2 : PushI (if k = l then popL y1.val.texts fr 1 else y2.val.texts) to [g0] out e3 := by rw [if_neg hb40, ← hg0]; exact hpu
 refine uM rfl (uE rfl ?_)
 refine uE rfl (uA rfl ?_)
 refine uA rfl (uW k74 ?_)
 refine sK fun _ k76 => sK fun _ k77 => rL (uM rfl ?_)
 by_cases hb78 : e3 ≠ 0
 ·refine uG (.bool true) rfl (ex_neq rfl rfl rfl (qT hb78)) (uW k77 ?_)
  refine cT rfl (sK fun _ k79 => ?_)
  refine rL (uM rfl ?_)
  refine xC rscallable25 rfl ((viewWrong E _ _ e3 hv).mono ?_) rfl
  rintro e w81 ⟨s80, rfl, hv⟩
  refine ⟨_, rfl, ?_⟩
  simp only [zP, po]
  refine xS 4 rfl hv rssz28 rfl (by exact ⟨rfl, rfl, rfl, rfl, trivial⟩) (fun w82 hv => ?_)
  simp only [zS, zO, sp] at hv
  refine uW k79 (rR ?_)
  refine tR (bC 4 rswd28 hv rfl rfl rfl rfl ?_)
  exact ⟨E, es, M, (.mk 1 s80 0 []), _, (((hC1.trans hC2).trans hD).trans hE), rfl, rpAt_leaf, hM.more (((hC1.trans hC2).trans hD).trans hE), ⟨hO, y1, ey1, hy1f, .inr ⟨by omega, y2, ey2, hy2f, .inr ⟨by omega, .inr ⟨g0, by rw [← hgone]; exact hg0, out, e3, hpu2, .inl ⟨hb78, rfl, rfl⟩⟩⟩⟩⟩, (hv.kp [2, 2] 2 4)⟩
 refine uG (.bool false) rfl (ex_neq rfl rfl rfl (qF hb78)) (uW k77 ?_)
 refine cF rfl (kS ?_)
 refine tK k76 (sK fun _ k83 => ?_)
 refine sK fun _ k84 => rL (uL (.agg #[vP v, .slice aa an ac]) rfl (lM 5 j1wd74 hv rfl rfl rfl rfl) ?_)
 refine uM rfl ?_
 refine uL (.agg #[vI y2.stamp, .bool y2.gone, vI y2.expire, vI y2.val.kind, vS y2.val.text, .slice y2pa y2.val.pairs.length y2pc, .slice y2sa y2.val.texts.length y2sc, .slice y2za y2.val.zset.length y2zc]) rfl (lM 0 x0wd85 hv rfl rfl rfl rfl) (uM rfl ?_)
 replace hv := hv.front 2 rfl
 simp only [eS, eZ] at hv
 replace hv := hv.front 2 rfl
 simp only [eS, eZ] at hv
 refine xC j1callable71 rfl ((clistKeep E _ _ v t m s p wb va vc sv clk es M (hM.more (((hC1.trans hC2).trans hD).trans hE)) aa an ac l _ _ y2.expire _ _ _ _ _ _ _ _ _ _ _ oa oc out (hro.more (Base.Le.refl _) (fun _ h => h)) hoko (push_le hpu) hv).mono ?_) rfl
 rintro e w91 ⟨G86, es90, Mk89, e85, hG86, rfl, hMk88, hkp87, hv⟩
 refine ⟨_, rfl, uA rfl ?_⟩
 refine uW k84 (sK fun _ k92 => ?_)
 refine rL (uM rfl ?_)
 by_cases hb93 : e85 ≠ 0
 ·refine uG (.bool true) rfl (ex_neq rfl rfl rfl (qT hb93)) (uW k92 ?_)
  refine cT rfl (sK fun _ k94 => ?_)
  refine rL (uM rfl ?_)
  refine xC rscallable25 rfl ((viewWrong G86 _ _ e85 hv).mono ?_) rfl
  rintro e w96 ⟨s95, rfl, hv⟩
  refine ⟨_, rfl, ?_⟩
  simp only [zP, po]
  refine xS 4 rfl hv rssz28 rfl (by exact ⟨rfl, rfl, rfl, rfl, trivial⟩) (fun w97 hv => ?_)
  simp only [zS, zO, sp] at hv
  refine uW k94 (rR ?_)
  refine tR (bC 4 rswd28 hv rfl rfl rfl rfl ?_)
  exact ⟨G86, es90, Mk89, (.mk 1 s95 0 []), _, ((((hC1.trans hC2).trans hD).trans hE).trans hG86), rfl, rpAt_leaf, hMk88.more (Base.Le.refl _), ⟨hO.keep hkp87, y1, ey1, hy1f, .inr ⟨by omega, y2, ey2, hy2f, .inr ⟨by omega, .inr ⟨g0, by rw [← hgone]; exact hg0, out, e3, hpu2, .inr ⟨by omega, _, e85, hkp87, .inl ⟨hb93, rfl, rfl⟩⟩⟩⟩⟩⟩, (hv.kp [1, 1] 2 4)⟩
 refine uG (.bool false) rfl (ex_neq rfl rfl rfl (qF hb93)) (uW k92 ?_)
 refine cF rfl (kS ?_)
 refine tK k83 (sK fun _ k98 => ?_)
 refine sK fun _ k99 => rL (uM rfl ?_)
 refine uM rfl ?_
 refine uG (.bool true) rfl (ex_sneq rfl rfl rfl (qT hb40)) (uW k99 ?_)
 refine cT rfl (rL ?_)
 refine uL (.agg #[vP v, .slice aa an ac]) rfl (lM 5 j1wd74 hv rfl rfl rfl rfl) (uM rfl ?_)
 refine uL (.agg #[vI y1.stamp, .bool y1.gone, vI y1.expire, vI y1.val.kind, vS y1.val.text, .slice y1pa y1.val.pairs.length y1pc, .slice y1sa y1.val.texts.length y1sc, .slice y1za y1.val.zset.length y1zc]) rfl (lM 3 x0wd85 hv rfl rfl rfl rfl) (uM rfl ?_)
 replace hv := hv.front 1 rfl
 simp only [eS, eZ] at hv
 replace hv := hv.front 1 rfl
 simp only [eS, eZ] at hv
 refine xC j1callable71 rfl ((clistKeep G86 _ _ v t m s p wb va vc sv clk es90 Mk89 (hMk88.more (Base.Le.refl _)) aa an ac k _ _ y1.expire _ _ _ _ _ _ _ _ _ _ _ ka kc left (hrk.more (hE.trans hG86) (fun _ h => h)) hokk (hll) hv).mono ?_) rfl
 rintro e w106 ⟨G101, es105, Mk104, e100, hG101, rfl, hMk103, hkp102, hv⟩
 refine ⟨_, rfl, uA rfl ?_⟩
 refine uW k98 (sK fun _ k107 => ?_)
 obtain ⟨gb, go, had, hrdg⟩ := text_reads hrg (show gone[0]? = some g0 by rw [hg0]; rfl)
 have hgpos : 0 < gone.length := by rw [hg0]; exact Nat.zero_lt_one
 subst had
 refine rL (uM rfl ?_)
 refine uM rfl ?_
 refine uG (.pointer (some ⟨gb, go + 0, none⟩)) rfl (ex_index rfl rfl rfl (run_idx1 (k := 0) Tryz.underlying22 s9es22 (by omega))) ?_
 refine uL _ rfl (run_load1 s9na9 (hrdg _ _ _ ((hE.trans hG86).trans hG101) no_res hv 0 _ rfl)) ?_
 refine xC rtcallable69 rfl ((respStr G101 _ _ g0 hv).mono ?_) rfl
 rintro e w108 ⟨rfl, hv⟩
 refine ⟨_, rfl, ?_⟩
 simp only [zP, po]
 refine xC j1callable42 rfl ((viewDone G101 _ _ e100 3 0 g0 (vN) rfl rfl hv).mono ?_) rfl
 rintro e w109 ⟨xr, hxr, rfl, hv⟩
 refine ⟨_, rfl, ?_⟩
 rcases hxr with ⟨hec0, rfl⟩ | ⟨hec0, s110, rfl⟩
 ·simp only [zP, po]
  refine xS 4 rfl hv rssz28 rfl (by exact ⟨rfl, rfl, rfl, rfl, trivial⟩) (fun w111 hv => ?_)
  simp only [zS, zO, sp] at hv
  refine uW k107 (rR ?_)
  refine bC 4 rswd28 hv rfl rfl rfl rfl (⟨G101, es105, Mk104, (.mk 3 g0 0 []), _, (((((hC1.trans hC2).trans hD).trans hE).trans hG86).trans hG101), rfl, rpAt_leaf, hMk103.more (Base.Le.refl _), ⟨(hO.keep hkp87).keep hkp102, y1, ey1, hy1f, .inr ⟨by omega, y2, ey2, hy2f, .inr ⟨by omega, .inr ⟨g0, by rw [← hgone]; exact hg0, out, e3, hpu2, .inr ⟨by omega, _, e85, hkp87, .inr ⟨by omega, .inr ⟨hb40, e100, by rw [← hleft]; exact hkp102, .inl ⟨by omega, rfl⟩⟩⟩⟩⟩⟩⟩⟩, (hv.kp [1, 1] 2 4)⟩)
 simp only [zP, po]
 refine xS 4 rfl hv rssz28 rfl (by exact ⟨rfl, rfl, rfl, rfl, trivial⟩) (fun w112 hv => ?_)
 simp only [zS, zO, sp] at hv
 refine uW k107 (rR ?_)
 refine bC 4 rswd28 hv rfl rfl rfl rfl (⟨G101, es105, Mk104, (.mk 1 s110 0 []), _, (((((hC1.trans hC2).trans hD).trans hE).trans hG86).trans hG101), rfl, rpAt_leaf, hMk103.more (Base.Le.refl _), ⟨(hO.keep hkp87).keep hkp102, y1, ey1, hy1f, .inr ⟨by omega, y2, ey2, hy2f, .inr ⟨by omega, .inr ⟨g0, by rw [← hgone]; exact hg0, out, e3, hpu2, .inr ⟨by omega, _, e85, hkp87, .inr ⟨by omega, .inr ⟨hb40, e100, by rw [← hleft]; exact hkp102, .inr ⟨by omega, rfl⟩⟩⟩⟩⟩⟩⟩⟩, (hv.kp [1, 1] 2 4)⟩)
end Go.Proofs.YtmhdpjifhfoabaaGreatDoor
