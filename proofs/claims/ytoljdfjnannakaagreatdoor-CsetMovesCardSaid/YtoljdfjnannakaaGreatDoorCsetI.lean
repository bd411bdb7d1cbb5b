/- cset: common. -/
import Derived.Test.YtoljdfjnannakaaGreatDoorCsetB
import Derived.Test.YtoljdfjnannakaaGreatDoorCsetH
import Derived.Test.YtoljdfjnannakaaGreatDoorRows
set_option maxRecDepth 100000
namespace Go.Proofs.YtoljdfjnannakaaGreatDoor
open Go.RowKit Go.Pm
theorem numP_inj {s : List UInt8} {n m : Int} (h : NumP s n true) (h2 : NumP s m true) : n = m := by
 rcases h with ⟨-, h0, h1, h3⟩ | ⟨h, -⟩
 ·rcases h2 with ⟨-, h4, h5, h6⟩ | ⟨h, -⟩
  ·have e1 := parse_itoa n h0 h1
   have e2 := parse_itoa m h4 h5
   rw [← h3] at e1
   rw [← h6, e1] at e2
   cases e2; rfl
  cases h
 cases h
theorem numP_not {s : List UInt8} {n : Int} (h : NumP s n true) (h2 : NumP s 0 false) : False := by
 rcases h with ⟨-, h0, h1, h3⟩ | ⟨h, -⟩
 ·rcases h2 with ⟨h, -⟩ | ⟨-, -, h4⟩
  ·cases h
  exact h4 n h0 h1 h3
 cases h
theorem ints_one {s : List UInt8} {ns : List Int} {ec : Int} (h : IntsR [s] ns ec) : (ec = 0 ∧ ∃ n, ns = [n] ∧ NumP s n true) ∨ (ec = 41 ∧ ns = [] ∧ NumP s 0 false) := by
 rcases h with ⟨h1, h2, h3⟩ | ⟨h1, h2, t, ht, h3⟩
 ·match ns, h2 with
  | [n], _ => exact .inl ⟨h1, n, rfl, h3 0 s n rfl rfl⟩
 rw [List.mem_singleton.1 ht] at h3
 exact .inr ⟨h1, h2, h3⟩
def CommonR (M : List (List UInt8 × Ver)) (clk : Int) (s0 : List UInt8) (xs : List (List UInt8)) (r : Rp) : Prop :=
 ∀ n : Int, NumP s0 n true → n = (xs.length : Int) → 1 ≤ n → ∃ ss ec, SetsR M clk xs ss ec ∧ ((ec ≠ 0 ∧ IsF r) ∨ (ec = 0 ∧ ∃ q, ss[0]? = some q ∧ r = rInt ((interS q (ss.drop 1)).length : Int)))
theorem c4al28 (w : World) : (Instr.alloc 28 true (.tuple #[])).run Tryz.prog w = .ok (.pointer (some ⟨w.heap.size, 0, none⟩)) (w.alloc (.cells ([.int .i64 0, .string ⟨([] : List UInt8).toArray⟩, .int .i64 0, .slice none 0 0] : List Value).toArray 28)) := by kernel_rfl
theorem c4mk9 : (Tryz.prog.info? 9).map (fun i => (i.zero, i.size, i.bytes)) = some (some (.string ⟨([] : List UInt8).toArray⟩), 1, 16) := by kernel_rfl
theorem c4el22 : Elem Tryz.prog 22 9 (.string ⟨([] : List UInt8).toArray⟩) 1 16 := elem_of Tryz.underlying22 c4mk9 (by rfl) (by decide)
theorem c4callable74 : Callable Tryz.prog 74 := ⟨_, Tryz.func74, by kernel_rfl, by kernel_rfl⟩
theorem c4callable75 : Callable Tryz.prog 75 := ⟨_, Tryz.func75, by kernel_rfl, by kernel_rfl⟩
set_option maxHeartbeats 16000000 in
theorem csetCommon (B : Base) (H : List Res) (w : World) (v t m s p wb : Nat) (va : Option Addr) (vc : Nat) (sv : Value) (clk : Int) (es : List (List UInt8 × Value)) (M : List (List UInt8 × Ver)) (hM : VM B es M) (hO : OkM M) (aa : Option Addr) (ac : Nat) (args : List (List UInt8)) (hra : RdV B [] aa (textCells args)) (hoka : SliceOk aa args.length ac) (_ : args.length ≤ 10000) (key : List UInt8) (hkey : args[0]? = some key) (xa : Option Addr) (xc : Nat) (xs : List (List UInt8)) (hokx : SliceOk xa xs.length xc) (hrx : RdV B [] xa (textCells xs)) (hmx : xs.length ≤ 1000) (hxl : ∀ x ∈ xs, x.length ≤ 9223372036854775807) (hN : NumB B) (hv : Inv B (Res.cell v [.iface 62 (.pointer (some ⟨t, 0, none⟩))] 39 :: txR t m s p wb va vc sv clk es :: H) w) :
  Calls Tryz.prog 46 #[.agg #[.pointer (some ⟨v, 0, none⟩), .slice aa args.length ac], .slice xa xs.length xc] w fun e w' => ∃ C r cs, B.Le C ∧ e = .returned (.agg cs.toArray) ∧ RpAt C r cs ∧ CommonR M clk key xs r ∧ Inv C (Res.cell v [.iface 62 (.pointer (some ⟨t, 0, none⟩))] 39 :: txR t m s p wb va vc sv clk es :: H) w' := by
 refine cW Tryz.func46 rfl Tryz.ntmps46 ?_
 simp only [al]
 refine sK fun _ k1 => ?_
 have hal := (List.getElem?_eq_some_iff.1 hkey).1
 obtain ⟨ab, ao, had, hrdkey⟩ := text_reads hra hkey
 subst had
 refine rL (sl_box (L := [.pointer (some ⟨v, 0, none⟩), .slice (some ⟨ab, ao, none⟩) args.length ac]) tV (wn rfl) rfl rfl hv (fun w => by kernel_rfl) (fun b2 w3 hv => ?_))
 refine sl_alloc tV (wn rfl) rfl hv c4al28 (fun b4 w5 hv => ?_)
 simp only [zP, po]
 refine wK k1 (sK fun _ k6 => ?_)
 refine rL (xF (.pointer (some ⟨b2, 1, none⟩)) rfl (c1fa73_1 _ _ _) ?_)
 refine xL _ rfl (run_load1 s1na22 (hv.load 1 1 rfl rfl)) (xG (.pointer (some ⟨ab, ao + 0, none⟩)) rfl (ex_index rfl rfl rfl (run_idx1 (k := 0) Tryz.underlying22 s9es22 (by omega))) ?_)
 simp only [zP, po]
 refine xL _ rfl (run_load1 s9na9 (hrdkey _ _ _ (Base.Le.refl _) no_res hv 0 _ rfl)) (sl_rowOne (v := .string ⟨key.toArray⟩) tV (wn rfl) rfl rfl hv c4el22 rfl (fun b7 w8 hv => ?_))
 obtain ⟨D1, hD1, hv, hrkD1, -, -⟩ := (hv.cellRow (n := 1) (c := 1) (size := 1) rfl (by decide) (by decide)).rowBy
 refine xC c4callable74 rfl ((viewInts D1 _ _ _ 1 [key] hrkD1 (by simp) (hN.more hD1) hv).mono ?_) rfl
 rintro e w9 ⟨E1, ia1, ic1, ns1, ei1, hE1, rfl, hri1, hir1, hv⟩
 refine ⟨_, rfl, ?_⟩
 rcases ints_one hir1 with ⟨rfl, n1, rfl, hn1⟩ | ⟨rfl, rfl, hn1⟩
 ·simp only [zP, po]
  refine xM (.tuple #[.slice ia1 1 ic1, .int .i64 0]) rfl (xG (.slice ia1 1 ic1) rfl (ex_extract rfl rfl rfl) ?_)
  refine xG (.int .i64 0) rfl (ex_extract rfl rfl rfl) ?_
  simp only [zP, po]
  refine xA (.slice ia1 1 ic1) rfl (xA (.int .i64 0) rfl ?_)
  simp only [zP, po]
  refine wK k6 (sK fun _ k10 => ?_)
  refine sK fun _ k11 => rL (xM (.int .i64 0) rfl ?_)
  refine xG (.bool false) rfl (ex_neq rfl rfl rfl (by decide)) ?_
  simp only [zP, po]
  refine wK k11 (cF rfl ?_)
  refine kS (tK k10 ?_)
  refine sK fun _ k12 => ?_
  obtain ⟨ib1, io1, had, hrdn1⟩ := int_reads hri1 (show [n1][0]? = some n1 from rfl)
  subst had
  have hnr : -9223372036854775808 ≤ n1 ∧ n1 ≤ 9223372036854775807 := hn1.elim (fun h => ⟨h.2.1, h.2.2.1⟩) (fun h => absurd h.1 (by decide))
  refine rL (xM (.slice (some ⟨ib1, io1, none⟩) 1 ic1) rfl ?_)
  refine xG (.pointer (some ⟨ib1, io1 + 0, none⟩)) rfl (ex_index rfl rfl rfl (run_idx1 (k := 0) Tryz.underlying149 s11es149 (by omega))) (xL _ rfl (run_load1 s2na3 (hrdn1 _ _ _ (Base.Le.refl _) no_res hv 0 _ rfl)) ?_)
  simp only [zP, po]
  refine xA (.int .i64 n1) rfl (xA (.int .i64 0) rfl ?_)
  simp only [zP, po]
  refine wK k12 (sK fun _ k13 => ?_)
  refine rL (xM (.int .i64 n1) rfl ?_)
  by_cases hb14 : n1 ≥ 0
  ·refine xG (.bool true) rfl (ex_geq rfl rfl rfl (decide_eq_true hb14)) (xM (.bool true) rfl ?_)
   simp only [zP, po]
   refine xM (.slice xa xs.length xc) rfl (xG (.int .i64 (xs.length : Int)) rfl (ex_len0 Tryz.underlying22 rfl rfl) ?_)
   by_cases hb15 : (xs.length : Int) ≥ 2
   ·refine xG (.bool true) rfl (ex_geq rfl rfl rfl (decide_eq_true hb15)) ?_
    simp only [zP, po]
    refine xK true (.bool true) rfl (xM (.bool true) rfl ?_)
    refine xM (.int .i64 n1) rfl ?_
    simp only [zP, po]
    refine xM (.slice xa xs.length xc) rfl (xG (.int .i64 (xs.length : Int)) rfl (ex_len0 Tryz.underlying22 rfl rfl) ?_)
    refine xG (.int .i64 ((xs.length : Int) - 2)) rfl (ex_sub rfl rfl rfl (i64_in (by omega))) ?_
    simp only [zP, po]
    by_cases hb16 : n1 = ((xs.length : Int) - 2)
    ·refine xG (.bool true) rfl (ex_eql rfl rfl rfl (decide_eq_true hb16)) ?_
     obtain rfl : n1 = ((xs.length - 2 : Nat) : Int) := by omega
     obtain ⟨x1, hx1⟩ : ∃ x, xs[(xs.length - 2 : Nat)]? = some x := ⟨_, List.getElem?_eq_getElem (show (xs.length - 2 : Nat) < xs.length by omega)⟩
     obtain ⟨xb, xo, had, hrdx1⟩ := text_reads hrx hx1
     subst had
     refine xK true (.bool true) rfl (xM (.bool true) rfl ?_)
     simp only [zP, po]
     refine xM (.slice (some ⟨xb, xo, none⟩) xs.length xc) rfl (xM (.int .i64 ((xs.length - 2 : Nat) : Int)) rfl ?_)
     refine xG (.pointer (some ⟨xb, xo + (xs.length - 2 : Nat), none⟩)) rfl (ex_index rfl rfl rfl (run_idx1 (k := (xs.length - 2 : Nat)) Tryz.underlying22 s9es22 (by omega))) ?_
     simp only [zP, po]
     refine xL _ rfl (run_load1 s9na9 (hrdx1 _ _ _ (hD1.trans hE1) no_res hv 0 _ rfl)) (sl_rowOne (v := .string ⟨([76, 73, 77, 73, 84] : List UInt8).toArray⟩) tV (wanted_of (j := 14) (d := 42) (b := true) rfl rfl rfl) rfl rfl hv c4el22 rfl (fun b17 w18 hv => ?_))
     obtain ⟨D3, hD3, hv, hrkD3, -, -⟩ := (hv.cellRow (n := 1) (c := 1) (size := 1) rfl (by decide) (by decide)).rowBy
     refine xC c4callable75 rfl ((viewIs D3 _ _ x1 _ 1 [[76, 73, 77, 73, 84]] hrkD3 (by simp) (hxl x1 (List.mem_of_getElem? hx1)) hv).mono ?_) rfl
     rintro e w19 ⟨ri, rfl, -, hv⟩
     refine ⟨_, rfl, ?_⟩
     simp only [zP, po]
     by_cases hb20 : ri = 0
     ·refine xG (.bool true) rfl (ex_eql rfl rfl rfl (decide_eq_true hb20)) (xK true (.bool true) rfl ?_)
      refine xA (.bool true) rfl ?_
      simp only [zP, po]
      refine wK k13 (sK fun _ k21 => ?_)
      refine sK fun _ k22 => rL (xM (.bool true) rfl ?_)
      simp only [zP, po]
      refine wK k22 (cT rfl ?_)
      refine sK fun _ k23 => sK fun _ k24 => ?_
      obtain ⟨x2, hx2⟩ : ∃ x, xs[(xs.length - 1 : Nat)]? = some x := ⟨_, List.getElem?_eq_getElem (show (xs.length - 1 : Nat) < xs.length by omega)⟩
      obtain ⟨b9, o9, had9, hrdx2⟩ := text_reads hrx hx2
      cases had9
      refine rL (xM (.slice (some ⟨xb, xo, none⟩) xs.length xc) rfl ?_)
      refine xM (.int .i64 ((xs.length - 2 : Nat) : Int)) rfl (xG (.int .i64 ((xs.length - 1 : Nat) : Int)) rfl (ex_add rfl rfl rfl (by rw [i64_in (by omega)]; omega)) ?_)
      simp only [zP, po]
      refine xG (.pointer (some ⟨xb, xo + (xs.length - 1 : Nat), none⟩)) rfl (ex_index rfl rfl rfl (run_idx1 (k := (xs.length - 1 : Nat)) Tryz.underlying22 s9es22 (by omega))) (xL _ rfl (run_load1 s9na9 (hrdx2 _ _ _ ((hD1.trans hE1).trans hD3) no_res hv 0 _ rfl)) ?_)
      refine sl_rowOne (v := .string ⟨x2.toArray⟩) tV (wn rfl) rfl rfl hv c4el22 rfl (fun b25 w26 hv => ?_)
      simp only [zP, po]
      obtain ⟨D2, hD2, hv, hrkD2, -, -⟩ := (hv.cellRow (n := 1) (c := 1) (size := 1) rfl (by decide) (by decide)).rowBy
      refine xC c4callable74 rfl ((viewInts D2 _ _ _ 1 [x2] hrkD2 (by simp) (hN.more (((hD1.trans hE1).trans hD3).trans hD2)) hv).mono ?_) rfl
      rintro e w27 ⟨E2, ia2, ic2, ns2, ei2, hE2, rfl, hri2, hir2, hv⟩
      refine ⟨_, rfl, ?_⟩
      rcases ints_one hir2 with ⟨rfl, n2, rfl, hn2⟩ | ⟨rfl, rfl, hn2⟩
      ·refine xM (.tuple #[.slice ia2 1 ic2, .int .i64 0]) rfl (xG (.slice ia2 1 ic2) rfl (ex_extract rfl rfl rfl) ?_)
       simp only [zP, po]
       refine xG (.int .i64 0) rfl (ex_extract rfl rfl rfl) (xA (.slice ia2 1 ic2) rfl ?_)
       refine xA (.int .i64 0) rfl ?_
       simp only [zP, po]
       refine wK k24 (sK fun _ k28 => ?_)
       refine rL (xM (.int .i64 0) rfl ?_)
       refine xG (.bool false) rfl (ex_neq rfl rfl rfl (by decide)) ?_
       simp only [zP, po]
       refine wK k28 (cF rfl ?_)
       refine kS (tK k23 ?_)
       obtain ⟨ib2, io2, had, hrdn2⟩ := int_reads hri2 (show [n2][0]? = some n2 from rfl)
       subst had
       refine rL (xM (.slice (some ⟨ib2, io2, none⟩) 1 ic2) rfl ?_)
       refine xG (.pointer (some ⟨ib2, io2 + 0, none⟩)) rfl (ex_index rfl rfl rfl (run_idx1 (k := 0) Tryz.underlying149 s11es149 (by omega))) (xL _ rfl (run_load1 s2na3 (hrdn2 _ _ _ (Base.Le.refl _) no_res hv 0 _ rfl)) ?_)
       simp only [zP, po]
       refine xA (.int .i64 n2) rfl ?_
       simp only [zP, po]
       refine wK k21 (sK fun _ k29 => ?_)
       refine sK fun _ k30 => rL (xM (.int .i64 ((xs.length - 2 : Nat) : Int)) rfl ?_)
       by_cases hb31 : ((xs.length - 2 : Nat) : Int) < 1
       ·refine xG (.bool true) rfl (ex_lss rfl rfl rfl (decide_eq_true hb31)) (xM (.bool true) rfl ?_)
        simp only [zP, po]
        iterate 2 refine yN rfl ?_
        refine xK true (.bool true) rfl ?_
        simp only [zP, po]
        refine wK k30 (cT rfl ?_)
        refine sK fun _ k32 => rL (xC rscallable24 rfl ((viewWrong E2 _ _ 44 hv).mono ?_) rfl)
        rintro e w34 ⟨s33, rfl, hv⟩
        refine ⟨_, rfl, ?_⟩
        refine xS 0 rfl hv rssz28 rfl (by exact ⟨rfl, rfl, rfl, rfl, trivial⟩) (fun w35 hv => ?_)
        simp only [zO, sp] at hv
        simp only [zP, po]
        refine wK k32 (rR ?_)
        refine tR (bodyPost_ret (res_cell1 rfl rfl (run_load_mid (pre := []) (mid := [.int .i64 1, .string ⟨s33.toArray⟩, .int .i64 0, .slice none 0 0]) (post := []) rswd28 (show Blk _ b4 ([] ++ [.int .i64 1, .string ⟨s33.toArray⟩, .int .i64 0, .slice none 0 0] ++ []) _ from hv.get 0 rfl) rfl)) rfl ?_)
        have hrel : CommonR M clk key xs (rFault s33) := fun n9 h9 h10 h11 => by have := numP_inj h9 hn1; omega
        exact ⟨E2, rFault s33, rpCells 1 s33 0 (.slice none 0 0), ((((hD1.trans hE1).trans hD3).trans hD2).trans hE2), rfl, rpAt_leaf, hrel, (((hv.front 3 rfl).front 3 rfl).sub (List.Sublist.cons_cons _ (List.Sublist.cons_cons _ (List.Sublist.cons _ (List.Sublist.cons _ (List.Sublist.refl _))))))⟩
       refine xG (.bool false) rfl (ex_lss rfl rfl rfl (decide_eq_false hb31)) (xM (.bool false) rfl ?_)
       simp only [zP, po]
       refine xM (.int .i64 n2) rfl ?_
       by_cases hb36 : n2 < 0
       ·refine xG (.bool true) rfl (ex_lss rfl rfl rfl (decide_eq_true hb36)) (xK false (.bool true) rfl ?_)
        simp only [zP, po]
        refine wK k30 (cT rfl ?_)
        refine sK fun _ k37 => rL (xC rscallable24 rfl ((viewWrong E2 _ _ 44 hv).mono ?_) rfl)
        rintro e w39 ⟨s38, rfl, hv⟩
        refine ⟨_, rfl, ?_⟩
        refine xS 0 rfl hv rssz28 rfl (by exact ⟨rfl, rfl, rfl, rfl, trivial⟩) (fun w40 hv => ?_)
        simp only [zO, sp] at hv
        simp only [zP, po]
        refine wK k37 (rR ?_)
        refine tR (bodyPost_ret (res_cell1 rfl rfl (run_load_mid (pre := []) (mid := [.int .i64 1, .string ⟨s38.toArray⟩, .int .i64 0, .slice none 0 0]) (post := []) rswd28 (show Blk _ b4 ([] ++ [.int .i64 1, .string ⟨s38.toArray⟩, .int .i64 0, .slice none 0 0] ++ []) _ from hv.get 0 rfl) rfl)) rfl ?_)
        have hrel : CommonR M clk key xs (rFault s38) := fun n9 h9 h10 h11 => by have := numP_inj h9 hn1; omega
        exact ⟨E2, rFault s38, rpCells 1 s38 0 (.slice none 0 0), ((((hD1.trans hE1).trans hD3).trans hD2).trans hE2), rfl, rpAt_leaf, hrel, (((hv.front 3 rfl).front 3 rfl).sub (List.Sublist.cons_cons _ (List.Sublist.cons_cons _ (List.Sublist.cons _ (List.Sublist.cons _ (List.Sublist.refl _))))))⟩
       refine xG (.bool false) rfl (ex_lss rfl rfl rfl (decide_eq_false hb36)) (xK false (.bool false) rfl ?_)
       simp only [zP, po]
       refine wK k30 (cF rfl ?_)
       refine kS (tK k29 ?_)
       refine sK fun _ k41 => sK fun _ k42 => rL (xM (.bool true) rfl ?_)
       refine xG (.bool false) rfl (ex_not rfl rfl rfl) (xM (.bool false) rfl ?_)
       simp only [zP, po]
       iterate 4 refine yN rfl ?_
       refine xK false (.bool false) rfl ?_
       simp only [zP, po]
       refine wK k42 (cF rfl ?_)
       refine kS (tK k41 ?_)
       refine sK fun _ k43 => ?_
       have hml : (xs.take (xs.length - 2 : Nat)).length = (xs.length - 2 : Nat) := by rw [List.length_take]; omega
       obtain ⟨a3, ha3, ok3, hr3⟩ := sliced_hiV 1 hokx hrx (textCells_len xs) (show (xs.length - 2 : Nat) ≤ xs.length by omega)
       rw [Nat.mul_one] at hr3
       have hr4 : RdV B [] a3 (textCells (xs.take (xs.length - 2 : Nat))) := by have h9 := hr3; rw [show (textCells xs).take (xs.length - 2 : Nat) = textCells (xs.take (xs.length - 2 : Nat)) by simp [textCells]] at h9; exact h9
       refine rW mixed [4] [0,1,2,3,4,5,6,7,8,9] 107 rfl (by kernel_rfl) hv ?_
       simp only [qm, opAt]
       refine dL (.agg #[.pointer (some ⟨v, 0, none⟩), .slice (some ⟨ab, ao, none⟩) args.length ac]) rfl (fun hv => ex_load rfl rfl (run_load_mid (pre := []) (mid := [.pointer (some ⟨v, 0, none⟩), .slice (some ⟨ab, ao, none⟩) args.length ac]) (post := []) c1wd73 (show Blk _ b2 ([] ++ [.pointer (some ⟨v, 0, none⟩), .slice (some ⟨ab, ao, none⟩) args.length ac] ++ []) _ from hv.get 1 rfl) rfl)) (dM (.slice (some ⟨xb, xo, none⟩) xs.length xc) rfl ?_)
       refine dM (.int .i64 ((xs.length - 2 : Nat) : Int)) rfl ?_
       simp only [zP, po]
       refine dG (.slice a3 ((xs.take (xs.length - 2 : Nat)).length) xc) rfl (ex_slice (hi' := some (.int .i64 ((xs.length - 2 : Nat) : Int))) rfl rfl rfl (congrArg some rfl) rfl ((run_hiAny (h := (xs.length - 2 : Nat)) Tryz.underlying22 s9es22 (by have := hokx.le; omega)).trans (by rw [ha3, hml]))) (dS rfl fun w44 hv => ?_)
       replace hv := hv.front 3 rfl
       simp only [List.eraseIdx_cons_succ, List.eraseIdx_cons_zero] at hv
       replace hv := hv.front 3 rfl
       simp only [List.eraseIdx_cons_succ, List.eraseIdx_cons_zero] at hv
       refine mC c3callable69 rfl ((csetSets E2 _ _ v t m s p wb va vc sv clk es M (hM.more ((((hD1.trans hE1).trans hD3).trans hD2).trans hE2)) hO (some ⟨ab, ao, none⟩) ac args a3 xc (xs.take (xs.length - 2 : Nat)) (hr4.more ((((hD1.trans hE1).trans hD3).trans hD2).trans hE2) (fun _ h => h)) (by omega) hv).mono ?_) rfl
       rintro e w45 ⟨F, oa, oc, ss, txs, e1, hF, rfl, htx, hrs, hoks, hss, hv⟩
       have hrt := hss.right hO
       have hssl : ss.length ≤ 1000 := by
        rcases hss with ⟨-, h9, -⟩ | ⟨-, h9, -⟩
        ·omega
        rw [h9]; exact Nat.zero_le _
       refine ⟨_, rfl, dW hv ?_⟩
       refine dM (.tuple #[.slice oa ss.length oc, .int .i64 e1]) rfl ?_
       simp only [zP, po]
       refine dG (.slice oa ss.length oc) rfl (ex_extract rfl rfl rfl) (dG (.int .i64 e1) rfl (ex_extract rfl rfl rfl) ?_)
       refine dA (.slice oa ss.length oc) rfl ?_
       simp only [zP, po]
       refine dA (.int .i64 e1) rfl (dE fun w46 hv => ?_)
       simp only [zP, po]
       refine tK k43 (sK fun _ k47 => ?_)
       refine sK fun _ k48 => rL (xM (.int .i64 e1) rfl ?_)
       by_cases hb49 : e1 ≠ 0
       ·refine xG (.bool true) rfl (ex_neq rfl rfl rfl (decide_eq_true hb49)) ?_
        simp only [zP, po]
        refine wK k48 (cT rfl ?_)
        refine sK fun _ k50 => rL (xM (.int .i64 e1) rfl ?_)
        refine xC rscallable24 rfl ((viewWrong F _ _ e1 hv).mono ?_) rfl
        rintro e w52 ⟨s51, rfl, hv⟩
        refine ⟨_, rfl, ?_⟩
        refine xS 2 rfl hv rssz28 rfl (by exact ⟨rfl, rfl, rfl, rfl, trivial⟩) (fun w53 hv => ?_)
        simp only [zS, zO, sp] at hv
        simp only [zP, po]
        refine wK k50 (rR ?_)
        refine tR (bodyPost_ret (res_cell1 rfl rfl (run_load_mid (pre := []) (mid := [.int .i64 1, .string ⟨s51.toArray⟩, .int .i64 0, .slice none 0 0]) (post := []) rswd28 (show Blk _ b4 ([] ++ [.int .i64 1, .string ⟨s51.toArray⟩, .int .i64 0, .slice none 0 0] ++ []) _ from hv.get 2 rfl) rfl)) rfl ?_)
        have hrel : CommonR M clk key xs (rFault s51) := fun n9 h9 h10 h11 => by have := numP_inj h9 hn1; omega
        exact ⟨F, rFault s51, rpCells 1 s51 0 (.slice none 0 0), (((((hD1.trans hE1).trans hD3).trans hD2).trans hE2).trans hF), rfl, rpAt_leaf, hrel, (((hv.front 1 rfl).front 1 rfl).sub (List.Sublist.cons_cons _ (List.Sublist.cons_cons _ (List.Sublist.cons _ (List.Sublist.cons _ (List.Sublist.refl _))))))⟩
       refine xG (.bool false) rfl (ex_neq rfl rfl rfl (decide_eq_false hb49)) ?_
       simp only [zP, po]
       refine wK k48 (cF rfl ?_)
       refine kS (tK k47 ?_)
       refine sK fun _ k54 => rL (xM (.slice oa ss.length oc) rfl ?_)
       refine xC c3callable71 rfl ((setInter F _ _ oa oc ss txs htx hrs (by omega) (fun s hs => ⟨(setOk_iff.1 (hrt s hs)).2.2, by have := (hrt s hs).1; omega⟩) hoks hv).mono ?_) rfl
       rintro e w55 ⟨G, ra, rc, out, hG, rfl, hoko, hro, hout, hv⟩
       refine ⟨_, rfl, ?_⟩
       have hol : out.length ≤ 512 := by
        rcases hout with ⟨-, rfl⟩ | ⟨q, hq, rfl⟩
        ·simp
        exact Nat.le_trans (List.length_filter_le _ _) (hrt q (List.mem_of_getElem? hq)).1
       refine xG (.int .i64 (out.length : Int)) rfl (ex_len0 Tryz.underlying22 rfl rfl) ?_
       simp only [zP, po]
       refine xA (.int .i64 (out.length : Int)) rfl ?_
       simp only [zP, po]
       refine wK k54 (sK fun _ k56 => ?_)
       refine sK fun _ k57 => rL (xM (.int .i64 n2) rfl ?_)
       by_cases hb58 : n2 > 0
       ·refine xG (.bool true) rfl (ex_gtr rfl rfl rfl (decide_eq_true hb58)) ?_
        simp only [zP, po]
        refine wK k57 (cT rfl ?_)
        refine rL (xM (.int .i64 (out.length : Int)) rfl ?_)
        refine xM (.int .i64 n2) rfl (xG (.int .i64 (if n2 < (out.length : Int) then n2 else (out.length : Int))) rfl (ex_min2 (m := (out.length : Int)) (n := n2) rfl rfl rfl rfl) ?_)
        simp only [zP, po]
        refine xA (.int .i64 (if n2 < (out.length : Int) then n2 else (out.length : Int))) rfl ?_
        simp only [zP, po]
        refine wK k56 (sK fun _ k59 => ?_)
        refine rL (xM (.int .i64 (if n2 < (out.length : Int) then n2 else (out.length : Int))) rfl ?_)
        refine xC c1callable45 rfl ((respInt G _ _ (if n2 < (out.length : Int) then n2 else (out.length : Int)) hv).mono ?_) rfl
        rintro e w60 ⟨rfl, hv⟩
        refine ⟨_, rfl, ?_⟩
        refine xS 2 rfl hv rssz28 rfl (by exact ⟨rfl, rfl, rfl, rfl, trivial⟩) (fun w61 hv => ?_)
        simp only [zS, zO, sp] at hv
        simp only [zP, po]
        refine wK k59 (rR ?_)
        refine bodyPost_ret (res_cell1 rfl rfl (run_load_mid (pre := []) (mid := [.int .i64 2, .string ⟨([] : List UInt8).toArray⟩, .int .i64 (if n2 < (out.length : Int) then n2 else (out.length : Int)), .slice none 0 0]) (post := []) rswd28 (show Blk _ b4 ([] ++ [.int .i64 2, .string ⟨([] : List UInt8).toArray⟩, .int .i64 (if n2 < (out.length : Int) then n2 else (out.length : Int)), .slice none 0 0] ++ []) _ from hv.get 2 rfl) rfl)) rfl ?_
        have hrel : CommonR M clk key xs (rInt (if n2 < (out.length : Int) then n2 else (out.length : Int))) := fun n9 h9 h10 h11 => by have := numP_inj h9 hn1; omega
        exact ⟨G, rInt (if n2 < (out.length : Int) then n2 else (out.length : Int)), rpCells 2 [] (if n2 < (out.length : Int) then n2 else (out.length : Int)) (.slice none 0 0), ((((((hD1.trans hE1).trans hD3).trans hD2).trans hE2).trans hF).trans hG), rfl, rpAt_leaf, hrel, (((hv.front 1 rfl).front 1 rfl).sub (List.Sublist.cons_cons _ (List.Sublist.cons_cons _ (List.Sublist.cons _ (List.Sublist.cons _ (List.Sublist.refl _))))))⟩
       refine xG (.bool false) rfl (ex_gtr rfl rfl rfl (decide_eq_false hb58)) ?_
       simp only [zP, po]
       refine wK k57 (cF rfl ?_)
       refine kS (tK k56 ?_)
       refine sK fun _ k62 => rL (xM (.int .i64 (out.length : Int)) rfl ?_)
       refine xC c1callable45 rfl ((respInt G _ _ (out.length : Int) hv).mono ?_) rfl
       rintro e w63 ⟨rfl, hv⟩
       refine ⟨_, rfl, ?_⟩
       refine xS 2 rfl hv rssz28 rfl (by exact ⟨rfl, rfl, rfl, rfl, trivial⟩) (fun w64 hv => ?_)
       simp only [zS, zO, sp] at hv
       simp only [zP, po]
       refine wK k62 (rR ?_)
       refine bodyPost_ret (res_cell1 rfl rfl (run_load_mid (pre := []) (mid := [.int .i64 2, .string ⟨([] : List UInt8).toArray⟩, .int .i64 (out.length : Int), .slice none 0 0]) (post := []) rswd28 (show Blk _ b4 ([] ++ [.int .i64 2, .string ⟨([] : List UInt8).toArray⟩, .int .i64 (out.length : Int), .slice none 0 0] ++ []) _ from hv.get 2 rfl) rfl)) rfl ?_
       have hrel : CommonR M clk key xs (rInt (out.length : Int)) := fun n9 h9 h10 h11 => by have := numP_inj h9 hn1; omega
       exact ⟨G, rInt (out.length : Int), rpCells 2 [] (out.length : Int) (.slice none 0 0), ((((((hD1.trans hE1).trans hD3).trans hD2).trans hE2).trans hF).trans hG), rfl, rpAt_leaf, hrel, (((hv.front 1 rfl).front 1 rfl).sub (List.Sublist.cons_cons _ (List.Sublist.cons_cons _ (List.Sublist.cons _ (List.Sublist.cons _ (List.Sublist.refl _))))))⟩
      refine xM (.tuple #[.slice ia2 0 ic2, .int .i64 41]) rfl (xG (.slice ia2 0 ic2) rfl (ex_extract rfl rfl rfl) ?_)
      simp only [zP, po]
      refine xG (.int .i64 41) rfl (ex_extract rfl rfl rfl) (xA (.slice ia2 0 ic2) rfl ?_)
      refine xA (.int .i64 41) rfl ?_
      simp only [zP, po]
      refine wK k24 (sK fun _ k65 => ?_)
      refine rL (xM (.int .i64 41) rfl ?_)
      refine xG (.bool true) rfl (ex_neq rfl rfl rfl (by decide)) ?_
      simp only [zP, po]
      refine wK k65 (cT rfl ?_)
      refine sK fun _ k66 => rL (xM (.int .i64 41) rfl ?_)
      refine xC rscallable24 rfl ((viewWrong E2 _ _ 41 hv).mono ?_) rfl
      rintro e w68 ⟨s67, rfl, hv⟩
      refine ⟨_, rfl, ?_⟩
      refine xS 0 rfl hv rssz28 rfl (by exact ⟨rfl, rfl, rfl, rfl, trivial⟩) (fun w69 hv => ?_)
      simp only [zO, sp] at hv
      simp only [zP, po]
      refine wK k66 (rR ?_)
      refine tR (tR ?_)
      refine bodyPost_ret (res_cell1 rfl rfl (run_load_mid (pre := []) (mid := [.int .i64 1, .string ⟨s67.toArray⟩, .int .i64 0, .slice none 0 0]) (post := []) rswd28 (show Blk _ b4 ([] ++ [.int .i64 1, .string ⟨s67.toArray⟩, .int .i64 0, .slice none 0 0] ++ []) _ from hv.get 0 rfl) rfl)) rfl ?_
      have hrel : CommonR M clk key xs (rFault s67) := fun n9 h9 h10 h11 => by have := numP_inj h9 hn1; omega
      exact ⟨E2, rFault s67, rpCells 1 s67 0 (.slice none 0 0), ((((hD1.trans hE1).trans hD3).trans hD2).trans hE2), rfl, rpAt_leaf, hrel, (((hv.front 3 rfl).front 3 rfl).sub (List.Sublist.cons_cons _ (List.Sublist.cons_cons _ (List.Sublist.cons _ (List.Sublist.cons _ (List.Sublist.refl _))))))⟩
     refine xG (.bool false) rfl (ex_eql rfl rfl rfl (decide_eq_false hb20)) (xK true (.bool false) rfl ?_)
     refine xA (.bool false) rfl ?_
     simp only [zP, po]
     refine wK k13 (sK fun _ k70 => ?_)
     refine sK fun _ k71 => rL (xM (.bool false) rfl ?_)
     simp only [zP, po]
     refine wK k71 (cF rfl ?_)
     refine kS (tK k70 ?_)
     refine sK fun _ k72 => sK fun _ k73 => rL (xM (.int .i64 ((xs.length - 2 : Nat) : Int)) rfl ?_)
     by_cases hb74 : ((xs.length - 2 : Nat) : Int) < 1
     ·refine xG (.bool true) rfl (ex_lss rfl rfl rfl (decide_eq_true hb74)) (xM (.bool true) rfl ?_)
      simp only [zP, po]
      iterate 2 refine yN rfl ?_
      refine xK true (.bool true) rfl ?_
      simp only [zP, po]
      refine wK k73 (cT rfl ?_)
      refine sK fun _ k75 => rL (xC rscallable24 rfl ((viewWrong D3 _ _ 44 hv).mono ?_) rfl)
      rintro e w77 ⟨s76, rfl, hv⟩
      refine ⟨_, rfl, ?_⟩
      refine xS 0 rfl hv rssz28 rfl (by exact ⟨rfl, rfl, rfl, rfl, trivial⟩) (fun w78 hv => ?_)
      simp only [zO, sp] at hv
      simp only [zP, po]
      refine wK k75 (rR ?_)
      refine tR (bodyPost_ret (res_cell1 rfl rfl (run_load_mid (pre := []) (mid := [.int .i64 1, .string ⟨s76.toArray⟩, .int .i64 0, .slice none 0 0]) (post := []) rswd28 (show Blk _ b4 ([] ++ [.int .i64 1, .string ⟨s76.toArray⟩, .int .i64 0, .slice none 0 0] ++ []) _ from hv.get 0 rfl) rfl)) rfl ?_)
      have hrel : CommonR M clk key xs (rFault s76) := fun n9 h9 h10 h11 => by have := numP_inj h9 hn1; omega
      exact ⟨D3, rFault s76, rpCells 1 s76 0 (.slice none 0 0), ((hD1.trans hE1).trans hD3), rfl, rpAt_leaf, hrel, (((hv.front 3 rfl).front 3 rfl).sub (List.Sublist.cons_cons _ (List.Sublist.cons_cons _ (List.Sublist.cons _ (List.Sublist.cons _ (List.Sublist.refl _))))))⟩
     refine xG (.bool false) rfl (ex_lss rfl rfl rfl (decide_eq_false hb74)) (xM (.bool false) rfl ?_)
     simp only [zP, po]
     refine xM (.int .i64 0) rfl (xG (.bool false) rfl (ex_lss rfl rfl rfl (by decide)) ?_)
     refine xK false (.bool false) rfl ?_
     simp only [zP, po]
     refine wK k73 (cF rfl ?_)
     refine kS (tK k72 ?_)
     refine sK fun _ k79 => sK fun _ k80 => rL (xM (.bool false) rfl ?_)
     refine xG (.bool true) rfl (ex_not rfl rfl rfl) (xM (.bool true) rfl ?_)
     simp only [zP, po]
     refine xM (.int .i64 ((xs.length - 2 : Nat) : Int)) rfl (xM (.slice (some ⟨xb, xo, none⟩) xs.length xc) rfl ?_)
     refine xG (.int .i64 (xs.length : Int)) rfl (ex_len0 Tryz.underlying22 rfl rfl) ?_
     simp only [zP, po]
     by_cases hb81 : ((xs.length - 2 : Nat) : Int) ≠ (xs.length : Int)
     ·refine xG (.bool true) rfl (ex_neq rfl rfl rfl (decide_eq_true hb81)) (xK true (.bool true) rfl ?_)
      simp only [zP, po]
      refine wK k80 (cT rfl ?_)
      refine sK fun _ k82 => rL (xC rscallable24 rfl ((viewWrong D3 _ _ 42 hv).mono ?_) rfl)
      rintro e w84 ⟨s83, rfl, hv⟩
      refine ⟨_, rfl, ?_⟩
      refine xS 0 rfl hv rssz28 rfl (by exact ⟨rfl, rfl, rfl, rfl, trivial⟩) (fun w85 hv => ?_)
      simp only [zO, sp] at hv
      simp only [zP, po]
      refine wK k82 (rR ?_)
      refine tR (bodyPost_ret (res_cell1 rfl rfl (run_load_mid (pre := []) (mid := [.int .i64 1, .string ⟨s83.toArray⟩, .int .i64 0, .slice none 0 0]) (post := []) rswd28 (show Blk _ b4 ([] ++ [.int .i64 1, .string ⟨s83.toArray⟩, .int .i64 0, .slice none 0 0] ++ []) _ from hv.get 0 rfl) rfl)) rfl ?_)
      have hrel : CommonR M clk key xs (rFault s83) := fun n9 h9 h10 h11 => by have := numP_inj h9 hn1; omega
      exact ⟨D3, rFault s83, rpCells 1 s83 0 (.slice none 0 0), ((hD1.trans hE1).trans hD3), rfl, rpAt_leaf, hrel, (((hv.front 3 rfl).front 3 rfl).sub (List.Sublist.cons_cons _ (List.Sublist.cons_cons _ (List.Sublist.cons _ (List.Sublist.cons _ (List.Sublist.refl _))))))⟩
     refine xG (.bool false) rfl (ex_neq rfl rfl rfl (decide_eq_false hb81)) (xK true (.bool false) rfl ?_)
     simp only [zP, po]
     refine wK k80 (cF rfl ?_)
     refine kS (tK k79 ?_)
     refine sK fun _ k86 => ?_
     have hml : (xs.take (xs.length - 2 : Nat)).length = (xs.length - 2 : Nat) := by rw [List.length_take]; omega
     obtain ⟨a3, ha3, ok3, hr3⟩ := sliced_hiV 1 hokx hrx (textCells_len xs) (show (xs.length - 2 : Nat) ≤ xs.length by omega)
     rw [Nat.mul_one] at hr3
     have hr4 : RdV B [] a3 (textCells (xs.take (xs.length - 2 : Nat))) := by have h9 := hr3; rw [show (textCells xs).take (xs.length - 2 : Nat) = textCells (xs.take (xs.length - 2 : Nat)) by simp [textCells]] at h9; exact h9
     refine rW mixed [4] [0,1,2,3,4,5,6,7,8,9] 107 rfl (by kernel_rfl) hv ?_
     simp only [qm, opAt]
     refine dL (.agg #[.pointer (some ⟨v, 0, none⟩), .slice (some ⟨ab, ao, none⟩) args.length ac]) rfl (fun hv => ex_load rfl rfl (run_load_mid (pre := []) (mid := [.pointer (some ⟨v, 0, none⟩), .slice (some ⟨ab, ao, none⟩) args.length ac]) (post := []) c1wd73 (show Blk _ b2 ([] ++ [.pointer (some ⟨v, 0, none⟩), .slice (some ⟨ab, ao, none⟩) args.length ac] ++ []) _ from hv.get 1 rfl) rfl)) (dM (.slice (some ⟨xb, xo, none⟩) xs.length xc) rfl ?_)
     refine dM (.int .i64 ((xs.length - 2 : Nat) : Int)) rfl ?_
     simp only [zP, po]
     refine dG (.slice a3 ((xs.take (xs.length - 2 : Nat)).length) xc) rfl (ex_slice (hi' := some (.int .i64 ((xs.length - 2 : Nat) : Int))) rfl rfl rfl (congrArg some rfl) rfl ((run_hiAny (h := (xs.length - 2 : Nat)) Tryz.underlying22 s9es22 (by have := hokx.le; omega)).trans (by rw [ha3, hml]))) (dS rfl fun w87 hv => ?_)
     replace hv := hv.front 3 rfl
     simp only [List.eraseIdx_cons_succ, List.eraseIdx_cons_zero] at hv
     replace hv := hv.front 3 rfl
     simp only [List.eraseIdx_cons_succ, List.eraseIdx_cons_zero] at hv
     refine mC c3callable69 rfl ((csetSets D3 _ _ v t m s p wb va vc sv clk es M (hM.more ((hD1.trans hE1).trans hD3)) hO (some ⟨ab, ao, none⟩) ac args a3 xc (xs.take (xs.length - 2 : Nat)) (hr4.more ((hD1.trans hE1).trans hD3) (fun _ h => h)) (by omega) hv).mono ?_) rfl
     rintro e w88 ⟨F, oa, oc, ss, txs, e1, hF, rfl, htx, hrs, hoks, hss, hv⟩
     have hrt := hss.right hO
     have hssl : ss.length ≤ 1000 := by
      rcases hss with ⟨-, h9, -⟩ | ⟨-, h9, -⟩
      ·omega
      rw [h9]; exact Nat.zero_le _
     refine ⟨_, rfl, dW hv ?_⟩
     refine dM (.tuple #[.slice oa ss.length oc, .int .i64 e1]) rfl ?_
     simp only [zP, po]
     refine dG (.slice oa ss.length oc) rfl (ex_extract rfl rfl rfl) (dG (.int .i64 e1) rfl (ex_extract rfl rfl rfl) ?_)
     refine dA (.slice oa ss.length oc) rfl ?_
     simp only [zP, po]
     refine dA (.int .i64 e1) rfl (dE fun w89 hv => ?_)
     simp only [zP, po]
     refine tK k86 (sK fun _ k90 => ?_)
     refine sK fun _ k91 => rL (xM (.int .i64 e1) rfl ?_)
     by_cases hb92 : e1 ≠ 0
     ·refine xG (.bool true) rfl (ex_neq rfl rfl rfl (decide_eq_true hb92)) ?_
      simp only [zP, po]
      refine wK k91 (cT rfl ?_)
      refine sK fun _ k93 => rL (xM (.int .i64 e1) rfl ?_)
      refine xC rscallable24 rfl ((viewWrong F _ _ e1 hv).mono ?_) rfl
      rintro e w95 ⟨s94, rfl, hv⟩
      refine ⟨_, rfl, ?_⟩
      refine xS 2 rfl hv rssz28 rfl (by exact ⟨rfl, rfl, rfl, rfl, trivial⟩) (fun w96 hv => ?_)
      simp only [zS, zO, sp] at hv
      simp only [zP, po]
      refine wK k93 (rR ?_)
      refine tR (bodyPost_ret (res_cell1 rfl rfl (run_load_mid (pre := []) (mid := [.int .i64 1, .string ⟨s94.toArray⟩, .int .i64 0, .slice none 0 0]) (post := []) rswd28 (show Blk _ b4 ([] ++ [.int .i64 1, .string ⟨s94.toArray⟩, .int .i64 0, .slice none 0 0] ++ []) _ from hv.get 2 rfl) rfl)) rfl ?_)
      have hrel : CommonR M clk key xs (rFault s94) := fun n9 h9 h10 h11 => by have := numP_inj h9 hn1; omega
      exact ⟨F, rFault s94, rpCells 1 s94 0 (.slice none 0 0), (((hD1.trans hE1).trans hD3).trans hF), rfl, rpAt_leaf, hrel, (((hv.front 1 rfl).front 1 rfl).sub (List.Sublist.cons_cons _ (List.Sublist.cons_cons _ (List.Sublist.cons _ (List.Sublist.cons _ (List.Sublist.refl _))))))⟩
     refine xG (.bool false) rfl (ex_neq rfl rfl rfl (decide_eq_false hb92)) ?_
     simp only [zP, po]
     refine wK k91 (cF rfl ?_)
     refine kS (tK k90 ?_)
     refine sK fun _ k97 => rL (xM (.slice oa ss.length oc) rfl ?_)
     refine xC c3callable71 rfl ((setInter F _ _ oa oc ss txs htx hrs (by omega) (fun s hs => ⟨(setOk_iff.1 (hrt s hs)).2.2, by have := (hrt s hs).1; omega⟩) hoks hv).mono ?_) rfl
     rintro e w98 ⟨G, ra, rc, out, hG, rfl, hoko, hro, hout, hv⟩
     refine ⟨_, rfl, ?_⟩
     have hol : out.length ≤ 512 := by
      rcases hout with ⟨-, rfl⟩ | ⟨q, hq, rfl⟩
      ·simp
      exact Nat.le_trans (List.length_filter_le _ _) (hrt q (List.mem_of_getElem? hq)).1
     refine xG (.int .i64 (out.length : Int)) rfl (ex_len0 Tryz.underlying22 rfl rfl) ?_
     simp only [zP, po]
     refine xA (.int .i64 (out.length : Int)) rfl ?_
     simp only [zP, po]
     refine wK k97 (sK fun _ k99 => ?_)
     refine sK fun _ k100 => rL (xM (.int .i64 0) rfl ?_)
     refine xG (.bool false) rfl (ex_gtr rfl rfl rfl (by decide)) ?_
     simp only [zP, po]
     refine wK k100 (cF rfl ?_)
     refine kS (tK k99 ?_)
     refine sK fun _ k101 => rL (xM (.int .i64 (out.length : Int)) rfl ?_)
     refine xC c1callable45 rfl ((respInt G _ _ (out.length : Int) hv).mono ?_) rfl
     rintro e w102 ⟨rfl, hv⟩
     refine ⟨_, rfl, ?_⟩
     refine xS 2 rfl hv rssz28 rfl (by exact ⟨rfl, rfl, rfl, rfl, trivial⟩) (fun w103 hv => ?_)
     simp only [zS, zO, sp] at hv
     simp only [zP, po]
     refine wK k101 (rR ?_)
     refine bodyPost_ret (res_cell1 rfl rfl (run_load_mid (pre := []) (mid := [.int .i64 2, .string ⟨([] : List UInt8).toArray⟩, .int .i64 (out.length : Int), .slice none 0 0]) (post := []) rswd28 (show Blk _ b4 ([] ++ [.int .i64 2, .string ⟨([] : List UInt8).toArray⟩, .int .i64 (out.length : Int), .slice none 0 0] ++ []) _ from hv.get 2 rfl) rfl)) rfl ?_
     have hrel : CommonR M clk key xs (rInt (out.length : Int)) := fun n9 h9 h10 h11 => by have := numP_inj h9 hn1; omega
     exact ⟨G, rInt (out.length : Int), rpCells 2 [] (out.length : Int) (.slice none 0 0), ((((hD1.trans hE1).trans hD3).trans hF).trans hG), rfl, rpAt_leaf, hrel, (((hv.front 1 rfl).front 1 rfl).sub (List.Sublist.cons_cons _ (List.Sublist.cons_cons _ (List.Sublist.cons _ (List.Sublist.cons _ (List.Sublist.refl _))))))⟩
    refine xG (.bool false) rfl (ex_eql rfl rfl rfl (decide_eq_false hb16)) (xK true (.bool false) rfl ?_)
    refine xM (.bool false) rfl ?_
    simp only [zP, po]
    iterate 7 refine yN rfl ?_
    refine xK false (.bool false) rfl (xA (.bool false) rfl ?_)
    simp only [zP, po]
    refine wK k13 (sK fun _ k104 => ?_)
    refine sK fun _ k105 => rL (xM (.bool false) rfl ?_)
    simp only [zP, po]
    refine wK k105 (cF rfl ?_)
    refine kS (tK k104 ?_)
    refine sK fun _ k106 => sK fun _ k107 => rL (xM (.int .i64 n1) rfl ?_)
    by_cases hb108 : n1 < 1
    ·refine xG (.bool true) rfl (ex_lss rfl rfl rfl (decide_eq_true hb108)) (xM (.bool true) rfl ?_)
     simp only [zP, po]
     iterate 2 refine yN rfl ?_
     refine xK true (.bool true) rfl ?_
     simp only [zP, po]
     refine wK k107 (cT rfl ?_)
     refine sK fun _ k109 => rL (xC rscallable24 rfl ((viewWrong E1 _ _ 44 hv).mono ?_) rfl)
     rintro e w111 ⟨s110, rfl, hv⟩
     refine ⟨_, rfl, ?_⟩
     refine xS 0 rfl hv rssz28 rfl (by exact ⟨rfl, rfl, rfl, rfl, trivial⟩) (fun w112 hv => ?_)
     simp only [zO, sp] at hv
     simp only [zP, po]
     refine wK k109 (rR ?_)
     refine tR (bodyPost_ret (res_cell1 rfl rfl (run_load_mid (pre := []) (mid := [.int .i64 1, .string ⟨s110.toArray⟩, .int .i64 0, .slice none 0 0]) (post := []) rswd28 (show Blk _ b4 ([] ++ [.int .i64 1, .string ⟨s110.toArray⟩, .int .i64 0, .slice none 0 0] ++ []) _ from hv.get 0 rfl) rfl)) rfl ?_)
     have hrel : CommonR M clk key xs (rFault s110) := fun n9 h9 h10 h11 => by have := numP_inj h9 hn1; omega
     exact ⟨E1, rFault s110, rpCells 1 s110 0 (.slice none 0 0), (hD1.trans hE1), rfl, rpAt_leaf, hrel, (((hv.front 3 rfl).front 3 rfl).sub (List.Sublist.cons_cons _ (List.Sublist.cons_cons _ (List.Sublist.cons _ (List.Sublist.cons _ (List.Sublist.refl _))))))⟩
    refine xG (.bool false) rfl (ex_lss rfl rfl rfl (decide_eq_false hb108)) (xM (.bool false) rfl ?_)
    simp only [zP, po]
    refine xM (.int .i64 0) rfl (xG (.bool false) rfl (ex_lss rfl rfl rfl (by decide)) ?_)
    refine xK false (.bool false) rfl ?_
    simp only [zP, po]
    refine wK k107 (cF rfl ?_)
    refine kS (tK k106 ?_)
    refine sK fun _ k113 => sK fun _ k114 => rL (xM (.bool false) rfl ?_)
    refine xG (.bool true) rfl (ex_not rfl rfl rfl) (xM (.bool true) rfl ?_)
    simp only [zP, po]
    refine xM (.int .i64 n1) rfl (xM (.slice xa xs.length xc) rfl ?_)
    refine xG (.int .i64 (xs.length : Int)) rfl (ex_len0 Tryz.underlying22 rfl rfl) ?_
    simp only [zP, po]
    by_cases hb115 : n1 ≠ (xs.length : Int)
    ·refine xG (.bool true) rfl (ex_neq rfl rfl rfl (decide_eq_true hb115)) (xK true (.bool true) rfl ?_)
     simp only [zP, po]
     refine wK k114 (cT rfl ?_)
     refine sK fun _ k116 => rL (xC rscallable24 rfl ((viewWrong E1 _ _ 42 hv).mono ?_) rfl)
     rintro e w118 ⟨s117, rfl, hv⟩
     refine ⟨_, rfl, ?_⟩
     refine xS 0 rfl hv rssz28 rfl (by exact ⟨rfl, rfl, rfl, rfl, trivial⟩) (fun w119 hv => ?_)
     simp only [zO, sp] at hv
     simp only [zP, po]
     refine wK k116 (rR ?_)
     refine tR (bodyPost_ret (res_cell1 rfl rfl (run_load_mid (pre := []) (mid := [.int .i64 1, .string ⟨s117.toArray⟩, .int .i64 0, .slice none 0 0]) (post := []) rswd28 (show Blk _ b4 ([] ++ [.int .i64 1, .string ⟨s117.toArray⟩, .int .i64 0, .slice none 0 0] ++ []) _ from hv.get 0 rfl) rfl)) rfl ?_)
     have hrel : CommonR M clk key xs (rFault s117) := fun n9 h9 h10 h11 => by have := numP_inj h9 hn1; omega
     exact ⟨E1, rFault s117, rpCells 1 s117 0 (.slice none 0 0), (hD1.trans hE1), rfl, rpAt_leaf, hrel, (((hv.front 3 rfl).front 3 rfl).sub (List.Sublist.cons_cons _ (List.Sublist.cons_cons _ (List.Sublist.cons _ (List.Sublist.cons _ (List.Sublist.refl _))))))⟩
    refine xG (.bool false) rfl (ex_neq rfl rfl rfl (decide_eq_false hb115)) (xK true (.bool false) rfl ?_)
    simp only [zP, po]
    refine wK k114 (cF rfl ?_)
    refine kS (tK k113 ?_)
    refine sK fun _ k120 => ?_
    obtain ⟨mm, hmm⟩ : ∃ m : Nat, n1 = (m : Int) := ⟨n1.toNat, by omega⟩
    subst hmm
    have hml : (xs.take mm).length = mm := by rw [List.length_take]; omega
    obtain ⟨a3, ha3, ok3, hr3⟩ := sliced_hiV 1 hokx hrx (textCells_len xs) (show mm ≤ xs.length by omega)
    rw [Nat.mul_one] at hr3
    have hr4 : RdV B [] a3 (textCells (xs.take mm)) := by have h9 := hr3; rw [show (textCells xs).take mm = textCells (xs.take mm) by simp [textCells]] at h9; exact h9
    refine rW mixed [4] [0,1,2,3,4,5,6,7,8,9] 107 rfl (by kernel_rfl) hv ?_
    simp only [qm, opAt]
    refine dL (.agg #[.pointer (some ⟨v, 0, none⟩), .slice (some ⟨ab, ao, none⟩) args.length ac]) rfl (fun hv => ex_load rfl rfl (run_load_mid (pre := []) (mid := [.pointer (some ⟨v, 0, none⟩), .slice (some ⟨ab, ao, none⟩) args.length ac]) (post := []) c1wd73 (show Blk _ b2 ([] ++ [.pointer (some ⟨v, 0, none⟩), .slice (some ⟨ab, ao, none⟩) args.length ac] ++ []) _ from hv.get 1 rfl) rfl)) (dM (.slice xa xs.length xc) rfl ?_)
    refine dM (.int .i64 (mm : Int)) rfl ?_
    simp only [zP, po]
    refine dG (.slice a3 ((xs.take mm).length) xc) rfl (ex_slice (hi' := some (.int .i64 (mm : Int))) rfl rfl rfl (congrArg some rfl) rfl ((run_hiAny (h := mm) Tryz.underlying22 s9es22 (by have := hokx.le; omega)).trans (by rw [ha3, hml]))) (dS rfl fun w121 hv => ?_)
    replace hv := hv.front 3 rfl
    simp only [List.eraseIdx_cons_succ, List.eraseIdx_cons_zero] at hv
    replace hv := hv.front 3 rfl
    simp only [List.eraseIdx_cons_succ, List.eraseIdx_cons_zero] at hv
    refine mC c3callable69 rfl ((csetSets E1 _ _ v t m s p wb va vc sv clk es M (hM.more (hD1.trans hE1)) hO (some ⟨ab, ao, none⟩) ac args a3 xc (xs.take mm) (hr4.more (hD1.trans hE1) (fun _ h => h)) (by omega) hv).mono ?_) rfl
    rintro e w122 ⟨F, oa, oc, ss, txs, e1, hF, rfl, htx, hrs, hoks, hss, hv⟩
    have hrt := hss.right hO
    have hssl : ss.length ≤ 1000 := by
     rcases hss with ⟨-, h9, -⟩ | ⟨-, h9, -⟩
     ·omega
     rw [h9]; exact Nat.zero_le _
    refine ⟨_, rfl, dW hv ?_⟩
    refine dM (.tuple #[.slice oa ss.length oc, .int .i64 e1]) rfl ?_
    simp only [zP, po]
    refine dG (.slice oa ss.length oc) rfl (ex_extract rfl rfl rfl) (dG (.int .i64 e1) rfl (ex_extract rfl rfl rfl) ?_)
    refine dA (.slice oa ss.length oc) rfl ?_
    simp only [zP, po]
    refine dA (.int .i64 e1) rfl (dE fun w123 hv => ?_)
    simp only [zP, po]
    refine tK k120 (sK fun _ k124 => ?_)
    refine sK fun _ k125 => rL (xM (.int .i64 e1) rfl ?_)
    by_cases hb126 : e1 ≠ 0
    ·refine xG (.bool true) rfl (ex_neq rfl rfl rfl (decide_eq_true hb126)) ?_
     simp only [zP, po]
     refine wK k125 (cT rfl ?_)
     refine sK fun _ k127 => rL (xM (.int .i64 e1) rfl ?_)
     refine xC rscallable24 rfl ((viewWrong F _ _ e1 hv).mono ?_) rfl
     rintro e w129 ⟨s128, rfl, hv⟩
     refine ⟨_, rfl, ?_⟩
     refine xS 2 rfl hv rssz28 rfl (by exact ⟨rfl, rfl, rfl, rfl, trivial⟩) (fun w130 hv => ?_)
     simp only [zS, zO, sp] at hv
     simp only [zP, po]
     refine wK k127 (rR ?_)
     refine tR (bodyPost_ret (res_cell1 rfl rfl (run_load_mid (pre := []) (mid := [.int .i64 1, .string ⟨s128.toArray⟩, .int .i64 0, .slice none 0 0]) (post := []) rswd28 (show Blk _ b4 ([] ++ [.int .i64 1, .string ⟨s128.toArray⟩, .int .i64 0, .slice none 0 0] ++ []) _ from hv.get 2 rfl) rfl)) rfl ?_)
     have hrel : CommonR M clk key xs (rFault s128) := fun n9 h9 h10 h11 => by
      have hxe : xs.take mm = xs := List.take_of_length_le (by have := numP_inj h9 hn1; omega)
      rw [hxe] at hss
      exact ⟨ss, e1, hss, .inl ⟨by omega, rfl⟩⟩
     exact ⟨F, rFault s128, rpCells 1 s128 0 (.slice none 0 0), ((hD1.trans hE1).trans hF), rfl, rpAt_leaf, hrel, (((hv.front 1 rfl).front 1 rfl).sub (List.Sublist.cons_cons _ (List.Sublist.cons_cons _ (List.Sublist.cons _ (List.Sublist.cons _ (List.Sublist.refl _))))))⟩
    refine xG (.bool false) rfl (ex_neq rfl rfl rfl (decide_eq_false hb126)) ?_
    simp only [zP, po]
    refine wK k125 (cF rfl ?_)
    refine kS (tK k124 ?_)
    refine sK fun _ k131 => rL (xM (.slice oa ss.length oc) rfl ?_)
    refine xC c3callable71 rfl ((setInter F _ _ oa oc ss txs htx hrs (by omega) (fun s hs => ⟨(setOk_iff.1 (hrt s hs)).2.2, by have := (hrt s hs).1; omega⟩) hoks hv).mono ?_) rfl
    rintro e w132 ⟨G, ra, rc, out, hG, rfl, hoko, hro, hout, hv⟩
    refine ⟨_, rfl, ?_⟩
    have hol : out.length ≤ 512 := by
     rcases hout with ⟨-, rfl⟩ | ⟨q, hq, rfl⟩
     ·simp
     exact Nat.le_trans (List.length_filter_le _ _) (hrt q (List.mem_of_getElem? hq)).1
    refine xG (.int .i64 (out.length : Int)) rfl (ex_len0 Tryz.underlying22 rfl rfl) ?_
    simp only [zP, po]
    refine xA (.int .i64 (out.length : Int)) rfl ?_
    simp only [zP, po]
    refine wK k131 (sK fun _ k133 => ?_)
    refine sK fun _ k134 => rL (xM (.int .i64 0) rfl ?_)
    refine xG (.bool false) rfl (ex_gtr rfl rfl rfl (by decide)) ?_
    simp only [zP, po]
    refine wK k134 (cF rfl ?_)
    refine kS (tK k133 ?_)
    refine sK fun _ k135 => rL (xM (.int .i64 (out.length : Int)) rfl ?_)
    refine xC c1callable45 rfl ((respInt G _ _ (out.length : Int) hv).mono ?_) rfl
    rintro e w136 ⟨rfl, hv⟩
    refine ⟨_, rfl, ?_⟩
    refine xS 2 rfl hv rssz28 rfl (by exact ⟨rfl, rfl, rfl, rfl, trivial⟩) (fun w137 hv => ?_)
    simp only [zS, zO, sp] at hv
    simp only [zP, po]
    refine wK k135 (rR ?_)
    refine bodyPost_ret (res_cell1 rfl rfl (run_load_mid (pre := []) (mid := [.int .i64 2, .string ⟨([] : List UInt8).toArray⟩, .int .i64 (out.length : Int), .slice none 0 0]) (post := []) rswd28 (show Blk _ b4 ([] ++ [.int .i64 2, .string ⟨([] : List UInt8).toArray⟩, .int .i64 (out.length : Int), .slice none 0 0] ++ []) _ from hv.get 2 rfl) rfl)) rfl ?_
    have hrel : CommonR M clk key xs (rInt (out.length : Int)) := fun n9 h9 h10 h11 => by
     have he1 : e1 = 0 := by omega
     have hxe : xs.take mm = xs := List.take_of_length_le (by have := numP_inj h9 hn1; omega)
     rw [hxe] at hss
     rcases hout with ⟨rfl, -⟩ | ⟨q, hq, rfl⟩
     ·exfalso
      rcases hss with ⟨-, h12, -⟩ | ⟨h12, -⟩
      ·simp at h12; omega
      exact h12 he1
     exact ⟨ss, e1, hss, .inr ⟨he1, q, hq, rfl⟩⟩
    exact ⟨G, rInt (out.length : Int), rpCells 2 [] (out.length : Int) (.slice none 0 0), (((hD1.trans hE1).trans hF).trans hG), rfl, rpAt_leaf, hrel, (((hv.front 1 rfl).front 1 rfl).sub (List.Sublist.cons_cons _ (List.Sublist.cons_cons _ (List.Sublist.cons _ (List.Sublist.cons _ (List.Sublist.refl _))))))⟩
   refine xG (.bool false) rfl (ex_geq rfl rfl rfl (decide_eq_false hb15)) ?_
   simp only [zP, po]
   refine xK true (.bool false) rfl (xM (.bool false) rfl ?_)
   iterate 5 refine yN rfl ?_
   refine xK false (.bool false) rfl ?_
   simp only [zP, po]
   refine xM (.bool false) rfl ?_
   iterate 7 refine yN rfl ?_
   refine xK false (.bool false) rfl (xA (.bool false) rfl ?_)
   simp only [zP, po]
   refine wK k13 (sK fun _ k138 => ?_)
   refine sK fun _ k139 => rL (xM (.bool false) rfl ?_)
   simp only [zP, po]
   refine wK k139 (cF rfl ?_)
   refine kS (tK k138 ?_)
   refine sK fun _ k140 => sK fun _ k141 => rL (xM (.int .i64 n1) rfl ?_)
   by_cases hb142 : n1 < 1
   ·refine xG (.bool true) rfl (ex_lss rfl rfl rfl (decide_eq_true hb142)) (xM (.bool true) rfl ?_)
    simp only [zP, po]
    iterate 2 refine yN rfl ?_
    refine xK true (.bool true) rfl ?_
    simp only [zP, po]
    refine wK k141 (cT rfl ?_)
    refine sK fun _ k143 => rL (xC rscallable24 rfl ((viewWrong E1 _ _ 44 hv).mono ?_) rfl)
    rintro e w145 ⟨s144, rfl, hv⟩
    refine ⟨_, rfl, ?_⟩
    refine xS 0 rfl hv rssz28 rfl (by exact ⟨rfl, rfl, rfl, rfl, trivial⟩) (fun w146 hv => ?_)
    simp only [zO, sp] at hv
    simp only [zP, po]
    refine wK k143 (rR ?_)
    refine tR (bodyPost_ret (res_cell1 rfl rfl (run_load_mid (pre := []) (mid := [.int .i64 1, .string ⟨s144.toArray⟩, .int .i64 0, .slice none 0 0]) (post := []) rswd28 (show Blk _ b4 ([] ++ [.int .i64 1, .string ⟨s144.toArray⟩, .int .i64 0, .slice none 0 0] ++ []) _ from hv.get 0 rfl) rfl)) rfl ?_)
    have hrel : CommonR M clk key xs (rFault s144) := fun n9 h9 h10 h11 => by have := numP_inj h9 hn1; omega
    exact ⟨E1, rFault s144, rpCells 1 s144 0 (.slice none 0 0), (hD1.trans hE1), rfl, rpAt_leaf, hrel, (((hv.front 3 rfl).front 3 rfl).sub (List.Sublist.cons_cons _ (List.Sublist.cons_cons _ (List.Sublist.cons _ (List.Sublist.cons _ (List.Sublist.refl _))))))⟩
   refine xG (.bool false) rfl (ex_lss rfl rfl rfl (decide_eq_false hb142)) (xM (.bool false) rfl ?_)
   simp only [zP, po]
   refine xM (.int .i64 0) rfl (xG (.bool false) rfl (ex_lss rfl rfl rfl (by decide)) ?_)
   refine xK false (.bool false) rfl ?_
   simp only [zP, po]
   refine wK k141 (cF rfl ?_)
   refine kS (tK k140 ?_)
   refine sK fun _ k147 => sK fun _ k148 => rL (xM (.bool false) rfl ?_)
   refine xG (.bool true) rfl (ex_not rfl rfl rfl) (xM (.bool true) rfl ?_)
   simp only [zP, po]
   refine xM (.int .i64 n1) rfl (xM (.slice xa xs.length xc) rfl ?_)
   refine xG (.int .i64 (xs.length : Int)) rfl (ex_len0 Tryz.underlying22 rfl rfl) ?_
   simp only [zP, po]
   by_cases hb149 : n1 ≠ (xs.length : Int)
   ·refine xG (.bool true) rfl (ex_neq rfl rfl rfl (decide_eq_true hb149)) (xK true (.bool true) rfl ?_)
    simp only [zP, po]
    refine wK k148 (cT rfl ?_)
    refine sK fun _ k150 => rL (xC rscallable24 rfl ((viewWrong E1 _ _ 42 hv).mono ?_) rfl)
    rintro e w152 ⟨s151, rfl, hv⟩
    refine ⟨_, rfl, ?_⟩
    refine xS 0 rfl hv rssz28 rfl (by exact ⟨rfl, rfl, rfl, rfl, trivial⟩) (fun w153 hv => ?_)
    simp only [zO, sp] at hv
    simp only [zP, po]
    refine wK k150 (rR ?_)
    refine tR (bodyPost_ret (res_cell1 rfl rfl (run_load_mid (pre := []) (mid := [.int .i64 1, .string ⟨s151.toArray⟩, .int .i64 0, .slice none 0 0]) (post := []) rswd28 (show Blk _ b4 ([] ++ [.int .i64 1, .string ⟨s151.toArray⟩, .int .i64 0, .slice none 0 0] ++ []) _ from hv.get 0 rfl) rfl)) rfl ?_)
    have hrel : CommonR M clk key xs (rFault s151) := fun n9 h9 h10 h11 => by have := numP_inj h9 hn1; omega
    exact ⟨E1, rFault s151, rpCells 1 s151 0 (.slice none 0 0), (hD1.trans hE1), rfl, rpAt_leaf, hrel, (((hv.front 3 rfl).front 3 rfl).sub (List.Sublist.cons_cons _ (List.Sublist.cons_cons _ (List.Sublist.cons _ (List.Sublist.cons _ (List.Sublist.refl _))))))⟩
   refine xG (.bool false) rfl (ex_neq rfl rfl rfl (decide_eq_false hb149)) (xK true (.bool false) rfl ?_)
   simp only [zP, po]
   refine wK k148 (cF rfl ?_)
   refine kS (tK k147 ?_)
   refine sK fun _ k154 => ?_
   obtain ⟨mm, hmm⟩ : ∃ m : Nat, n1 = (m : Int) := ⟨n1.toNat, by omega⟩
   subst hmm
   have hml : (xs.take mm).length = mm := by rw [List.length_take]; omega
   obtain ⟨a3, ha3, ok3, hr3⟩ := sliced_hiV 1 hokx hrx (textCells_len xs) (show mm ≤ xs.length by omega)
   rw [Nat.mul_one] at hr3
   have hr4 : RdV B [] a3 (textCells (xs.take mm)) := by have h9 := hr3; rw [show (textCells xs).take mm = textCells (xs.take mm) by simp [textCells]] at h9; exact h9
   refine rW mixed [4] [0,1,2,3,4,5,6,7,8,9] 107 rfl (by kernel_rfl) hv ?_
   simp only [qm, opAt]
   refine dL (.agg #[.pointer (some ⟨v, 0, none⟩), .slice (some ⟨ab, ao, none⟩) args.length ac]) rfl (fun hv => ex_load rfl rfl (run_load_mid (pre := []) (mid := [.pointer (some ⟨v, 0, none⟩), .slice (some ⟨ab, ao, none⟩) args.length ac]) (post := []) c1wd73 (show Blk _ b2 ([] ++ [.pointer (some ⟨v, 0, none⟩), .slice (some ⟨ab, ao, none⟩) args.length ac] ++ []) _ from hv.get 1 rfl) rfl)) (dM (.slice xa xs.length xc) rfl ?_)
   refine dM (.int .i64 (mm : Int)) rfl ?_
   simp only [zP, po]
   refine dG (.slice a3 ((xs.take mm).length) xc) rfl (ex_slice (hi' := some (.int .i64 (mm : Int))) rfl rfl rfl (congrArg some rfl) rfl ((run_hiAny (h := mm) Tryz.underlying22 s9es22 (by have := hokx.le; omega)).trans (by rw [ha3, hml]))) (dS rfl fun w155 hv => ?_)
   replace hv := hv.front 3 rfl
   simp only [List.eraseIdx_cons_succ, List.eraseIdx_cons_zero] at hv
   replace hv := hv.front 3 rfl
   simp only [List.eraseIdx_cons_succ, List.eraseIdx_cons_zero] at hv
   refine mC c3callable69 rfl ((csetSets E1 _ _ v t m s p wb va vc sv clk es M (hM.more (hD1.trans hE1)) hO (some ⟨ab, ao, none⟩) ac args a3 xc (xs.take mm) (hr4.more (hD1.trans hE1) (fun _ h => h)) (by omega) hv).mono ?_) rfl
   rintro e w156 ⟨F, oa, oc, ss, txs, e1, hF, rfl, htx, hrs, hoks, hss, hv⟩
   have hrt := hss.right hO
   have hssl : ss.length ≤ 1000 := by
    rcases hss with ⟨-, h9, -⟩ | ⟨-, h9, -⟩
    ·omega
    rw [h9]; exact Nat.zero_le _
   refine ⟨_, rfl, dW hv ?_⟩
   refine dM (.tuple #[.slice oa ss.length oc, .int .i64 e1]) rfl ?_
   simp only [zP, po]
   refine dG (.slice oa ss.length oc) rfl (ex_extract rfl rfl rfl) (dG (.int .i64 e1) rfl (ex_extract rfl rfl rfl) ?_)
   refine dA (.slice oa ss.length oc) rfl ?_
   simp only [zP, po]
   refine dA (.int .i64 e1) rfl (dE fun w157 hv => ?_)
   simp only [zP, po]
   refine tK k154 (sK fun _ k158 => ?_)
   refine sK fun _ k159 => rL (xM (.int .i64 e1) rfl ?_)
   by_cases hb160 : e1 ≠ 0
   ·refine xG (.bool true) rfl (ex_neq rfl rfl rfl (decide_eq_true hb160)) ?_
    simp only [zP, po]
    refine wK k159 (cT rfl ?_)
    refine sK fun _ k161 => rL (xM (.int .i64 e1) rfl ?_)
    refine xC rscallable24 rfl ((viewWrong F _ _ e1 hv).mono ?_) rfl
    rintro e w163 ⟨s162, rfl, hv⟩
    refine ⟨_, rfl, ?_⟩
    refine xS 2 rfl hv rssz28 rfl (by exact ⟨rfl, rfl, rfl, rfl, trivial⟩) (fun w164 hv => ?_)
    simp only [zS, zO, sp] at hv
    simp only [zP, po]
    refine wK k161 (rR ?_)
    refine tR (bodyPost_ret (res_cell1 rfl rfl (run_load_mid (pre := []) (mid := [.int .i64 1, .string ⟨s162.toArray⟩, .int .i64 0, .slice none 0 0]) (post := []) rswd28 (show Blk _ b4 ([] ++ [.int .i64 1, .string ⟨s162.toArray⟩, .int .i64 0, .slice none 0 0] ++ []) _ from hv.get 2 rfl) rfl)) rfl ?_)
    have hrel : CommonR M clk key xs (rFault s162) := fun n9 h9 h10 h11 => by
     have hxe : xs.take mm = xs := List.take_of_length_le (by have := numP_inj h9 hn1; omega)
     rw [hxe] at hss
     exact ⟨ss, e1, hss, .inl ⟨by omega, rfl⟩⟩
    exact ⟨F, rFault s162, rpCells 1 s162 0 (.slice none 0 0), ((hD1.trans hE1).trans hF), rfl, rpAt_leaf, hrel, (((hv.front 1 rfl).front 1 rfl).sub (List.Sublist.cons_cons _ (List.Sublist.cons_cons _ (List.Sublist.cons _ (List.Sublist.cons _ (List.Sublist.refl _))))))⟩
   refine xG (.bool false) rfl (ex_neq rfl rfl rfl (decide_eq_false hb160)) ?_
   simp only [zP, po]
   refine wK k159 (cF rfl ?_)
   refine kS (tK k158 ?_)
   refine sK fun _ k165 => rL (xM (.slice oa ss.length oc) rfl ?_)
   refine xC c3callable71 rfl ((setInter F _ _ oa oc ss txs htx hrs (by omega) (fun s hs => ⟨(setOk_iff.1 (hrt s hs)).2.2, by have := (hrt s hs).1; omega⟩) hoks hv).mono ?_) rfl
   rintro e w166 ⟨G, ra, rc, out, hG, rfl, hoko, hro, hout, hv⟩
   refine ⟨_, rfl, ?_⟩
   have hol : out.length ≤ 512 := by
    rcases hout with ⟨-, rfl⟩ | ⟨q, hq, rfl⟩
    ·simp
    exact Nat.le_trans (List.length_filter_le _ _) (hrt q (List.mem_of_getElem? hq)).1
   refine xG (.int .i64 (out.length : Int)) rfl (ex_len0 Tryz.underlying22 rfl rfl) ?_
   simp only [zP, po]
   refine xA (.int .i64 (out.length : Int)) rfl ?_
   simp only [zP, po]
   refine wK k165 (sK fun _ k167 => ?_)
   refine sK fun _ k168 => rL (xM (.int .i64 0) rfl ?_)
   refine xG (.bool false) rfl (ex_gtr rfl rfl rfl (by decide)) ?_
   simp only [zP, po]
   refine wK k168 (cF rfl ?_)
   refine kS (tK k167 ?_)
   refine sK fun _ k169 => rL (xM (.int .i64 (out.length : Int)) rfl ?_)
   refine xC c1callable45 rfl ((respInt G _ _ (out.length : Int) hv).mono ?_) rfl
   rintro e w170 ⟨rfl, hv⟩
   refine ⟨_, rfl, ?_⟩
   refine xS 2 rfl hv rssz28 rfl (by exact ⟨rfl, rfl, rfl, rfl, trivial⟩) (fun w171 hv => ?_)
   simp only [zS, zO, sp] at hv
   simp only [zP, po]
   refine wK k169 (rR ?_)
   refine bodyPost_ret (res_cell1 rfl rfl (run_load_mid (pre := []) (mid := [.int .i64 2, .string ⟨([] : List UInt8).toArray⟩, .int .i64 (out.length : Int), .slice none 0 0]) (post := []) rswd28 (show Blk _ b4 ([] ++ [.int .i64 2, .string ⟨([] : List UInt8).toArray⟩, .int .i64 (out.length : Int), .slice none 0 0] ++ []) _ from hv.get 2 rfl) rfl)) rfl ?_
   have hrel : CommonR M clk key xs (rInt (out.length : Int)) := fun n9 h9 h10 h11 => by
    have he1 : e1 = 0 := by omega
    have hxe : xs.take mm = xs := List.take_of_length_le (by have := numP_inj h9 hn1; omega)
    rw [hxe] at hss
    rcases hout with ⟨rfl, -⟩ | ⟨q, hq, rfl⟩
    ·exfalso
     rcases hss with ⟨-, h12, -⟩ | ⟨h12, -⟩
     ·simp at h12; omega
     exact h12 he1
    exact ⟨ss, e1, hss, .inr ⟨he1, q, hq, rfl⟩⟩
   exact ⟨G, rInt (out.length : Int), rpCells 2 [] (out.length : Int) (.slice none 0 0), (((hD1.trans hE1).trans hF).trans hG), rfl, rpAt_leaf, hrel, (((hv.front 1 rfl).front 1 rfl).sub (List.Sublist.cons_cons _ (List.Sublist.cons_cons _ (List.Sublist.cons _ (List.Sublist.cons _ (List.Sublist.refl _))))))⟩
  refine xG (.bool false) rfl (ex_geq rfl rfl rfl (decide_eq_false hb14)) (xM (.bool false) rfl ?_)
  simp only [zP, po]
  iterate 3 refine yN rfl ?_
  refine xK false (.bool false) rfl (xM (.bool false) rfl ?_)
  iterate 5 refine yN rfl ?_
  refine xK false (.bool false) rfl ?_
  simp only [zP, po]
  refine xM (.bool false) rfl ?_
  iterate 7 refine yN rfl ?_
  refine xK false (.bool false) rfl (xA (.bool false) rfl ?_)
  simp only [zP, po]
  refine wK k13 (sK fun _ k172 => ?_)
  refine sK fun _ k173 => rL (xM (.bool false) rfl ?_)
  simp only [zP, po]
  refine wK k173 (cF rfl ?_)
  refine kS (tK k172 ?_)
  refine sK fun _ k174 => sK fun _ k175 => rL (xM (.int .i64 n1) rfl ?_)
  by_cases hb176 : n1 < 1
  ·refine xG (.bool true) rfl (ex_lss rfl rfl rfl (decide_eq_true hb176)) (xM (.bool true) rfl ?_)
   simp only [zP, po]
   iterate 2 refine yN rfl ?_
   refine xK true (.bool true) rfl ?_
   simp only [zP, po]
   refine wK k175 (cT rfl ?_)
   refine sK fun _ k177 => rL (xC rscallable24 rfl ((viewWrong E1 _ _ 44 hv).mono ?_) rfl)
   rintro e w179 ⟨s178, rfl, hv⟩
   refine ⟨_, rfl, ?_⟩
   refine xS 0 rfl hv rssz28 rfl (by exact ⟨rfl, rfl, rfl, rfl, trivial⟩) (fun w180 hv => ?_)
   simp only [zO, sp] at hv
   simp only [zP, po]
   refine wK k177 (rR ?_)
   refine tR (bodyPost_ret (res_cell1 rfl rfl (run_load_mid (pre := []) (mid := [.int .i64 1, .string ⟨s178.toArray⟩, .int .i64 0, .slice none 0 0]) (post := []) rswd28 (show Blk _ b4 ([] ++ [.int .i64 1, .string ⟨s178.toArray⟩, .int .i64 0, .slice none 0 0] ++ []) _ from hv.get 0 rfl) rfl)) rfl ?_)
   have hrel : CommonR M clk key xs (rFault s178) := fun n9 h9 h10 h11 => by have := numP_inj h9 hn1; omega
   exact ⟨E1, rFault s178, rpCells 1 s178 0 (.slice none 0 0), (hD1.trans hE1), rfl, rpAt_leaf, hrel, (((hv.front 3 rfl).front 3 rfl).sub (List.Sublist.cons_cons _ (List.Sublist.cons_cons _ (List.Sublist.cons _ (List.Sublist.cons _ (List.Sublist.refl _))))))⟩
  refine xG (.bool false) rfl (ex_lss rfl rfl rfl (decide_eq_false hb176)) (xM (.bool false) rfl ?_)
  simp only [zP, po]
  refine xM (.int .i64 0) rfl (xG (.bool false) rfl (ex_lss rfl rfl rfl (by decide)) ?_)
  refine xK false (.bool false) rfl ?_
  simp only [zP, po]
  refine wK k175 (cF rfl ?_)
  refine kS (tK k174 ?_)
  refine sK fun _ k181 => sK fun _ k182 => rL (xM (.bool false) rfl ?_)
  refine xG (.bool true) rfl (ex_not rfl rfl rfl) (xM (.bool true) rfl ?_)
  simp only [zP, po]
  refine xM (.int .i64 n1) rfl (xM (.slice xa xs.length xc) rfl ?_)
  refine xG (.int .i64 (xs.length : Int)) rfl (ex_len0 Tryz.underlying22 rfl rfl) ?_
  simp only [zP, po]
  by_cases hb183 : n1 ≠ (xs.length : Int)
  ·refine xG (.bool true) rfl (ex_neq rfl rfl rfl (decide_eq_true hb183)) (xK true (.bool true) rfl ?_)
   simp only [zP, po]
   refine wK k182 (cT rfl ?_)
   refine sK fun _ k184 => rL (xC rscallable24 rfl ((viewWrong E1 _ _ 42 hv).mono ?_) rfl)
   rintro e w186 ⟨s185, rfl, hv⟩
   refine ⟨_, rfl, ?_⟩
   refine xS 0 rfl hv rssz28 rfl (by exact ⟨rfl, rfl, rfl, rfl, trivial⟩) (fun w187 hv => ?_)
   simp only [zO, sp] at hv
   simp only [zP, po]
   refine wK k184 (rR ?_)
   refine tR (bodyPost_ret (res_cell1 rfl rfl (run_load_mid (pre := []) (mid := [.int .i64 1, .string ⟨s185.toArray⟩, .int .i64 0, .slice none 0 0]) (post := []) rswd28 (show Blk _ b4 ([] ++ [.int .i64 1, .string ⟨s185.toArray⟩, .int .i64 0, .slice none 0 0] ++ []) _ from hv.get 0 rfl) rfl)) rfl ?_)
   have hrel : CommonR M clk key xs (rFault s185) := fun n9 h9 h10 h11 => by have := numP_inj h9 hn1; omega
   exact ⟨E1, rFault s185, rpCells 1 s185 0 (.slice none 0 0), (hD1.trans hE1), rfl, rpAt_leaf, hrel, (((hv.front 3 rfl).front 3 rfl).sub (List.Sublist.cons_cons _ (List.Sublist.cons_cons _ (List.Sublist.cons _ (List.Sublist.cons _ (List.Sublist.refl _))))))⟩
  refine xG (.bool false) rfl (ex_neq rfl rfl rfl (decide_eq_false hb183)) (xK true (.bool false) rfl ?_)
  simp only [zP, po]
  refine wK k182 (cF rfl ?_)
  refine kS (tK k181 ?_)
  refine sK fun _ k188 => ?_
  obtain ⟨mm, hmm⟩ : ∃ m : Nat, n1 = (m : Int) := ⟨n1.toNat, by omega⟩
  subst hmm
  have hml : (xs.take mm).length = mm := by rw [List.length_take]; omega
  obtain ⟨a3, ha3, ok3, hr3⟩ := sliced_hiV 1 hokx hrx (textCells_len xs) (show mm ≤ xs.length by omega)
  rw [Nat.mul_one] at hr3
  have hr4 : RdV B [] a3 (textCells (xs.take mm)) := by have h9 := hr3; rw [show (textCells xs).take mm = textCells (xs.take mm) by simp [textCells]] at h9; exact h9
  refine rW mixed [4] [0,1,2,3,4,5,6,7,8,9] 107 rfl (by kernel_rfl) hv ?_
  simp only [qm, opAt]
  refine dL (.agg #[.pointer (some ⟨v, 0, none⟩), .slice (some ⟨ab, ao, none⟩) args.length ac]) rfl (fun hv => ex_load rfl rfl (run_load_mid (pre := []) (mid := [.pointer (some ⟨v, 0, none⟩), .slice (some ⟨ab, ao, none⟩) args.length ac]) (post := []) c1wd73 (show Blk _ b2 ([] ++ [.pointer (some ⟨v, 0, none⟩), .slice (some ⟨ab, ao, none⟩) args.length ac] ++ []) _ from hv.get 1 rfl) rfl)) (dM (.slice xa xs.length xc) rfl ?_)
  refine dM (.int .i64 (mm : Int)) rfl ?_
  simp only [zP, po]
  refine dG (.slice a3 ((xs.take mm).length) xc) rfl (ex_slice (hi' := some (.int .i64 (mm : Int))) rfl rfl rfl (congrArg some rfl) rfl ((run_hiAny (h := mm) Tryz.underlying22 s9es22 (by have := hokx.le; omega)).trans (by rw [ha3, hml]))) (dS rfl fun w189 hv => ?_)
  replace hv := hv.front 3 rfl
  simp only [List.eraseIdx_cons_succ, List.eraseIdx_cons_zero] at hv
  replace hv := hv.front 3 rfl
  simp only [List.eraseIdx_cons_succ, List.eraseIdx_cons_zero] at hv
  refine mC c3callable69 rfl ((csetSets E1 _ _ v t m s p wb va vc sv clk es M (hM.more (hD1.trans hE1)) hO (some ⟨ab, ao, none⟩) ac args a3 xc (xs.take mm) (hr4.more (hD1.trans hE1) (fun _ h => h)) (by omega) hv).mono ?_) rfl
  rintro e w190 ⟨F, oa, oc, ss, txs, e1, hF, rfl, htx, hrs, hoks, hss, hv⟩
  have hrt := hss.right hO
  have hssl : ss.length ≤ 1000 := by
   rcases hss with ⟨-, h9, -⟩ | ⟨-, h9, -⟩
   ·omega
   rw [h9]; exact Nat.zero_le _
  refine ⟨_, rfl, dW hv ?_⟩
  refine dM (.tuple #[.slice oa ss.length oc, .int .i64 e1]) rfl ?_
  simp only [zP, po]
  refine dG (.slice oa ss.length oc) rfl (ex_extract rfl rfl rfl) (dG (.int .i64 e1) rfl (ex_extract rfl rfl rfl) ?_)
  refine dA (.slice oa ss.length oc) rfl ?_
  simp only [zP, po]
  refine dA (.int .i64 e1) rfl (dE fun w191 hv => ?_)
  simp only [zP, po]
  refine tK k188 (sK fun _ k192 => ?_)
  refine sK fun _ k193 => rL (xM (.int .i64 e1) rfl ?_)
  by_cases hb194 : e1 ≠ 0
  ·refine xG (.bool true) rfl (ex_neq rfl rfl rfl (decide_eq_true hb194)) ?_
   simp only [zP, po]
   refine wK k193 (cT rfl ?_)
   refine sK fun _ k195 => rL (xM (.int .i64 e1) rfl ?_)
   refine xC rscallable24 rfl ((viewWrong F _ _ e1 hv).mono ?_) rfl
   rintro e w197 ⟨s196, rfl, hv⟩
   refine ⟨_, rfl, ?_⟩
   refine xS 2 rfl hv rssz28 rfl (by exact ⟨rfl, rfl, rfl, rfl, trivial⟩) (fun w198 hv => ?_)
   simp only [zS, zO, sp] at hv
   simp only [zP, po]
   refine wK k195 (rR ?_)
   refine tR (bodyPost_ret (res_cell1 rfl rfl (run_load_mid (pre := []) (mid := [.int .i64 1, .string ⟨s196.toArray⟩, .int .i64 0, .slice none 0 0]) (post := []) rswd28 (show Blk _ b4 ([] ++ [.int .i64 1, .string ⟨s196.toArray⟩, .int .i64 0, .slice none 0 0] ++ []) _ from hv.get 2 rfl) rfl)) rfl ?_)
   have hrel : CommonR M clk key xs (rFault s196) := fun n9 h9 h10 h11 => by
    have hxe : xs.take mm = xs := List.take_of_length_le (by have := numP_inj h9 hn1; omega)
    rw [hxe] at hss
    exact ⟨ss, e1, hss, .inl ⟨by omega, rfl⟩⟩
   exact ⟨F, rFault s196, rpCells 1 s196 0 (.slice none 0 0), ((hD1.trans hE1).trans hF), rfl, rpAt_leaf, hrel, (((hv.front 1 rfl).front 1 rfl).sub (List.Sublist.cons_cons _ (List.Sublist.cons_cons _ (List.Sublist.cons _ (List.Sublist.cons _ (List.Sublist.refl _))))))⟩
  refine xG (.bool false) rfl (ex_neq rfl rfl rfl (decide_eq_false hb194)) ?_
  simp only [zP, po]
  refine wK k193 (cF rfl ?_)
  refine kS (tK k192 ?_)
  refine sK fun _ k199 => rL (xM (.slice oa ss.length oc) rfl ?_)
  refine xC c3callable71 rfl ((setInter F _ _ oa oc ss txs htx hrs (by omega) (fun s hs => ⟨(setOk_iff.1 (hrt s hs)).2.2, by have := (hrt s hs).1; omega⟩) hoks hv).mono ?_) rfl
  rintro e w200 ⟨G, ra, rc, out, hG, rfl, hoko, hro, hout, hv⟩
  refine ⟨_, rfl, ?_⟩
  have hol : out.length ≤ 512 := by
   rcases hout with ⟨-, rfl⟩ | ⟨q, hq, rfl⟩
   ·simp
   exact Nat.le_trans (List.length_filter_le _ _) (hrt q (List.mem_of_getElem? hq)).1
  refine xG (.int .i64 (out.length : Int)) rfl (ex_len0 Tryz.underlying22 rfl rfl) ?_
  simp only [zP, po]
  refine xA (.int .i64 (out.length : Int)) rfl ?_
  simp only [zP, po]
  refine wK k199 (sK fun _ k201 => ?_)
  refine sK fun _ k202 => rL (xM (.int .i64 0) rfl ?_)
  refine xG (.bool false) rfl (ex_gtr rfl rfl rfl (by decide)) ?_
  simp only [zP, po]
  refine wK k202 (cF rfl ?_)
  refine kS (tK k201 ?_)
  refine sK fun _ k203 => rL (xM (.int .i64 (out.length : Int)) rfl ?_)
  refine xC c1callable45 rfl ((respInt G _ _ (out.length : Int) hv).mono ?_) rfl
  rintro e w204 ⟨rfl, hv⟩
  refine ⟨_, rfl, ?_⟩
  refine xS 2 rfl hv rssz28 rfl (by exact ⟨rfl, rfl, rfl, rfl, trivial⟩) (fun w205 hv => ?_)
  simp only [zS, zO, sp] at hv
  simp only [zP, po]
  refine wK k203 (rR ?_)
  refine bodyPost_ret (res_cell1 rfl rfl (run_load_mid (pre := []) (mid := [.int .i64 2, .string ⟨([] : List UInt8).toArray⟩, .int .i64 (out.length : Int), .slice none 0 0]) (post := []) rswd28 (show Blk _ b4 ([] ++ [.int .i64 2, .string ⟨([] : List UInt8).toArray⟩, .int .i64 (out.length : Int), .slice none 0 0] ++ []) _ from hv.get 2 rfl) rfl)) rfl ?_
  have hrel : CommonR M clk key xs (rInt (out.length : Int)) := fun n9 h9 h10 h11 => by
   have he1 : e1 = 0 := by omega
   have hxe : xs.take mm = xs := List.take_of_length_le (by have := numP_inj h9 hn1; omega)
   rw [hxe] at hss
   rcases hout with ⟨rfl, -⟩ | ⟨q, hq, rfl⟩
   ·exfalso
    rcases hss with ⟨-, h12, -⟩ | ⟨h12, -⟩
    ·simp at h12; omega
    exact h12 he1
   exact ⟨ss, e1, hss, .inr ⟨he1, q, hq, rfl⟩⟩
  exact ⟨G, rInt (out.length : Int), rpCells 2 [] (out.length : Int) (.slice none 0 0), (((hD1.trans hE1).trans hF).trans hG), rfl, rpAt_leaf, hrel, (((hv.front 1 rfl).front 1 rfl).sub (List.Sublist.cons_cons _ (List.Sublist.cons_cons _ (List.Sublist.cons _ (List.Sublist.cons _ (List.Sublist.refl _))))))⟩
 simp only [zP, po]
 refine xM (.tuple #[.slice ia1 0 ic1, .int .i64 41]) rfl (xG (.slice ia1 0 ic1) rfl (ex_extract rfl rfl rfl) ?_)
 refine xG (.int .i64 41) rfl (ex_extract rfl rfl rfl) ?_
 simp only [zP, po]
 refine xA (.slice ia1 0 ic1) rfl (xA (.int .i64 41) rfl ?_)
 simp only [zP, po]
 refine wK k6 (sK fun _ k206 => ?_)
 refine sK fun _ k207 => rL (xM (.int .i64 41) rfl ?_)
 refine xG (.bool true) rfl (ex_neq rfl rfl rfl (by decide)) ?_
 simp only [zP, po]
 refine wK k207 (cT rfl ?_)
 refine sK fun _ k208 => rL (xM (.int .i64 41) rfl ?_)
 refine xC rscallable24 rfl ((viewWrong E1 _ _ 41 hv).mono ?_) rfl
 rintro e w210 ⟨s209, rfl, hv⟩
 refine ⟨_, rfl, ?_⟩
 refine xS 0 rfl hv rssz28 rfl (by exact ⟨rfl, rfl, rfl, rfl, trivial⟩) (fun w211 hv => ?_)
 simp only [zO, sp] at hv
 simp only [zP, po]
 refine wK k208 (rR ?_)
 refine tR (bodyPost_ret (res_cell1 rfl rfl (run_load_mid (pre := []) (mid := [.int .i64 1, .string ⟨s209.toArray⟩, .int .i64 0, .slice none 0 0]) (post := []) rswd28 (show Blk _ b4 ([] ++ [.int .i64 1, .string ⟨s209.toArray⟩, .int .i64 0, .slice none 0 0] ++ []) _ from hv.get 0 rfl) rfl)) rfl ?_)
 have hrel : CommonR M clk key xs (rFault s209) := fun n9 h9 h10 h11 => (numP_not h9 hn1).elim
 exact ⟨E1, rFault s209, rpCells 1 s209 0 (.slice none 0 0), (hD1.trans hE1), rfl, rpAt_leaf, hrel, (((hv.front 3 rfl).front 3 rfl).sub (List.Sublist.cons_cons _ (List.Sublist.cons_cons _ (List.Sublist.cons _ (List.Sublist.cons _ (List.Sublist.refl _))))))⟩
end Go.Proofs.YtoljdfjnannakaaGreatDoor
/- cset: do, of the commands that CsetMoves gives. -/
namespace Go.Proofs.YtoljdfjnannakaaGreatDoor
open Go.RowKit Go.Pm
theorem run_sshT {P : Program} {t : TypeId} {l : List UInt8} (ht : P.underlying t = some .string) {j : Nat} (hj : j ≤ l.length) (w : World) : (Instr.sliceAt t (.string ⟨l.toArray⟩) none (some (.int .i64 (j : Int))) none).run P w = .ok (.string ⟨(l.take j).toArray⟩) w := by
 have hs : (⟨l.toArray⟩ : ByteArray).size = l.length := rfl
 rw [run_sliceAt_string w t _ _ _ _ ht, run_slice_string_h w t ⟨l.toArray⟩ ht .i64 (j : Int) (by omega) (by rw [hs]; omega), ByteArray.extract_mk]
 simp
def DoR (M : List (List UInt8 × Ver)) (clk : Int) (name : List UInt8) (args : List (List UInt8)) (M' : List (List UInt8 × Ver)) (r : Rp) : Prop :=
 (name = nSADD ∧ ∃ k, args[0]? = some k ∧ ChangeR M clk k true (args.drop 1) M' r) ∨
 ((name = nSISM ∨ name = nSMEM) ∧ M' = M ∧ ∃ k, args[0]? = some k ∧ AskR M clk name k (args.drop 1) r) ∨
 (name = nSDIFF ∧ M' = M ∧ ∃ out ec, CombR M clk nSDIFF args out ec ∧ DoneR ec (rStrs out) r) ∨
 ((name = nSDIFFS ∨ name = nSUNIONS) ∧ ∃ k out ec, args[0]? = some k ∧ CombR M clk (name.take (name.length - 5)) (args.drop 1) out ec ∧ ((ec ≠ 0 ∧ M' = M ∧ IsF r) ∨ (ec = 0 ∧ ∃ e2, KeepI M clk k (setV out) 0 e2 M' ∧ DoneR e2 (rInt (out.length : Int)) r))) ∨
 (name = nSICARD ∧ M' = M ∧ ∃ k, args[0]? = some k ∧ CommonR M clk k (args.drop 1) r) ∨
 (name = nSMOVE ∧ ∃ k l x, args[0]? = some k ∧ args[1]? = some l ∧ args[2]? = some x ∧ MoveR M clk k l x M' r)
theorem rp_parts {B : Base} {r : Rp} {cs : List Value} (h : RpAt B r cs) : ∃ k s n v, cs = rpCells k s n v := by
 cases r; simp only [RpAt] at h
 obtain ⟨v, xs, h1, -⟩ := h
 exact ⟨_, _, _, v, h1⟩
theorem CombR.len {M : List (List UInt8 × Ver)} {clk ec : Int} {name : List UInt8} {keys out : List (List UInt8)} (hO : OkM M) (h : CombR M clk name keys out ec) : out.length ≤ 512 := by
 obtain ⟨ss, e1, hs, ⟨-, -, rfl⟩ | ⟨-, ⟨-, -, q, hq, rfl⟩ | ⟨-, -, -, ⟨-, rfl⟩ | ⟨q, hq, rfl⟩⟩ | ⟨-, -, j, -, ⟨-, rfl, -⟩ | ⟨-, h1, rfl⟩⟩⟩⟩ := h
 ·simp
 ·exact Nat.le_trans (List.length_filter_le _ _) (hs.right hO q (List.mem_of_getElem? hq)).1
 ·simp
 ·exact Nat.le_trans (List.length_filter_le _ _) (hs.right hO q (List.mem_of_getElem? hq)).1
 ·simp
 exact h1
theorem c5al28 (w : World) : (Instr.alloc 28 true (.tuple #[])).run Tryz.prog w = .ok (.pointer (some ⟨w.heap.size, 0, none⟩)) (w.alloc (.cells ([.int .i64 0, .string ⟨([] : List UInt8).toArray⟩, .int .i64 0, .slice none 0 0] : List Value).toArray 28)) := by kernel_rfl
theorem c5callable39 : Callable Tryz.prog 39 := ⟨_, Tryz.func39, by kernel_rfl, by kernel_rfl⟩
theorem c5callable40 : Callable Tryz.prog 40 := ⟨_, Tryz.func40, by kernel_rfl, by kernel_rfl⟩
theorem c5callable41 : Callable Tryz.prog 41 := ⟨_, Tryz.func41, by kernel_rfl, by kernel_rfl⟩
theorem c5callable46 : Callable Tryz.prog 46 := ⟨_, Tryz.func46, by kernel_rfl, by kernel_rfl⟩
theorem c5callable47 : Callable Tryz.prog 47 := ⟨_, Tryz.func47, by kernel_rfl, by kernel_rfl⟩
set_option maxHeartbeats 32000000 in
theorem csetDoM (B : Base) (H : List Res) (w : World) (v t m s p wb : Nat) (va : Option Addr) (vc : Nat) (sv : Value) (clk : Int) (es : List (List UInt8 × Value)) (M : List (List UInt8 × Ver)) (hM : VM B es M) (hO : OkM M) (aa : Option Addr) (ac : Nat) (args : List (List UInt8)) (hra : RdV B [] aa (textCells args)) (hoka : SliceOk aa args.length ac) (hma : args.length ≤ 1000) (name : List UInt8) (hnm : name ∈ movesNames) (hal : 1 ≤ args.length) (hc2 : name = nSISM → 2 ≤ args.length) (hcs : name = nSDIFFS ∨ name = nSUNIONS → 2 ≤ args.length) (hc3 : name = nSMOVE → 3 ≤ args.length) (hxl : ∀ x ∈ args, x.length ≤ 9223372036854775807) (hN : NumB B) (hv : Inv B (Res.cell v [.iface 62 (.pointer (some ⟨t, 0, none⟩))] 39 :: txR t m s p wb va vc sv clk es :: H) w) :
  Calls Tryz.prog 26 #[.agg #[.pointer (some ⟨v, 0, none⟩), .slice aa args.length ac], .string ⟨name.toArray⟩] w fun e w' => ∃ C es' M' r cs, B.Le C ∧ e = .returned (.agg cs.toArray) ∧ RpAt C r cs ∧ VM C es' M' ∧ OkM M' ∧ DoR M clk name args M' r ∧ Inv C (Res.cell v [.iface 62 (.pointer (some ⟨t, 0, none⟩))] 39 :: txR t m s p wb va vc sv clk es' :: H) w' := by
 obtain ⟨key, hkey⟩ : ∃ k, args[0]? = some k := ⟨_, List.getElem?_eq_getElem (show 0 < args.length by omega)⟩
 have hd1 : (args.drop 1).length = args.length - 1 := List.length_drop
 obtain ⟨a3, c3, ha3, ok3, hr3⟩ := sliced_fromV 1 hoka hra (textCells_len args) (show 1 ≤ args.length by omega) (by decide)
 rw [Nat.mul_one, text_drop] at hr3
 rw [← hd1] at ok3
 refine cW Tryz.func26 rfl Tryz.ntmps26 ?_
 simp only [al]
 refine sK fun _ k1 => rL (sl_box (L := [.pointer (some ⟨v, 0, none⟩), .slice aa args.length ac]) tV (wn rfl) rfl rfl hv (fun w => by kernel_rfl) (fun b2 w3 hv => ?_))
 refine sl_alloc tV (wn rfl) rfl hv c5al28 (fun b4 w5 hv => ?_)
 simp only [zP, po]
 refine wK k1 (sK fun _ k6 => ?_)
 refine rL (xF (.pointer (some ⟨b2, 1, none⟩)) rfl (c1fa73_1 _ _ _) ?_)
 refine xL _ rfl (run_load1 s1na22 (hv.load 1 1 rfl rfl)) (xA (.slice aa args.length ac) rfl ?_)
 simp only [zP, po]
 refine wK k6 (sK fun _ k7 => ?_)
 refine sK fun _ k8 => rL (xM (.string ⟨name.toArray⟩) rfl ?_)
 simp only [zP, po]
 refine wK k8 (bB ?_)
 refine sK fun _ k9 => sK fun _ k10 => rL ?_
 by_cases hb11 : name = ([83, 65, 68, 68] : List UInt8)
 ·refine xG (.bool true) rfl (ex_seql rfl rfl rfl (decide_eq_true hb11)) (xA (.bool true) rfl ?_)
  simp only [zP, po]
  refine wK k10 (cT rfl ?_)
  refine kS (tK k9 ?_)
  refine cT rfl (sK fun _ k12 => ?_)
  refine rW mixed [5, 6] [0,1,2,3,4,5,6] 107 rfl (by kernel_rfl) hv ?_
  simp only [qm, opAt]
  refine dL (.agg #[.pointer (some ⟨v, 0, none⟩), .slice aa args.length ac]) rfl (fun hv => ex_load rfl rfl (run_load_mid (pre := []) (mid := [.pointer (some ⟨v, 0, none⟩), .slice aa args.length ac]) (post := []) c1wd73 (show Blk _ b2 ([] ++ [.pointer (some ⟨v, 0, none⟩), .slice aa args.length ac] ++ []) _ from hv.get 1 rfl) rfl)) (dM (.string ⟨name.toArray⟩) rfl ?_)
  refine dG (.bool true) rfl (ex_seql rfl rfl rfl (decide_eq_true hb11)) ?_
  simp only [zP, po]
  refine dM (.slice aa args.length ac) rfl (dG (.slice a3 ((args.drop 1).length) c3) rfl (ex_slice (lo' := some (.int .i64 ((1 : Nat) : Int))) rfl rfl (congrArg some rfl) rfl rfl ((run_fromAny Tryz.underlying22 s9es22 (by omega)).trans (by rw [ha3, hd1]))) ?_)
  refine dS rfl fun w13 hv => ?_
  replace hv := hv.front 3 rfl
  simp only [List.eraseIdx_cons_succ, List.eraseIdx_cons_zero] at hv
  replace hv := hv.front 3 rfl
  simp only [List.eraseIdx_cons_succ, List.eraseIdx_cons_zero] at hv
  refine mC c5callable39 rfl ((csetChange B _ _ v t m s p wb va vc sv clk es M hM hO aa ac args hra hoka (by omega) key hkey true a3 c3 (args.drop 1) ok3 hr3 (by omega) hv).mono ?_) rfl
  rintro e w14 ⟨C, es', M', r, cs, hC, rfl, hrp, hM', hO', hrel, hv⟩
  obtain ⟨rk, rs, rn, rv, rfl⟩ := rp_parts hrp
  refine ⟨_, rfl, dW hv ?_⟩
  simp only [zP, po]
  refine dS rfl fun w15 hv => mS 2 rfl hv rssz28 rfl (by exact ⟨rfl, rfl, rfl, hrp.lv.2, trivial⟩) (fun w16 hv => ?_)
  simp only [zS, zO, sp] at hv
  refine dW hv (dE fun w17 hv => ?_)
  simp only [zP, po]
  refine tK k12 (rR ?_)
  refine bZ (tR ?_)
  refine bodyPost_ret (res_cell1 rfl rfl (run_load_mid (pre := []) (mid := [.int .i64 rk, .string ⟨rs.toArray⟩, .int .i64 rn, rv]) (post := []) rswd28 (show Blk _ b4 ([] ++ [.int .i64 rk, .string ⟨rs.toArray⟩, .int .i64 rn, rv] ++ []) _ from hv.get 2 rfl) rfl)) rfl (⟨C, es', M', r, _, hC, rfl, hrp, hM', hO', .inl ⟨hb11, key, hkey, hrel⟩, (((hv.front 1 rfl).front 1 rfl).sub (List.Sublist.cons_cons _ (List.Sublist.cons_cons _ (List.Sublist.cons _ (List.Sublist.cons _ (List.Sublist.refl _))))))⟩)
 refine xG (.bool false) rfl (ex_seql rfl rfl rfl (decide_eq_false hb11)) (xA (.bool false) rfl ?_)
 simp only [zP, po]
 refine wK k10 (cF rfl ?_)
 refine rL ?_
 by_cases hb18 : name = ([83, 82, 69, 77] : List UInt8)
 ·exfalso; rw [hb18] at hnm; exact absurd hnm (by decide)
 refine xG (.bool false) rfl (ex_seql rfl rfl rfl (decide_eq_false hb18)) (xA (.bool false) rfl ?_)
 simp only [zP, po]
 refine wK k9 (cF rfl ?_)
 refine sK fun _ k19 => sK fun _ k20 => rL ?_
 by_cases hb21 : name = ([83, 67, 65, 82, 68] : List UInt8)
 ·exfalso; rw [hb21] at hnm; exact absurd hnm (by decide)
 refine xG (.bool false) rfl (ex_seql rfl rfl rfl (decide_eq_false hb21)) (xA (.bool false) rfl ?_)
 simp only [zP, po]
 refine wK k20 (cF rfl ?_)
 refine sK fun _ k22 => rL ?_
 by_cases hb23 : name = ([83, 73, 83, 77, 69, 77, 66, 69, 82] : List UInt8)
 ·refine xG (.bool true) rfl (ex_seql rfl rfl rfl (decide_eq_true hb23)) (xA (.bool true) rfl ?_)
  simp only [zP, po]
  refine wK k22 (cT rfl ?_)
  refine kS (tK k19 ?_)
  refine cT rfl (sK fun _ k24 => ?_)
  refine rW mixed [4, 5] [0,1,2,3,4,5] 107 rfl (by kernel_rfl) hv ?_
  simp only [qm, opAt]
  refine dL (.agg #[.pointer (some ⟨v, 0, none⟩), .slice aa args.length ac]) rfl (fun hv => ex_load rfl rfl (run_load_mid (pre := []) (mid := [.pointer (some ⟨v, 0, none⟩), .slice aa args.length ac]) (post := []) c1wd73 (show Blk _ b2 ([] ++ [.pointer (some ⟨v, 0, none⟩), .slice aa args.length ac] ++ []) _ from hv.get 1 rfl) rfl)) (dM (.string ⟨name.toArray⟩) rfl ?_)
  refine dM (.slice aa args.length ac) rfl ?_
  simp only [zP, po]
  refine dG (.slice a3 ((args.drop 1).length) c3) rfl (ex_slice (lo' := some (.int .i64 ((1 : Nat) : Int))) rfl rfl (congrArg some rfl) rfl rfl ((run_fromAny Tryz.underlying22 s9es22 (by omega)).trans (by rw [ha3, hd1]))) (dS rfl fun w25 hv => ?_)
  replace hv := hv.front 3 rfl
  simp only [List.eraseIdx_cons_succ, List.eraseIdx_cons_zero] at hv
  replace hv := hv.front 3 rfl
  simp only [List.eraseIdx_cons_succ, List.eraseIdx_cons_zero] at hv
  refine mC c5callable40 rfl ((csetAsk B _ _ v t m s p wb va vc sv clk es M hM hO aa ac args hra hoka (by omega) key hkey name (.inr (.inl hb23)) a3 c3 (args.drop 1) hr3 (by omega) (fun h9 => by have := hc2 h9; omega) hv).mono ?_) rfl
  rintro e w26 ⟨C, r, cs, hC, rfl, hrp, hrel, hv⟩
  obtain ⟨rk, rs, rn, rv, rfl⟩ := rp_parts hrp
  refine ⟨_, rfl, dW hv ?_⟩
  refine dS rfl fun w27 hv => mS 2 rfl hv rssz28 rfl (by exact ⟨rfl, rfl, rfl, hrp.lv.2, trivial⟩) (fun w28 hv => ?_)
  simp only [zS, zO, sp] at hv
  refine dW hv (dE fun w29 hv => ?_)
  simp only [zP, po]
  refine tK k24 (rR ?_)
  refine bZ (tR ?_)
  refine bodyPost_ret (res_cell1 rfl rfl (run_load_mid (pre := []) (mid := [.int .i64 rk, .string ⟨rs.toArray⟩, .int .i64 rn, rv]) (post := []) rswd28 (show Blk _ b4 ([] ++ [.int .i64 rk, .string ⟨rs.toArray⟩, .int .i64 rn, rv] ++ []) _ from hv.get 2 rfl) rfl)) rfl (⟨C, es, M, r, _, hC, rfl, hrp, hM.more hC, hO, .inr (.inl ⟨.inl hb23, rfl, key, hkey, hrel⟩), (((hv.front 1 rfl).front 1 rfl).sub (List.Sublist.cons_cons _ (List.Sublist.cons_cons _ (List.Sublist.cons _ (List.Sublist.cons _ (List.Sublist.refl _))))))⟩)
 refine xG (.bool false) rfl (ex_seql rfl rfl rfl (decide_eq_false hb23)) (xA (.bool false) rfl ?_)
 simp only [zP, po]
 refine wK k22 (cF rfl ?_)
 refine sK fun _ k30 => rL ?_
 by_cases hb31 : name = ([83, 77, 69, 77, 66, 69, 82, 83] : List UInt8)
 ·refine xG (.bool true) rfl (ex_seql rfl rfl rfl (decide_eq_true hb31)) (xA (.bool true) rfl ?_)
  simp only [zP, po]
  refine wK k30 (cT rfl ?_)
  refine kS (tK k19 ?_)
  refine cT rfl (sK fun _ k32 => ?_)
  refine rW mixed [4, 5] [0,1,2,3,4,5] 107 rfl (by kernel_rfl) hv ?_
  simp only [qm, opAt]
  refine dL (.agg #[.pointer (some ⟨v, 0, none⟩), .slice aa args.length ac]) rfl (fun hv => ex_load rfl rfl (run_load_mid (pre := []) (mid := [.pointer (some ⟨v, 0, none⟩), .slice aa args.length ac]) (post := []) c1wd73 (show Blk _ b2 ([] ++ [.pointer (some ⟨v, 0, none⟩), .slice aa args.length ac] ++ []) _ from hv.get 1 rfl) rfl)) (dM (.string ⟨name.toArray⟩) rfl ?_)
  refine dM (.slice aa args.length ac) rfl ?_
  simp only [zP, po]
  refine dG (.slice a3 ((args.drop 1).length) c3) rfl (ex_slice (lo' := some (.int .i64 ((1 : Nat) : Int))) rfl rfl (congrArg some rfl) rfl rfl ((run_fromAny Tryz.underlying22 s9es22 (by omega)).trans (by rw [ha3, hd1]))) (dS rfl fun w33 hv => ?_)
  replace hv := hv.front 3 rfl
  simp only [List.eraseIdx_cons_succ, List.eraseIdx_cons_zero] at hv
  replace hv := hv.front 3 rfl
  simp only [List.eraseIdx_cons_succ, List.eraseIdx_cons_zero] at hv
  refine mC c5callable40 rfl ((csetAsk B _ _ v t m s p wb va vc sv clk es M hM hO aa ac args hra hoka (by omega) key hkey name (.inr (.inr hb31)) a3 c3 (args.drop 1) hr3 (by omega) (fun h9 => by have := hc2 h9; omega) hv).mono ?_) rfl
  rintro e w34 ⟨C, r, cs, hC, rfl, hrp, hrel, hv⟩
  obtain ⟨rk, rs, rn, rv, rfl⟩ := rp_parts hrp
  refine ⟨_, rfl, dW hv ?_⟩
  refine dS rfl fun w35 hv => mS 2 rfl hv rssz28 rfl (by exact ⟨rfl, rfl, rfl, hrp.lv.2, trivial⟩) (fun w36 hv => ?_)
  simp only [zS, zO, sp] at hv
  refine dW hv (dE fun w37 hv => ?_)
  simp only [zP, po]
  refine tK k32 (rR ?_)
  refine bZ (tR ?_)
  refine bodyPost_ret (res_cell1 rfl rfl (run_load_mid (pre := []) (mid := [.int .i64 rk, .string ⟨rs.toArray⟩, .int .i64 rn, rv]) (post := []) rswd28 (show Blk _ b4 ([] ++ [.int .i64 rk, .string ⟨rs.toArray⟩, .int .i64 rn, rv] ++ []) _ from hv.get 2 rfl) rfl)) rfl (⟨C, es, M, r, _, hC, rfl, hrp, hM.more hC, hO, .inr (.inl ⟨.inr hb31, rfl, key, hkey, hrel⟩), (((hv.front 1 rfl).front 1 rfl).sub (List.Sublist.cons_cons _ (List.Sublist.cons_cons _ (List.Sublist.cons _ (List.Sublist.cons _ (List.Sublist.refl _))))))⟩)
 refine xG (.bool false) rfl (ex_seql rfl rfl rfl (decide_eq_false hb31)) (xA (.bool false) rfl ?_)
 simp only [zP, po]
 refine wK k30 (cF rfl ?_)
 refine rL ?_
 by_cases hb38 : name = ([83, 77, 73, 83, 77, 69, 77, 66, 69, 82] : List UInt8)
 ·exfalso; rw [hb38] at hnm; exact absurd hnm (by decide)
 refine xG (.bool false) rfl (ex_seql rfl rfl rfl (decide_eq_false hb38)) (xA (.bool false) rfl ?_)
 simp only [zP, po]
 refine wK k19 (cF rfl ?_)
 refine sK fun _ k39 => sK fun _ k40 => rL ?_
 by_cases hb41 : name = ([83, 68, 73, 70, 70] : List UInt8)
 ·refine xG (.bool true) rfl (ex_seql rfl rfl rfl (decide_eq_true hb41)) (xA (.bool true) rfl ?_)
  simp only [zP, po]
  refine wK k40 (cT rfl ?_)
  refine kS (tK k39 ?_)
  refine cT rfl (sK fun _ k42 => ?_)
  refine rL (xL (.agg #[.pointer (some ⟨v, 0, none⟩), .slice aa args.length ac]) rfl (run_load_mid (pre := []) (mid := [.pointer (some ⟨v, 0, none⟩), .slice aa args.length ac]) (post := []) c1wd73 (show Blk _ b2 ([] ++ [.pointer (some ⟨v, 0, none⟩), .slice aa args.length ac] ++ []) _ from hv.get 1 rfl) rfl) ?_)
  refine xM (.string ⟨name.toArray⟩) rfl (xM (.slice aa args.length ac) rfl ?_)
  simp only [zP, po]
  replace hv := hv.front 3 rfl
  simp only [List.eraseIdx_cons_succ, List.eraseIdx_cons_zero] at hv
  replace hv := hv.front 3 rfl
  simp only [List.eraseIdx_cons_succ, List.eraseIdx_cons_zero] at hv
  refine xC c5callable41 rfl ((csetCombined B _ _ v t m s p wb va vc sv clk es M hM hO aa ac args name aa ac args hra (by omega) (by omega) hv).mono ?_) rfl
  rintro e w43 ⟨C, oa, oc, out, ec, hC, rfl, hoko, hro, hcmb, hv⟩
  refine ⟨_, rfl, ?_⟩
  have hol := hcmb.len hO
  refine xM (.tuple #[.slice oa out.length oc, .int .i64 ec]) rfl (xG (.slice oa out.length oc) rfl (ex_extract rfl rfl rfl) ?_)
  simp only [zP, po]
  refine xG (.int .i64 ec) rfl (ex_extract rfl rfl rfl) (xA (.slice oa out.length oc) rfl ?_)
  refine xA (.int .i64 ec) rfl ?_
  simp only [zP, po]
  refine wK k42 (sK fun _ k44 => ?_)
  refine rL (xM (.int .i64 ec) rfl ?_)
  refine xM (.slice oa out.length oc) rfl (xC c2callable43 rfl ((respStrs C _ _ oa oc out hro (by omega) hv).mono ?_) rfl)
  rintro e w45 ⟨D, lv, hD, rfl, hrp, hv⟩
  refine ⟨_, rfl, ?_⟩
  simp only [zP, po]
  refine xC c1callable42 rfl ((viewDone D _ _ ec 5 0 ([] : List UInt8) lv hrp.lv.1 hrp.lv.2 hv).mono ?_) rfl
  rintro e w46 ⟨xr, hxr, rfl, hv⟩
  refine ⟨_, rfl, ?_⟩
  rcases hxr with ⟨hec0, rfl⟩ | ⟨hec0, s47, rfl⟩
  ·refine xS 2 rfl hv rssz28 rfl (by exact ⟨rfl, rfl, rfl, hrp.lv.2, trivial⟩) (fun w48 hv => ?_)
   simp only [zS, zO, sp] at hv
   simp only [zP, po]
   refine wK k44 (rR ?_)
   refine bZ (tR ?_)
   refine bodyPost_ret (res_cell1 rfl rfl (run_load_mid (pre := []) (mid := [.int .i64 5, .string ⟨([] : List UInt8).toArray⟩, .int .i64 0, lv]) (post := []) rswd28 (show Blk _ b4 ([] ++ [.int .i64 5, .string ⟨([] : List UInt8).toArray⟩, .int .i64 0, lv] ++ []) _ from hv.get 2 rfl) rfl)) rfl ?_
   have hnd : name = nSDIFF := hb41
   rw [hnd] at hcmb
   exact ⟨D, es, M, rStrs out, rpCells 5 [] 0 lv, (hC.trans hD), rfl, hrp, hM.more (hC.trans hD), hO, .inr (.inr (.inl ⟨hnd, rfl, out, ec, hcmb, .inl ⟨by omega, rfl⟩⟩)), (((hv.front 1 rfl).front 1 rfl).sub (List.Sublist.cons_cons _ (List.Sublist.cons_cons _ (List.Sublist.cons _ (List.Sublist.cons _ (List.Sublist.refl _))))))⟩
  refine xS 2 rfl hv rssz28 rfl (by exact ⟨rfl, rfl, rfl, rfl, trivial⟩) (fun w49 hv => ?_)
  simp only [zS, zO, sp] at hv
  simp only [zP, po]
  refine wK k44 (rR ?_)
  refine bZ (tR ?_)
  refine bodyPost_ret (res_cell1 rfl rfl (run_load_mid (pre := []) (mid := [.int .i64 1, .string ⟨s47.toArray⟩, .int .i64 0, .slice none 0 0]) (post := []) rswd28 (show Blk _ b4 ([] ++ [.int .i64 1, .string ⟨s47.toArray⟩, .int .i64 0, .slice none 0 0] ++ []) _ from hv.get 2 rfl) rfl)) rfl ?_
  have hnd : name = nSDIFF := hb41
  rw [hnd] at hcmb
  exact ⟨D, es, M, rFault s47, rpCells 1 s47 0 (.slice none 0 0), (hC.trans hD), rfl, rpAt_leaf, hM.more (hC.trans hD), hO, .inr (.inr (.inl ⟨hnd, rfl, out, ec, hcmb, .inr ⟨by omega, rfl⟩⟩)), (((hv.front 1 rfl).front 1 rfl).sub (List.Sublist.cons_cons _ (List.Sublist.cons_cons _ (List.Sublist.cons _ (List.Sublist.cons _ (List.Sublist.refl _))))))⟩
 refine xG (.bool false) rfl (ex_seql rfl rfl rfl (decide_eq_false hb41)) (xA (.bool false) rfl ?_)
 simp only [zP, po]
 refine wK k40 (cF rfl ?_)
 refine sK fun _ k50 => rL ?_
 by_cases hb51 : name = ([83, 73, 78, 84, 69, 82] : List UInt8)
 ·exfalso; rw [hb51] at hnm; exact absurd hnm (by decide)
 refine xG (.bool false) rfl (ex_seql rfl rfl rfl (decide_eq_false hb51)) (xA (.bool false) rfl ?_)
 simp only [zP, po]
 refine wK k50 (cF rfl ?_)
 refine rL ?_
 by_cases hb52 : name = ([83, 85, 78, 73, 79, 78] : List UInt8)
 ·exfalso; rw [hb52] at hnm; exact absurd hnm (by decide)
 refine xG (.bool false) rfl (ex_seql rfl rfl rfl (decide_eq_false hb52)) (xA (.bool false) rfl ?_)
 simp only [zP, po]
 refine wK k39 (cF rfl ?_)
 refine sK fun _ k53 => sK fun _ k54 => rL ?_
 by_cases hb55 : name = ([83, 68, 73, 70, 70, 83, 84, 79, 82, 69] : List UInt8)
 ·refine xG (.bool true) rfl (ex_seql rfl rfl rfl (decide_eq_true hb55)) ?_
  subst hb55
  refine xA (.bool true) rfl ?_
  simp only [zP, po]
  refine wK k54 (cT rfl ?_)
  refine kS (tK k53 ?_)
  refine cT rfl (sK fun _ k56 => ?_)
  refine rW mixed [8] [0,1,2,3,4,5,6,7,8,9,10,11,12,13] 107 rfl (by kernel_rfl) hv ?_
  simp only [qm, opAt]
  refine dL (.agg #[.pointer (some ⟨v, 0, none⟩), .slice aa args.length ac]) rfl (fun hv => ex_load rfl rfl (run_load_mid (pre := []) (mid := [.pointer (some ⟨v, 0, none⟩), .slice aa args.length ac]) (post := []) c1wd73 (show Blk _ b2 ([] ++ [.pointer (some ⟨v, 0, none⟩), .slice aa args.length ac] ++ []) _ from hv.get 1 rfl) rfl)) (dM (.string ⟨([83, 68, 73, 70, 70, 83, 84, 79, 82, 69] : List UInt8).toArray⟩) rfl ?_)
  refine dM (.string ⟨([83, 68, 73, 70, 70, 83, 84, 79, 82, 69] : List UInt8).toArray⟩) rfl ?_
  simp only [zP, po]
  refine dG (.int .i64 10) rfl (ex_lenStr (l := ([83, 68, 73, 70, 70, 83, 84, 79, 82, 69] : List UInt8)) Tryz.underlying9 rfl rfl) (dG (.int .i64 5) rfl (ex_sub rfl rfl rfl (i64_in (by omega))) ?_)
  refine dG (.string ⟨([83, 68, 73, 70, 70] : List UInt8).toArray⟩) rfl (ex_slice (hi' := some (.int .i64 ((5 : Nat) : Int))) rfl rfl rfl (congrArg some rfl) rfl (run_sshT (l := ([83, 68, 73, 70, 70, 83, 84, 79, 82, 69] : List UInt8)) (j := 5) Tryz.underlying9 (by decide) _)) ?_
  simp only [zP, po]
  refine dM (.slice aa args.length ac) rfl (dG (.slice a3 ((args.drop 1).length) c3) rfl (ex_slice (lo' := some (.int .i64 ((1 : Nat) : Int))) rfl rfl (congrArg some rfl) rfl rfl ((run_fromAny Tryz.underlying22 s9es22 (by omega)).trans (by rw [ha3, hd1]))) ?_)
  refine dS rfl fun w57 hv => ?_
  replace hv := hv.front 3 rfl
  simp only [List.eraseIdx_cons_succ, List.eraseIdx_cons_zero] at hv
  replace hv := hv.front 3 rfl
  simp only [List.eraseIdx_cons_succ, List.eraseIdx_cons_zero] at hv
  refine mC c5callable41 rfl ((csetCombined B _ _ v t m s p wb va vc sv clk es M hM hO aa ac args ([83, 68, 73, 70, 70] : List UInt8) a3 c3 (args.drop 1) hr3 (by omega) (by have := hcs (.inl rfl); omega) hv).mono ?_) rfl
  rintro e w58 ⟨C, oa, oc, out, ec, hC, rfl, hoko, hro, hcmb, hv⟩
  have hol := hcmb.len hO
  refine ⟨_, rfl, dW hv ?_⟩
  simp only [zP, po]
  refine dM (.tuple #[.slice oa out.length oc, .int .i64 ec]) rfl (dG (.slice oa out.length oc) rfl (ex_extract rfl rfl rfl) ?_)
  refine dG (.int .i64 ec) rfl (ex_extract rfl rfl rfl) ?_
  simp only [zP, po]
  refine dA (.slice oa out.length oc) rfl (dA (.int .i64 ec) rfl ?_)
  refine dE fun w59 hv => ?_
  simp only [zP, po]
  refine tK k56 (sK fun _ k60 => ?_)
  refine sK fun _ k61 => rL (xM (.int .i64 ec) rfl ?_)
  by_cases hb62 : ec ≠ 0
  ·refine xG (.bool true) rfl (ex_neq rfl rfl rfl (decide_eq_true hb62)) ?_
   simp only [zP, po]
   refine wK k61 (cT rfl ?_)
   refine sK fun _ k63 => rL (xM (.int .i64 ec) rfl ?_)
   refine xC rscallable24 rfl ((viewWrong C _ _ ec hv).mono ?_) rfl
   rintro e w65 ⟨s64, rfl, hv⟩
   refine ⟨_, rfl, ?_⟩
   refine xS 2 rfl hv rssz28 rfl (by exact ⟨rfl, rfl, rfl, rfl, trivial⟩) (fun w66 hv => ?_)
   simp only [zS, zO, sp] at hv
   simp only [zP, po]
   refine wK k63 (rR ?_)
   refine tR (bZ ?_)
   refine tR (bodyPost_ret (res_cell1 rfl rfl (run_load_mid (pre := []) (mid := [.int .i64 1, .string ⟨s64.toArray⟩, .int .i64 0, .slice none 0 0]) (post := []) rswd28 (show Blk _ b4 ([] ++ [.int .i64 1, .string ⟨s64.toArray⟩, .int .i64 0, .slice none 0 0] ++ []) _ from hv.get 2 rfl) rfl)) rfl ?_)
   have hcmb2 : CombR M clk (([83, 68, 73, 70, 70, 83, 84, 79, 82, 69] : List UInt8).take (([83, 68, 73, 70, 70, 83, 84, 79, 82, 69] : List UInt8).length - 5)) (args.drop 1) out ec := hcmb
   exact ⟨C, es, M, rFault s64, rpCells 1 s64 0 (.slice none 0 0), hC, rfl, rpAt_leaf, hM.more hC, hO, .inr (.inr (.inr (.inl ⟨(.inl rfl), key, out, ec, hkey, hcmb2, .inl ⟨by omega, rfl, rfl⟩⟩))), (((hv.front 1 rfl).front 1 rfl).sub (List.Sublist.cons_cons _ (List.Sublist.cons_cons _ (List.Sublist.cons _ (List.Sublist.cons _ (List.Sublist.refl _))))))⟩
  refine xG (.bool false) rfl (ex_neq rfl rfl rfl (decide_eq_false hb62)) ?_
  simp only [zP, po]
  refine wK k61 (cF rfl ?_)
  refine kS (tK k60 ?_)
  refine sK fun _ k67 => ?_
  obtain ⟨ab, ao, had, hrdkey⟩ := text_reads hra hkey
  subst had
  refine rW mixed [6, 9, 10, 11] [0,1,2,3,4,5,7,8,6,9,10,11] 107 rfl (by kernel_rfl) hv ?_
  simp only [qm, opAt]
  refine dL (.agg #[.pointer (some ⟨v, 0, none⟩), .slice (some ⟨ab, ao, none⟩) args.length ac]) rfl (fun hv => ex_load rfl rfl (run_load_mid (pre := []) (mid := [.pointer (some ⟨v, 0, none⟩), .slice (some ⟨ab, ao, none⟩) args.length ac]) (post := []) c1wd73 (show Blk _ b2 ([] ++ [.pointer (some ⟨v, 0, none⟩), .slice (some ⟨ab, ao, none⟩) args.length ac] ++ []) _ from hv.get 3 rfl) rfl)) (dM (.slice (some ⟨ab, ao, none⟩) args.length ac) rfl ?_)
  refine dG (.pointer (some ⟨ab, ao + 0, none⟩)) rfl (ex_index rfl rfl rfl (run_idx1 (k := 0) Tryz.underlying22 s9es22 (by omega))) ?_
  simp only [zP, po]
  refine dL _ rfl (fun hv => ex_load rfl rfl (run_load1 s9na9 (hrdkey _ _ _ hC no_res hv 0 _ rfl))) (dG (.agg #[.int .i64 0, .bool false, .int .i64 0, .int .i64 0, .string ⟨([] : List UInt8).toArray⟩, .slice none 0 0, .slice none 0 0, .slice none 0 0]) rfl (ex_buildN (vs := #[]) rfl (by simp only [List.map_toArray, List.map_nil]) (by kernel_rfl)) ?_)
  refine dM (.slice oa out.length oc) rfl ?_
  simp only [zP, po]
  refine dM (.slice oa out.length oc) rfl (dG (.int .i64 (out.length : Int)) rfl (ex_len0 Tryz.underlying22 rfl rfl) ?_)
  refine dS rfl fun w68 hv => ?_
  replace hv := hv.front 1 rfl
  simp only [List.eraseIdx_cons_succ, List.eraseIdx_cons_zero] at hv
  replace hv := hv.front 1 rfl
  simp only [List.eraseIdx_cons_succ, List.eraseIdx_cons_zero] at hv
  refine mC c1callable44 rfl ((csetKeep C _ _ v t m s p wb va vc sv clk es M (hM.more hC) hO (some ⟨ab, ao, none⟩) ac args.length key zver0 _ _ _ (zver0_at _) oa oc out hro hoko (by omega) hv).mono ?_) rfl
  rintro e w69 ⟨E, es', M', e2, hE, rfl, hM', hkp, hv⟩
  refine ⟨_, rfl, dW hv ?_⟩
  simp only [zP, po]
  refine dS rfl fun w70 hv => mC c1callable45 rfl ((respInt E _ _ (out.length : Int) hv).mono ?_) rfl
  rintro e w71 ⟨rfl, hv⟩
  refine ⟨_, rfl, dW hv ?_⟩
  refine dS rfl fun w72 hv => mC c1callable42 rfl ((viewDone E _ _ e2 2 (out.length : Int) ([] : List UInt8) (.slice none 0 0) rfl rfl hv).mono ?_) rfl
  rintro e w73 ⟨xr, hxr, rfl, hv⟩
  rcases hxr with ⟨hec0, rfl⟩ | ⟨hec0, s74, rfl⟩
  ·refine ⟨_, rfl, dW hv ?_⟩
   refine dS rfl fun w75 hv => mS 2 rfl hv rssz28 rfl (by exact ⟨rfl, rfl, rfl, rfl, trivial⟩) (fun w76 hv => ?_)
   simp only [zS, zO, sp] at hv
   refine dW hv (dE fun w77 hv => ?_)
   simp only [zP, po]
   refine tK k67 (rR ?_)
   refine bZ (tR ?_)
   refine bodyPost_ret (res_cell1 rfl rfl (run_load_mid (pre := []) (mid := [.int .i64 2, .string ⟨([] : List UInt8).toArray⟩, .int .i64 (out.length : Int), .slice none 0 0]) (post := []) rswd28 (show Blk _ b4 ([] ++ [.int .i64 2, .string ⟨([] : List UInt8).toArray⟩, .int .i64 (out.length : Int), .slice none 0 0] ++ []) _ from hv.get 2 rfl) rfl)) rfl ?_
   have hcmb2 : CombR M clk (([83, 68, 73, 70, 70, 83, 84, 79, 82, 69] : List UInt8).take (([83, 68, 73, 70, 70, 83, 84, 79, 82, 69] : List UInt8).length - 5)) (args.drop 1) out ec := hcmb
   exact ⟨E, es', M', rInt (out.length : Int), rpCells 2 [] (out.length : Int) (.slice none 0 0), (hC.trans hE), rfl, rpAt_leaf, hM'.more (Base.Le.refl _), hO.keep hkp, .inr (.inr (.inr (.inl ⟨(.inl rfl), key, out, ec, hkey, hcmb2, .inr ⟨by omega, e2, hkp, .inl ⟨by omega, rfl⟩⟩⟩))), (((hv.front 1 rfl).front 1 rfl).sub (List.Sublist.cons_cons _ (List.Sublist.cons_cons _ (List.Sublist.cons _ (List.Sublist.cons _ (List.Sublist.refl _))))))⟩
  refine ⟨_, rfl, dW hv ?_⟩
  refine dS rfl fun w78 hv => mS 2 rfl hv rssz28 rfl (by exact ⟨rfl, rfl, rfl, rfl, trivial⟩) (fun w79 hv => ?_)
  simp only [zS, zO, sp] at hv
  refine dW hv (dE fun w80 hv => ?_)
  simp only [zP, po]
  refine tK k67 (rR ?_)
  refine bZ (tR ?_)
  refine bodyPost_ret (res_cell1 rfl rfl (run_load_mid (pre := []) (mid := [.int .i64 1, .string ⟨s74.toArray⟩, .int .i64 0, .slice none 0 0]) (post := []) rswd28 (show Blk _ b4 ([] ++ [.int .i64 1, .string ⟨s74.toArray⟩, .int .i64 0, .slice none 0 0] ++ []) _ from hv.get 2 rfl) rfl)) rfl ?_
  have hcmb2 : CombR M clk (([83, 68, 73, 70, 70, 83, 84, 79, 82, 69] : List UInt8).take (([83, 68, 73, 70, 70, 83, 84, 79, 82, 69] : List UInt8).length - 5)) (args.drop 1) out ec := hcmb
  exact ⟨E, es', M', rFault s74, rpCells 1 s74 0 (.slice none 0 0), (hC.trans hE), rfl, rpAt_leaf, hM'.more (Base.Le.refl _), hO.keep hkp, .inr (.inr (.inr (.inl ⟨(.inl rfl), key, out, ec, hkey, hcmb2, .inr ⟨by omega, e2, hkp, .inr ⟨by omega, rfl⟩⟩⟩))), (((hv.front 1 rfl).front 1 rfl).sub (List.Sublist.cons_cons _ (List.Sublist.cons_cons _ (List.Sublist.cons _ (List.Sublist.cons _ (List.Sublist.refl _))))))⟩
 refine xG (.bool false) rfl (ex_seql rfl rfl rfl (decide_eq_false hb55)) (xA (.bool false) rfl ?_)
 simp only [zP, po]
 refine wK k54 (cF rfl ?_)
 refine sK fun _ k81 => rL ?_
 by_cases hb82 : name = ([83, 73, 78, 84, 69, 82, 83, 84, 79, 82, 69] : List UInt8)
 ·exfalso; rw [hb82] at hnm; exact absurd hnm (by decide)
 refine xG (.bool false) rfl (ex_seql rfl rfl rfl (decide_eq_false hb82)) (xA (.bool false) rfl ?_)
 simp only [zP, po]
 refine wK k81 (cF rfl ?_)
 refine rL ?_
 by_cases hb83 : name = ([83, 85, 78, 73, 79, 78, 83, 84, 79, 82, 69] : List UInt8)
 ·refine xG (.bool true) rfl (ex_seql rfl rfl rfl (decide_eq_true hb83)) ?_
  subst hb83
  refine xA (.bool true) rfl ?_
  simp only [zP, po]
  refine wK k53 (cT rfl ?_)
  refine sK fun _ k84 => rW mixed [8] [0,1,2,3,4,5,6,7,8,9,10,11,12,13] 107 rfl (by kernel_rfl) hv ?_
  simp only [qm, opAt]
  refine dL (.agg #[.pointer (some ⟨v, 0, none⟩), .slice aa args.length ac]) rfl (fun hv => ex_load rfl rfl (run_load_mid (pre := []) (mid := [.pointer (some ⟨v, 0, none⟩), .slice aa args.length ac]) (post := []) c1wd73 (show Blk _ b2 ([] ++ [.pointer (some ⟨v, 0, none⟩), .slice aa args.length ac] ++ []) _ from hv.get 1 rfl) rfl)) (dM (.string ⟨([83, 85, 78, 73, 79, 78, 83, 84, 79, 82, 69] : List UInt8).toArray⟩) rfl ?_)
  refine dM (.string ⟨([83, 85, 78, 73, 79, 78, 83, 84, 79, 82, 69] : List UInt8).toArray⟩) rfl ?_
  simp only [zP, po]
  refine dG (.int .i64 11) rfl (ex_lenStr (l := ([83, 85, 78, 73, 79, 78, 83, 84, 79, 82, 69] : List UInt8)) Tryz.underlying9 rfl rfl) (dG (.int .i64 6) rfl (ex_sub rfl rfl rfl (i64_in (by omega))) ?_)
  refine dG (.string ⟨([83, 85, 78, 73, 79, 78] : List UInt8).toArray⟩) rfl (ex_slice (hi' := some (.int .i64 ((6 : Nat) : Int))) rfl rfl rfl (congrArg some rfl) rfl (run_sshT (l := ([83, 85, 78, 73, 79, 78, 83, 84, 79, 82, 69] : List UInt8)) (j := 6) Tryz.underlying9 (by decide) _)) ?_
  simp only [zP, po]
  refine dM (.slice aa args.length ac) rfl (dG (.slice a3 ((args.drop 1).length) c3) rfl (ex_slice (lo' := some (.int .i64 ((1 : Nat) : Int))) rfl rfl (congrArg some rfl) rfl rfl ((run_fromAny Tryz.underlying22 s9es22 (by omega)).trans (by rw [ha3, hd1]))) ?_)
  refine dS rfl fun w85 hv => ?_
  replace hv := hv.front 3 rfl
  simp only [List.eraseIdx_cons_succ, List.eraseIdx_cons_zero] at hv
  replace hv := hv.front 3 rfl
  simp only [List.eraseIdx_cons_succ, List.eraseIdx_cons_zero] at hv
  refine mC c5callable41 rfl ((csetCombined B _ _ v t m s p wb va vc sv clk es M hM hO aa ac args ([83, 85, 78, 73, 79, 78] : List UInt8) a3 c3 (args.drop 1) hr3 (by omega) (by have := hcs (.inr rfl); omega) hv).mono ?_) rfl
  rintro e w86 ⟨C, oa, oc, out, ec, hC, rfl, hoko, hro, hcmb, hv⟩
  have hol := hcmb.len hO
  refine ⟨_, rfl, dW hv ?_⟩
  simp only [zP, po]
  refine dM (.tuple #[.slice oa out.length oc, .int .i64 ec]) rfl (dG (.slice oa out.length oc) rfl (ex_extract rfl rfl rfl) ?_)
  refine dG (.int .i64 ec) rfl (ex_extract rfl rfl rfl) ?_
  simp only [zP, po]
  refine dA (.slice oa out.length oc) rfl (dA (.int .i64 ec) rfl ?_)
  refine dE fun w87 hv => ?_
  simp only [zP, po]
  refine tK k84 (sK fun _ k88 => ?_)
  refine sK fun _ k89 => rL (xM (.int .i64 ec) rfl ?_)
  by_cases hb90 : ec ≠ 0
  ·refine xG (.bool true) rfl (ex_neq rfl rfl rfl (decide_eq_true hb90)) ?_
   simp only [zP, po]
   refine wK k89 (cT rfl ?_)
   refine sK fun _ k91 => rL (xM (.int .i64 ec) rfl ?_)
   refine xC rscallable24 rfl ((viewWrong C _ _ ec hv).mono ?_) rfl
   rintro e w93 ⟨s92, rfl, hv⟩
   refine ⟨_, rfl, ?_⟩
   refine xS 2 rfl hv rssz28 rfl (by exact ⟨rfl, rfl, rfl, rfl, trivial⟩) (fun w94 hv => ?_)
   simp only [zS, zO, sp] at hv
   simp only [zP, po]
   refine wK k91 (rR ?_)
   refine tR (bZ ?_)
   refine tR (bodyPost_ret (res_cell1 rfl rfl (run_load_mid (pre := []) (mid := [.int .i64 1, .string ⟨s92.toArray⟩, .int .i64 0, .slice none 0 0]) (post := []) rswd28 (show Blk _ b4 ([] ++ [.int .i64 1, .string ⟨s92.toArray⟩, .int .i64 0, .slice none 0 0] ++ []) _ from hv.get 2 rfl) rfl)) rfl ?_)
   have hcmb2 : CombR M clk (([83, 85, 78, 73, 79, 78, 83, 84, 79, 82, 69] : List UInt8).take (([83, 85, 78, 73, 79, 78, 83, 84, 79, 82, 69] : List UInt8).length - 5)) (args.drop 1) out ec := hcmb
   exact ⟨C, es, M, rFault s92, rpCells 1 s92 0 (.slice none 0 0), hC, rfl, rpAt_leaf, hM.more hC, hO, .inr (.inr (.inr (.inl ⟨(.inr rfl), key, out, ec, hkey, hcmb2, .inl ⟨by omega, rfl, rfl⟩⟩))), (((hv.front 1 rfl).front 1 rfl).sub (List.Sublist.cons_cons _ (List.Sublist.cons_cons _ (List.Sublist.cons _ (List.Sublist.cons _ (List.Sublist.refl _))))))⟩
  refine xG (.bool false) rfl (ex_neq rfl rfl rfl (decide_eq_false hb90)) ?_
  simp only [zP, po]
  refine wK k89 (cF rfl ?_)
  refine kS (tK k88 ?_)
  refine sK fun _ k95 => ?_
  obtain ⟨ab, ao, had, hrdkey⟩ := text_reads hra hkey
  subst had
  refine rW mixed [6, 9, 10, 11] [0,1,2,3,4,5,7,8,6,9,10,11] 107 rfl (by kernel_rfl) hv ?_
  simp only [qm, opAt]
  refine dL (.agg #[.pointer (some ⟨v, 0, none⟩), .slice (some ⟨ab, ao, none⟩) args.length ac]) rfl (fun hv => ex_load rfl rfl (run_load_mid (pre := []) (mid := [.pointer (some ⟨v, 0, none⟩), .slice (some ⟨ab, ao, none⟩) args.length ac]) (post := []) c1wd73 (show Blk _ b2 ([] ++ [.pointer (some ⟨v, 0, none⟩), .slice (some ⟨ab, ao, none⟩) args.length ac] ++ []) _ from hv.get 3 rfl) rfl)) (dM (.slice (some ⟨ab, ao, none⟩) args.length ac) rfl ?_)
  refine dG (.pointer (some ⟨ab, ao + 0, none⟩)) rfl (ex_index rfl rfl rfl (run_idx1 (k := 0) Tryz.underlying22 s9es22 (by omega))) ?_
  simp only [zP, po]
  refine dL _ rfl (fun hv => ex_load rfl rfl (run_load1 s9na9 (hrdkey _ _ _ hC no_res hv 0 _ rfl))) (dG (.agg #[.int .i64 0, .bool false, .int .i64 0, .int .i64 0, .string ⟨([] : List UInt8).toArray⟩, .slice none 0 0, .slice none 0 0, .slice none 0 0]) rfl (ex_buildN (vs := #[]) rfl (by simp only [List.map_toArray, List.map_nil]) (by kernel_rfl)) ?_)
  refine dM (.slice oa out.length oc) rfl ?_
  simp only [zP, po]
  refine dM (.slice oa out.length oc) rfl (dG (.int .i64 (out.length : Int)) rfl (ex_len0 Tryz.underlying22 rfl rfl) ?_)
  refine dS rfl fun w96 hv => ?_
  replace hv := hv.front 1 rfl
  simp only [List.eraseIdx_cons_succ, List.eraseIdx_cons_zero] at hv
  replace hv := hv.front 1 rfl
  simp only [List.eraseIdx_cons_succ, List.eraseIdx_cons_zero] at hv
  refine mC c1callable44 rfl ((csetKeep C _ _ v t m s p wb va vc sv clk es M (hM.more hC) hO (some ⟨ab, ao, none⟩) ac args.length key zver0 _ _ _ (zver0_at _) oa oc out hro hoko (by omega) hv).mono ?_) rfl
  rintro e w97 ⟨E, es', M', e2, hE, rfl, hM', hkp, hv⟩
  refine ⟨_, rfl, dW hv ?_⟩
  simp only [zP, po]
  refine dS rfl fun w98 hv => mC c1callable45 rfl ((respInt E _ _ (out.length : Int) hv).mono ?_) rfl
  rintro e w99 ⟨rfl, hv⟩
  refine ⟨_, rfl, dW hv ?_⟩
  refine dS rfl fun w100 hv => mC c1callable42 rfl ((viewDone E _ _ e2 2 (out.length : Int) ([] : List UInt8) (.slice none 0 0) rfl rfl hv).mono ?_) rfl
  rintro e w101 ⟨xr, hxr, rfl, hv⟩
  rcases hxr with ⟨hec0, rfl⟩ | ⟨hec0, s102, rfl⟩
  ·refine ⟨_, rfl, dW hv ?_⟩
   refine dS rfl fun w103 hv => mS 2 rfl hv rssz28 rfl (by exact ⟨rfl, rfl, rfl, rfl, trivial⟩) (fun w104 hv => ?_)
   simp only [zS, zO, sp] at hv
   refine dW hv (dE fun w105 hv => ?_)
   simp only [zP, po]
   refine tK k95 (rR ?_)
   refine bZ (tR ?_)
   refine bodyPost_ret (res_cell1 rfl rfl (run_load_mid (pre := []) (mid := [.int .i64 2, .string ⟨([] : List UInt8).toArray⟩, .int .i64 (out.length : Int), .slice none 0 0]) (post := []) rswd28 (show Blk _ b4 ([] ++ [.int .i64 2, .string ⟨([] : List UInt8).toArray⟩, .int .i64 (out.length : Int), .slice none 0 0] ++ []) _ from hv.get 2 rfl) rfl)) rfl ?_
   have hcmb2 : CombR M clk (([83, 85, 78, 73, 79, 78, 83, 84, 79, 82, 69] : List UInt8).take (([83, 85, 78, 73, 79, 78, 83, 84, 79, 82, 69] : List UInt8).length - 5)) (args.drop 1) out ec := hcmb
   exact ⟨E, es', M', rInt (out.length : Int), rpCells 2 [] (out.length : Int) (.slice none 0 0), (hC.trans hE), rfl, rpAt_leaf, hM'.more (Base.Le.refl _), hO.keep hkp, .inr (.inr (.inr (.inl ⟨(.inr rfl), key, out, ec, hkey, hcmb2, .inr ⟨by omega, e2, hkp, .inl ⟨by omega, rfl⟩⟩⟩))), (((hv.front 1 rfl).front 1 rfl).sub (List.Sublist.cons_cons _ (List.Sublist.cons_cons _ (List.Sublist.cons _ (List.Sublist.cons _ (List.Sublist.refl _))))))⟩
  refine ⟨_, rfl, dW hv ?_⟩
  refine dS rfl fun w106 hv => mS 2 rfl hv rssz28 rfl (by exact ⟨rfl, rfl, rfl, rfl, trivial⟩) (fun w107 hv => ?_)
  simp only [zS, zO, sp] at hv
  refine dW hv (dE fun w108 hv => ?_)
  simp only [zP, po]
  refine tK k95 (rR ?_)
  refine bZ (tR ?_)
  refine bodyPost_ret (res_cell1 rfl rfl (run_load_mid (pre := []) (mid := [.int .i64 1, .string ⟨s102.toArray⟩, .int .i64 0, .slice none 0 0]) (post := []) rswd28 (show Blk _ b4 ([] ++ [.int .i64 1, .string ⟨s102.toArray⟩, .int .i64 0, .slice none 0 0] ++ []) _ from hv.get 2 rfl) rfl)) rfl ?_
  have hcmb2 : CombR M clk (([83, 85, 78, 73, 79, 78, 83, 84, 79, 82, 69] : List UInt8).take (([83, 85, 78, 73, 79, 78, 83, 84, 79, 82, 69] : List UInt8).length - 5)) (args.drop 1) out ec := hcmb
  exact ⟨E, es', M', rFault s102, rpCells 1 s102 0 (.slice none 0 0), (hC.trans hE), rfl, rpAt_leaf, hM'.more (Base.Le.refl _), hO.keep hkp, .inr (.inr (.inr (.inl ⟨(.inr rfl), key, out, ec, hkey, hcmb2, .inr ⟨by omega, e2, hkp, .inr ⟨by omega, rfl⟩⟩⟩))), (((hv.front 1 rfl).front 1 rfl).sub (List.Sublist.cons_cons _ (List.Sublist.cons_cons _ (List.Sublist.cons _ (List.Sublist.cons _ (List.Sublist.refl _))))))⟩
 refine xG (.bool false) rfl (ex_seql rfl rfl rfl (decide_eq_false hb83)) (xA (.bool false) rfl ?_)
 simp only [zP, po]
 refine wK k53 (cF rfl ?_)
 refine sK fun _ k109 => rL ?_
 by_cases hb110 : name = ([83, 73, 78, 84, 69, 82, 67, 65, 82, 68] : List UInt8)
 ·refine xG (.bool true) rfl (ex_seql rfl rfl rfl (decide_eq_true hb110)) (xA (.bool true) rfl ?_)
  simp only [zP, po]
  refine wK k109 (cT rfl ?_)
  refine sK fun _ k111 => rW mixed [3, 4] [0,1,2,3,4] 107 rfl (by kernel_rfl) hv ?_
  simp only [qm, opAt]
  refine dL (.agg #[.pointer (some ⟨v, 0, none⟩), .slice aa args.length ac]) rfl (fun hv => ex_load rfl rfl (run_load_mid (pre := []) (mid := [.pointer (some ⟨v, 0, none⟩), .slice aa args.length ac]) (post := []) c1wd73 (show Blk _ b2 ([] ++ [.pointer (some ⟨v, 0, none⟩), .slice aa args.length ac] ++ []) _ from hv.get 1 rfl) rfl)) (dM (.slice aa args.length ac) rfl ?_)
  refine dG (.slice a3 ((args.drop 1).length) c3) rfl (ex_slice (lo' := some (.int .i64 ((1 : Nat) : Int))) rfl rfl (congrArg some rfl) rfl rfl ((run_fromAny Tryz.underlying22 s9es22 (by omega)).trans (by rw [ha3, hd1]))) ?_
  simp only [zP, po]
  refine dS rfl fun w112 hv => ?_
  replace hv := hv.front 3 rfl
  simp only [List.eraseIdx_cons_succ, List.eraseIdx_cons_zero] at hv
  replace hv := hv.front 3 rfl
  simp only [List.eraseIdx_cons_succ, List.eraseIdx_cons_zero] at hv
  refine mC c5callable46 rfl ((csetCommon B _ _ v t m s p wb va vc sv clk es M hM hO aa ac args hra hoka (by omega) key hkey a3 c3 (args.drop 1) ok3 hr3 (by omega) (fun x hx => hxl x (List.mem_of_mem_drop hx)) hN hv).mono ?_) rfl
  rintro e w113 ⟨C, r, cs, hC, rfl, hrp, hrel, hv⟩
  obtain ⟨rk, rs, rn, rv, rfl⟩ := rp_parts hrp
  refine ⟨_, rfl, dW hv ?_⟩
  refine dS rfl fun w114 hv => mS 2 rfl hv rssz28 rfl (by exact ⟨rfl, rfl, rfl, hrp.lv.2, trivial⟩) (fun w115 hv => ?_)
  simp only [zS, zO, sp] at hv
  refine dW hv (dE fun w116 hv => ?_)
  simp only [zP, po]
  refine tK k111 (rR ?_)
  refine bZ (tR ?_)
  refine bodyPost_ret (res_cell1 rfl rfl (run_load_mid (pre := []) (mid := [.int .i64 rk, .string ⟨rs.toArray⟩, .int .i64 rn, rv]) (post := []) rswd28 (show Blk _ b4 ([] ++ [.int .i64 rk, .string ⟨rs.toArray⟩, .int .i64 rn, rv] ++ []) _ from hv.get 2 rfl) rfl)) rfl (⟨C, es, M, r, _, hC, rfl, hrp, hM.more hC, hO, .inr (.inr (.inr (.inr (.inl ⟨hb110, rfl, key, hkey, hrel⟩)))), (((hv.front 1 rfl).front 1 rfl).sub (List.Sublist.cons_cons _ (List.Sublist.cons_cons _ (List.Sublist.cons _ (List.Sublist.cons _ (List.Sublist.refl _))))))⟩)
 refine xG (.bool false) rfl (ex_seql rfl rfl rfl (decide_eq_false hb110)) (xA (.bool false) rfl ?_)
 simp only [zP, po]
 refine wK k109 (cF rfl ?_)
 refine sK fun _ k117 => rL ?_
 by_cases hb118 : name = ([83, 77, 79, 86, 69] : List UInt8)
 ·refine xG (.bool true) rfl (ex_seql rfl rfl rfl (decide_eq_true hb118)) (xA (.bool true) rfl ?_)
  simp only [zP, po]
  refine wK k117 (cT rfl ?_)
  refine sK fun _ k119 => ?_
  have hal3 := hc3 hb118
  obtain ⟨ab, ao, had, hrdkey⟩ := text_reads hra hkey
  subst had
  obtain ⟨k1, hk1⟩ : ∃ x, args[1]? = some x := ⟨_, List.getElem?_eq_getElem (show 1 < args.length by omega)⟩
  obtain ⟨b9, o9, had9, hrdk1⟩ := text_reads hra hk1
  cases had9
  obtain ⟨k2, hk2⟩ : ∃ x, args[2]? = some x := ⟨_, List.getElem?_eq_getElem (show 2 < args.length by omega)⟩
  obtain ⟨b9, o9, had9, hrdk2⟩ := text_reads hra hk2
  cases had9
  refine rW mixed [10, 11] [0,1,2,3,4,5,6,7,8,9,10,11] 107 rfl (by kernel_rfl) hv ?_
  simp only [qm, opAt]
  refine dL (.agg #[.pointer (some ⟨v, 0, none⟩), .slice (some ⟨ab, ao, none⟩) args.length ac]) rfl (fun hv => ex_load rfl rfl (run_load_mid (pre := []) (mid := [.pointer (some ⟨v, 0, none⟩), .slice (some ⟨ab, ao, none⟩) args.length ac]) (post := []) c1wd73 (show Blk _ b2 ([] ++ [.pointer (some ⟨v, 0, none⟩), .slice (some ⟨ab, ao, none⟩) args.length ac] ++ []) _ from hv.get 1 rfl) rfl)) (dM (.slice (some ⟨ab, ao, none⟩) args.length ac) rfl ?_)
  refine dG (.pointer (some ⟨ab, ao + 0, none⟩)) rfl (ex_index rfl rfl rfl (run_idx1 (k := 0) Tryz.underlying22 s9es22 (by omega))) ?_
  simp only [zP, po]
  refine dL _ rfl (fun hv => ex_load rfl rfl (run_load1 s9na9 (hrdkey _ _ _ (Base.Le.refl _) no_res hv 0 _ rfl))) (dM (.slice (some ⟨ab, ao, none⟩) args.length ac) rfl ?_)
  refine dG (.pointer (some ⟨ab, ao + 1, none⟩)) rfl (ex_index rfl rfl rfl (run_idx1 (k := 1) Tryz.underlying22 s9es22 (by omega))) ?_
  simp only [zP, po]
  refine dL _ rfl (fun hv => ex_load rfl rfl (run_load1 s9na9 (hrdk1 _ _ _ (Base.Le.refl _) no_res hv 0 _ rfl))) (dM (.slice (some ⟨ab, ao, none⟩) args.length ac) rfl ?_)
  refine dG (.pointer (some ⟨ab, ao + 2, none⟩)) rfl (ex_index rfl rfl rfl (run_idx1 (k := 2) Tryz.underlying22 s9es22 (by omega))) ?_
  simp only [zP, po]
  refine dL _ rfl (fun hv => ex_load rfl rfl (run_load1 s9na9 (hrdk2 _ _ _ (Base.Le.refl _) no_res hv 0 _ rfl))) (dS rfl fun w120 hv => ?_)
  replace hv := hv.front 3 rfl
  simp only [List.eraseIdx_cons_succ, List.eraseIdx_cons_zero] at hv
  replace hv := hv.front 3 rfl
  simp only [List.eraseIdx_cons_succ, List.eraseIdx_cons_zero] at hv
  refine mC c5callable47 rfl ((csetMove B _ _ v t m s p wb va vc sv clk es M hM hO (some ⟨ab, ao, none⟩) ac args key k1 k2 hv).mono ?_) rfl
  rintro e w121 ⟨C, es', M', r, cs, hC, rfl, hrp, hM', hO', hrel, hv⟩
  obtain ⟨rk, rs, rn, rv, rfl⟩ := rp_parts hrp
  refine ⟨_, rfl, dW hv ?_⟩
  refine dS rfl fun w122 hv => mS 2 rfl hv rssz28 rfl (by exact ⟨rfl, rfl, rfl, hrp.lv.2, trivial⟩) (fun w123 hv => ?_)
  simp only [zS, zO, sp] at hv
  refine dW hv (dE fun w124 hv => ?_)
  simp only [zP, po]
  refine tK k119 (rR ?_)
  refine bZ (tR ?_)
  refine bodyPost_ret (res_cell1 rfl rfl (run_load_mid (pre := []) (mid := [.int .i64 rk, .string ⟨rs.toArray⟩, .int .i64 rn, rv]) (post := []) rswd28 (show Blk _ b4 ([] ++ [.int .i64 rk, .string ⟨rs.toArray⟩, .int .i64 rn, rv] ++ []) _ from hv.get 2 rfl) rfl)) rfl (⟨C, es', M', r, _, hC, rfl, hrp, hM', hO', .inr (.inr (.inr (.inr (.inr (⟨hb118, key, k1, k2, hkey, hk1, hk2, hrel⟩))))), (((hv.front 1 rfl).front 1 rfl).sub (List.Sublist.cons_cons _ (List.Sublist.cons_cons _ (List.Sublist.cons _ (List.Sublist.cons _ (List.Sublist.refl _))))))⟩)
 refine xG (.bool false) rfl (ex_seql rfl rfl rfl (decide_eq_false hb118)) (xA (.bool false) rfl ?_)
 simp only [zP, po]
 refine wK k117 (cF rfl ?_)
 refine sK fun _ k125 => rL ?_
 by_cases hb126 : name = ([83, 80, 79, 80] : List UInt8)
 ·exfalso; rw [hb126] at hnm; exact absurd hnm (by decide)
 exfalso; simp only [movesNames, List.mem_cons, List.not_mem_nil, or_false] at hnm; rcases hnm with h9 | h9 | h9 | h9 | h9 | h9 | h9 | h9
 ·exact hb11 h9
 ·exact hb31 h9
 ·exact hb23 h9
 ·exact hb41 h9
 ·exact hb55 h9
 ·exact hb83 h9
 ·exact hb110 h9
 exact hb118 h9
end Go.Proofs.YtoljdfjnannakaaGreatDoor
