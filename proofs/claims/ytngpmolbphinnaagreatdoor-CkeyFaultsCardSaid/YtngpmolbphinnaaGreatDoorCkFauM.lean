/- ckey: EXPIRE, EXPIREAT: a fault writes nothing. -/
import Derived.Test.YtngpmolbphinnaaGreatDoorCkFauC
import Derived.Test.YtngpmolbphinnaaGreatDoorCkFauK
import Derived.Test.YtngpmolbphinnaaGreatDoorCkFauI
import Derived.Test.YtngpmolbphinnaaGreatDoorCkFauL
import Derived.Test.YtngpmolbphinnaaGreatDoorCkFauB
import Derived.Test.YtngpmolbphinnaaGreatDoorRows
import Derived.Test.YtngpmolbphinnaaGreatDoorCkFauE
set_option maxRecDepth 100000
set_option maxHeartbeats 16000000
set_option synthInstance.maxSize 4096
set_option synthInstance.maxHeartbeats 400000
namespace Go.Proofs.YtngpmolbphinnaaGreatDoor
open Go.RowKit Go.Pm
theorem ckRef1 (B : Base) (H : List Res) (w : World) (a b : Int) (hv : Inv B H w) :
  Calls Tryz.prog 77 #[vI a, vI b] w fun e w' => ∃ r, e = .returned (.bool r) ∧ Inv B H w' := by
 refine cW Tryz.func77 rfl Tryz.ntmps77 ?_
 simp only [al]
 refine sK fun _ k1 => rL (uA rfl ?_)
 refine uW k1 (sK fun _ k2 => ?_)
 refine rL (uA rfl ?_)
 refine uW k2 (rR ?_)
 refine bR rfl rfl (⟨_, rfl, hv⟩)
theorem ckRef2 (B : Base) (H : List Res) (w : World) (a b : Int) (hv : Inv B H w) :
  Calls Tryz.prog 78 #[vI a, vI b] w fun e w' => ∃ r, e = .returned (.bool r) ∧ Inv B H w' := by
 refine cW Tryz.func78 rfl Tryz.ntmps78 ?_
 simp only [al]
 refine sK fun _ k1 => rL (uA rfl ?_)
 refine uW k1 (sK fun _ k2 => ?_)
 refine rL (uM rfl ?_)
 by_cases hb3 : a ≠ 0
 ·refine uG (.bool true) rfl (ex_neq rfl rfl rfl (qT hb3)) (uA rfl ?_)
  refine uW k2 (rR ?_)
  refine bR rfl rfl (⟨_, rfl, hv⟩)
 refine uG (.bool false) rfl (ex_neq rfl rfl rfl (qF hb3)) (uA rfl ?_)
 refine uW k2 (rR ?_)
 refine bR rfl rfl (⟨_, rfl, hv⟩)
theorem ckRef3 (B : Base) (H : List Res) (w : World) (a b : Int) (hv : Inv B H w) :
  Calls Tryz.prog 79 #[vI a, vI b] w fun e w' => ∃ r, e = .returned (.bool r) ∧ Inv B H w' := by
 refine cW Tryz.func79 rfl Tryz.ntmps79 ?_
 simp only [al]
 refine sK fun _ k1 => rL (uA rfl ?_)
 refine uW k1 (sK fun _ k2 => ?_)
 refine rL (uM rfl ?_)
 by_cases hb3 : a = 0
 ·refine uG (.bool true) rfl (ex_eql rfl rfl rfl (qT hb3)) (uA rfl ?_)
  refine uW k2 (rR ?_)
  refine bR rfl rfl (⟨_, rfl, hv⟩)
 refine uG (.bool false) rfl (ex_eql rfl rfl rfl (qF hb3)) (uA rfl ?_)
 refine uW k2 (rR ?_)
 refine bR rfl rfl (⟨_, rfl, hv⟩)
theorem ckRef4 (B : Base) (H : List Res) (w : World) (a b : Int) (hv : Inv B H w) :
  Calls Tryz.prog 80 #[vI a, vI b] w fun e w' => ∃ r, e = .returned (.bool r) ∧ Inv B H w' := by
 refine cW Tryz.func80 rfl Tryz.ntmps80 ?_
 simp only [al]
 refine sK fun _ k1 => rL (uA rfl ?_)
 refine uW k1 (sK fun _ k2 => ?_)
 refine rL (uM rfl ?_)
 by_cases hb3 : a = 0
 ·refine uG (.bool true) rfl (ex_eql rfl rfl rfl (qT hb3)) (uM rfl ?_)
  iterate 3 refine uP rfl ?_
  refine uK rfl (uA rfl ?_)
  refine uW k2 (rR ?_)
  refine bR rfl rfl (⟨_, rfl, hv⟩)
 refine uG (.bool false) rfl (ex_eql rfl rfl rfl (qF hb3)) (uM rfl ?_)
 refine uM rfl ?_
 refine uM rfl ?_
 by_cases hb4 : a ≥ b
 ·refine uG (.bool true) rfl (ex_geq rfl rfl rfl (qT hb4)) (uK rfl ?_)
  refine uA rfl (uW k2 ?_)
  refine rR (bR rfl rfl ?_)
  exact ⟨_, rfl, hv⟩
 refine uG (.bool false) rfl (ex_geq rfl rfl rfl (qF hb4)) (uK rfl ?_)
 refine uA rfl (uW k2 ?_)
 refine rR (bR rfl rfl ?_)
 exact ⟨_, rfl, hv⟩
theorem ckRef5 (B : Base) (H : List Res) (w : World) (a b : Int) (hv : Inv B H w) :
  Calls Tryz.prog 81 #[vI a, vI b] w fun e w' => ∃ r, e = .returned (.bool r) ∧ Inv B H w' := by
 refine cW Tryz.func81 rfl Tryz.ntmps81 ?_
 simp only [al]
 refine sK fun _ k1 => rL (uA rfl ?_)
 refine uW k1 (sK fun _ k2 => ?_)
 refine rL (uM rfl ?_)
 by_cases hb3 : a ≠ 0
 ·refine uG (.bool true) rfl (ex_neq rfl rfl rfl (qT hb3)) (uM rfl ?_)
  refine uM rfl ?_
  refine uM rfl ?_
  by_cases hb4 : a ≤ b
  ·refine uG (.bool true) rfl (ex_leq rfl rfl rfl (qT hb4)) (uK rfl ?_)
   refine uA rfl (uW k2 ?_)
   refine rR (bR rfl rfl ?_)
   exact ⟨_, rfl, hv⟩
  refine uG (.bool false) rfl (ex_leq rfl rfl rfl (qF hb4)) (uK rfl ?_)
  refine uA rfl (uW k2 ?_)
  refine rR (bR rfl rfl ?_)
  exact ⟨_, rfl, hv⟩
 refine uG (.bool false) rfl (ex_neq rfl rfl rfl (qF hb3)) (uM rfl ?_)
 iterate 3 refine uP rfl ?_
 refine uK rfl (uA rfl ?_)
 refine uW k2 (rR ?_)
 refine bR rfl rfl (⟨_, rfl, hv⟩)
def RefF (f : FuncId) : Prop := Callable Tryz.prog f ∧ ∀ (B : Base) (H : List Res) (w : World) (a b : Int), Inv B H w → Calls Tryz.prog f #[vI a, vI b] w fun e w' => ∃ r, e = .returned (.bool r) ∧ Inv B H w'
theorem refF1 : RefF 77 := ⟨⟨_, Tryz.func77, by kernel_rfl, by kernel_rfl⟩, ckRef1⟩
theorem refF2 : RefF 78 := ⟨⟨_, Tryz.func78, by kernel_rfl, by kernel_rfl⟩, ckRef2⟩
theorem refF3 : RefF 79 := ⟨⟨_, Tryz.func79, by kernel_rfl, by kernel_rfl⟩, ckRef3⟩
theorem refF4 : RefF 80 := ⟨⟨_, Tryz.func80, by kernel_rfl, by kernel_rfl⟩, ckRef4⟩
theorem refF5 : RefF 81 := ⟨⟨_, Tryz.func81, by kernel_rfl, by kernel_rfl⟩, ckRef5⟩
theorem is_4 {arg : List UInt8} {ws : List (List UInt8)} {r : Int} (h : IsI arg ws r) (hl : ws.length = 4) : r = -1 ∨ r = 0 ∨ r = 1 ∨ r = 2 ∨ r = 3 := by
 rcases h with ⟨rfl, -⟩ | ⟨i, x, rfl, hx, -⟩
 ·exact .inl rfl
 have := (List.getElem?_eq_some_iff.1 hx).1
 omega
theorem DelI.cmd {M M' : List (List UInt8 × Ver)} {clk e : Int} {k : List UInt8} {y : Ver} {r : Rp} {n : Int} (hO : OkM M) (hg : gotM M clk k = some y) (h : DelI M [k] e M') (hd : DoneR e (rInt n) r) : CmdR M M' r := by
 have hk := (hO.alive (got_some hg).1 (got_some hg).2).1
 rcases h with ⟨rfl, -, rfl⟩ | ⟨-, ⟨q, h1, h2⟩, -⟩
 ·refine ⟨hO.upd (.inl rfl), fun hf => ?_⟩
  rcases hd with ⟨-, rfl⟩ | ⟨h, -⟩
  ·exact absurd hf isF_int
  exact absurd rfl h
 rw [List.mem_singleton.1 h1] at h2; omega
theorem kMal34 : AL Tryz.prog 34 [vI 0, vS [], vI 0, vN] := fun w => by kernel_rfl
theorem kMmk9 : (Tryz.prog.info? 9).map (fun i => (i.zero, i.size, i.bytes)) = some (some (vS []), 1, 16) := by kernel_rfl
theorem kMel26 : Elem Tryz.prog 26 9 (vS []) 1 16 := elem_of Tryz.underlying26 kMmk9 (by rfl) (by decide)
theorem kMcallable213 : Callable Tryz.prog 213 := cb Tryz.func213 (by kernel_rfl)
theorem kMal50 : AL Tryz.prog 50 [vI 0, .bool false, vI 0, vI 0, vS [], vN, vN, vN] := fun w => by kernel_rfl
theorem kMmk3 : (Tryz.prog.info? 3).map (fun i => (i.zero, i.size, i.bytes)) = some (some (vI 0), 1, 8) := by kernel_rfl
theorem kMel145 : Elem Tryz.prog 145 3 (vI 0) 1 8 := elem_of Tryz.underlying145 kMmk3 (by rfl) (by decide)
theorem kMcallable83 : Callable Tryz.prog 83 := cb Tryz.func83 (by kernel_rfl)
theorem ckExpire (B : Base) (H : List Res) (w : World) (v t m s p wb : Nat) (va : Option Addr) (vc : Nat) (sv : Value) (clk : Int) (es : List (List UInt8 × Value)) (M : List (List UInt8 × Ver)) (hM : VM B es M) (hO : OkM M) (aa : Option Addr) (an ac : Nat) (rel : Bool) (k num : List UInt8) (wa : Option Addr) (wc : Nat) (ws : List (List UInt8)) (hrw : RdV B [] wa (textCells ws)) (hmw : ws.length ≤ 1000000) (hxl : ∀ x ∈ ws, x.length ≤ 9223372036854775807) (hN : NumB B) (h0c : 0 ≤ clk) (h1c : clk ≤ 1099511627776) (hv : Inv B (Res.cell v [.iface 100 (vP t)] 56 :: txR t m s p wb va vc sv clk es :: H) w) :
  Calls Tryz.prog 57 #[.agg #[vP v, .slice aa an ac], .bool rel, vS k, vS num, .slice wa ws.length wc] w fun e w' => ∃ C es' M' r cs, B.Le C ∧ e = .returned (.agg cs.toArray) ∧ RpAt C r cs ∧ VM C es' M' ∧ CmdR M M' r ∧ Inv C (Res.cell v [.iface 100 (vP t)] 56 :: txR t m s p wb va vc sv clk es' :: H) w' := by
 refine cW Tryz.func57 rfl Tryz.ntmps57 ?_
 simp only [al]
 refine sK fun _ k1 => rL (sl_box (L := [vP v, .slice aa an ac]) tV (wn rfl) rfl rfl hv (fun w => by kernel_rfl) (fun b2 w3 hv => ?_))
 simp only [zP, po]
 refine sl_alloc tV (wn rfl) rfl hv kMal34 (fun b4 w5 hv => ?_)
 refine uW k1 (sK fun _ k6 => ?_)
 refine rL (uA rfl ?_)
 refine uW k6 (sK fun _ k7 => ?_)
 refine sK fun _ k8 => rL (uM rfl ?_)
 refine uG (vI (ws.length : Int)) rfl (ex_len0 Tryz.underlying26 rfl rfl) (uM rfl ?_)
 refine uW k8 (bB ?_)
 gi_loopw [11, 24] (fun x11 x24 wr => ∃ (i : Nat) (fn : FuncId), x11 = .func (.func fn) #[] #[] ∧ x24 = vI i ∧ i ≤ ws.length ∧ RefF fn ∧ Inv B (Res.cell b4 [vI 0, vS [], vI 0, vN] 34 :: Res.cell b2 [vP v, .slice aa an ac] 80 :: Res.cell v [.iface 100 (vP t)] 56 :: txR t m s p wb va vc sv clk es :: H) wr) (fun x11 x24 _ => ws.length - (intOf x24).toNat)
 case atStart => exact ⟨0, _, rfl, rfl, Nat.zero_le _, refF1, hv⟩
 case round =>
  obtain ⟨i, fn, rfl, rfl, hi, hfn, hv⟩ := hrel
  refine sK fun _ k10 => rL ?_
  by_cases hb11 : (i : Int) < (ws.length : Int)
  ·refine uG (.bool true) rfl (ex_lss rfl rfl rfl (qT hb11)) (uW k10 ?_)
   refine sK fun _ k12 => cT rfl (kS ?_)
   refine tK k12 (sK fun _ k13 => ?_)
   refine bB (sK fun _ k14 => ?_)
   obtain ⟨x, hx⟩ : ∃ x, ws[i]? = some x := ⟨_, List.getElem?_eq_getElem (show i < ws.length by omega)⟩
   obtain ⟨kb, ko, had, hrdx⟩ := text_reads hrw hx
   subst had
   refine rL (uG (.pointer (some ⟨kb, ko + i, none⟩)) rfl (ex_index rfl rfl rfl (run_idx1 (k := i) Tryz.underlying26 s9es26 (by omega))) ?_)
   refine uL _ rfl (run_load1 s9na9 (hrdx _ _ _ (Base.Le.refl _) no_res hv 0 _ rfl)) (uA rfl ?_)
   refine uW k14 (sK fun _ k15 => ?_)
   refine rL (uM rfl ?_)
   refine sl_rowN (pv := #[(0, vS [78, 88]), (1, vS [88, 88]), (2, vS [71, 84]), (3, vS [76, 84])]) (L := [vS [78, 88], vS [88, 88], vS [71, 84], vS [76, 84]]) (e := 9) tV (wn rfl) rfl (by simp only [List.map_toArray, List.map_cons, List.map_nil]; rfl) hv (fun w => by kernel_rfl) (fun b16 w17 hv => ?_)
   simp only [zP, po]
   obtain ⟨D1, hD1, hv, hrk, -, -⟩ := (hv.cellRow (n := 4) (c := 4) (size := 1) rfl (by decide) (by decide)).rowBy
   refine xC v8callable75 rfl ((viewIs D1 _ _ x _ 4 [[78, 88], [88, 88], [71, 84], [76, 84]] hrk (by simp) (hxl x (List.mem_of_getElem? hx)) hv).mono ?_) rfl
   rintro e w18 ⟨r, rfl, his, hv⟩
   refine ⟨_, rfl, ?_⟩
   replace hv := hv.weak hD1
   rcases is_4 his rfl with rfl | rfl | rfl | rfl | rfl
   ·refine uW k15 (bB ?_)
    refine sK fun _ k19 => rL (uG (.bool false) rfl (ex_eql rfl rfl rfl (by decide)) ?_)
    refine uA rfl (uW k19 ?_)
    refine cF rfl (sK fun _ k20 => ?_)
    refine rL (uG (.bool false) rfl (ex_eql rfl rfl rfl (by decide)) ?_)
    refine uA rfl (uW k20 ?_)
    refine cF rfl (sK fun _ k21 => ?_)
    refine rL (uG (.bool false) rfl (ex_eql rfl rfl rfl (by decide)) ?_)
    refine uA rfl (uW k21 ?_)
    refine cF rfl (sK fun _ k22 => ?_)
    refine rL (uG (.bool false) rfl (ex_eql rfl rfl rfl (by decide)) ?_)
    refine uA rfl (uW k22 ?_)
    refine cF rfl (sK fun _ k23 => ?_)
    refine rL (xC rscallable29 rfl ((viewWrong B _ _ 42 hv).mono ?_) rfl)
    rintro e w25 ⟨s24, rfl, hv⟩
    refine ⟨_, rfl, ?_⟩
    simp only [zP, po]
    refine xS 0 rfl hv rssz34 rfl (by exact ⟨rfl, rfl, rfl, rfl, trivial⟩) (fun w26 hv => ?_)
    simp only [zO, sp] at hv
    refine uW k23 (rR ?_)
    refine bZ (bZ ?_)
    refine tR (tR ?_)
    refine bZ (tR ?_)
    refine bC 0 rswd34 hv rfl rfl rfl rfl (⟨B, es, M, (.mk 1 s24 0 []), _, (Base.Le.refl _), rfl, rpAt_leaf, hM.more (Base.Le.refl _), ⟨hO, fun _ => rfl⟩, (hv.kp [3, 3] 2 2)⟩)
   ·refine uW k15 (bB ?_)
    refine sK fun _ k27 => rL (uG (.bool true) rfl (ex_eql rfl rfl rfl (by decide)) ?_)
    refine uA rfl (uW k27 ?_)
    refine cT rfl (rL ?_)
    refine uA rfl (uZ ?_)
    refine bN (bN ?_)
    refine tK k13 (rL ?_)
    refine uG (vI ((i + 1 : Nat) : Int)) rfl (ex_add rfl rfl rfl (by rw [i64_in (by omega)]; omega)) (uM rfl ?_)
    refine uZ (then_normal ?_)
    simp only [vP, vI, vS, vN]
    go_roundw
    case rel => exact ⟨i + 1, _, rfl, rfl, by omega, refF2, ((((hv.front 3 rfl).front 3 rfl).front 3 rfl).front 3 rfl)⟩
    case measure => show ws.length - (((i + 1 : Nat) : Int)).toNat < ws.length - ((i : Int)).toNat; omega
   ·refine uW k15 (bB ?_)
    refine sK fun _ k28 => rL (uG (.bool false) rfl (ex_eql rfl rfl rfl (by decide)) ?_)
    refine uA rfl (uW k28 ?_)
    refine cF rfl (sK fun _ k29 => ?_)
    refine rL (uG (.bool true) rfl (ex_eql rfl rfl rfl (by decide)) ?_)
    refine uA rfl (uW k29 ?_)
    refine cT rfl (rL ?_)
    refine uA rfl (uZ ?_)
    refine bN (bN ?_)
    refine tK k13 (rL ?_)
    refine uG (vI ((i + 1 : Nat) : Int)) rfl (ex_add rfl rfl rfl (by rw [i64_in (by omega)]; omega)) (uM rfl ?_)
    refine uZ (then_normal ?_)
    simp only [vP, vI, vS, vN]
    go_roundw
    case rel => exact ⟨i + 1, _, rfl, rfl, by omega, refF3, ((((hv.front 3 rfl).front 3 rfl).front 3 rfl).front 3 rfl)⟩
    case measure => show ws.length - (((i + 1 : Nat) : Int)).toNat < ws.length - ((i : Int)).toNat; omega
   ·refine uW k15 (bB ?_)
    refine sK fun _ k30 => rL (uG (.bool false) rfl (ex_eql rfl rfl rfl (by decide)) ?_)
    refine uA rfl (uW k30 ?_)
    refine cF rfl (sK fun _ k31 => ?_)
    refine rL (uG (.bool false) rfl (ex_eql rfl rfl rfl (by decide)) ?_)
    refine uA rfl (uW k31 ?_)
    refine cF rfl (sK fun _ k32 => ?_)
    refine rL (uG (.bool true) rfl (ex_eql rfl rfl rfl (by decide)) ?_)
    refine uA rfl (uW k32 ?_)
    refine cT rfl (rL ?_)
    refine uA rfl (uZ ?_)
    refine bN (bN ?_)
    refine tK k13 (rL ?_)
    refine uG (vI ((i + 1 : Nat) : Int)) rfl (ex_add rfl rfl rfl (by rw [i64_in (by omega)]; omega)) (uM rfl ?_)
    refine uZ (then_normal ?_)
    simp only [vP, vI, vS, vN]
    go_roundw
    case rel => exact ⟨i + 1, _, rfl, rfl, by omega, refF4, ((((hv.front 3 rfl).front 3 rfl).front 3 rfl).front 3 rfl)⟩
    case measure => show ws.length - (((i + 1 : Nat) : Int)).toNat < ws.length - ((i : Int)).toNat; omega
   refine uW k15 (bB ?_)
   refine sK fun _ k33 => rL (uG (.bool false) rfl (ex_eql rfl rfl rfl (by decide)) ?_)
   refine uA rfl (uW k33 ?_)
   refine cF rfl (sK fun _ k34 => ?_)
   refine rL (uG (.bool false) rfl (ex_eql rfl rfl rfl (by decide)) ?_)
   refine uA rfl (uW k34 ?_)
   refine cF rfl (sK fun _ k35 => ?_)
   refine rL (uG (.bool false) rfl (ex_eql rfl rfl rfl (by decide)) ?_)
   refine uA rfl (uW k35 ?_)
   refine cF rfl (sK fun _ k36 => ?_)
   refine rL (uG (.bool true) rfl (ex_eql rfl rfl rfl (by decide)) ?_)
   refine uA rfl (uW k36 ?_)
   refine cT rfl (rL ?_)
   refine uA rfl (uZ ?_)
   refine bN (bN ?_)
   refine tK k13 (rL ?_)
   refine uG (vI ((i + 1 : Nat) : Int)) rfl (ex_add rfl rfl rfl (by rw [i64_in (by omega)]; omega)) (uM rfl ?_)
   refine uZ (then_normal ?_)
   simp only [vP, vI, vS, vN]
   go_roundw
   case rel => exact ⟨i + 1, _, rfl, rfl, by omega, refF5, ((((hv.front 3 rfl).front 3 rfl).front 3 rfl).front 3 rfl)⟩
   case measure => show ws.length - (((i + 1 : Nat) : Int)).toNat < ws.length - ((i : Int)).toNat; omega
  refine uG (.bool false) rfl (ex_lss rfl rfl rfl (qF hb11)) (uW k10 ?_)
  refine sK fun _ k37 => cF rfl (xE ?_)
  refine tX (tX ?_)
  refine bH (tK k7 ?_)
  refine sK fun _ k38 => rL (uM rfl ?_)
  refine sl_rowOne (v := vS num) tV (wn rfl) rfl rfl hv kMel26 rfl (fun b39 w40 hv => ?_)
  simp only [zP, po]
  obtain ⟨K41, hK41, hv, hrkK41, hokK41, -⟩ := (hv.cellRow (n := 1) (c := 1) (size := 1) rfl (by decide) (by decide)).rowBy
  refine xC v8callable82 rfl ((viewInts K41 _ _ _ 1 [num] hrkK41 (Nat.le_of_ble_eq_true rfl) (hN.more hK41) hv).mono ?_) rfl
  rintro e w42 ⟨E, ia, ic, ns, ei, hE, rfl, hri, hir, hv⟩
  refine ⟨_, rfl, uM rfl ?_⟩
  refine uE rfl (uE rfl ?_)
  refine uA rfl (uA rfl ?_)
  refine uW k38 (sK fun _ k43 => ?_)
  refine sK fun _ k44 => rL (uM rfl ?_)
  by_cases hb45 : ei ≠ 0
  ·refine uG (.bool true) rfl (ex_neq rfl rfl rfl (qT hb45)) (uW k44 ?_)
   refine cT rfl (sK fun _ k46 => ?_)
   refine rL (uM rfl ?_)
   refine xC rscallable29 rfl ((viewWrong E _ _ ei hv).mono ?_) rfl
   rintro e w48 ⟨s47, rfl, hv⟩
   refine ⟨_, rfl, ?_⟩
   simp only [zP, po]
   refine xS 0 rfl hv rssz34 rfl (by exact ⟨rfl, rfl, rfl, rfl, trivial⟩) (fun w49 hv => ?_)
   simp only [zO, sp] at hv
   refine uW k46 (rR ?_)
   refine tR (bC 0 rswd34 hv rfl rfl rfl rfl ?_)
   exact ⟨E, es, M, (.mk 1 s47 0 []), _, (hK41.trans hE), rfl, rpAt_leaf, hM.more (hK41.trans hE), ⟨hO, fun _ => rfl⟩, (hv.kp [3, 3] 2 2)⟩
  refine uG (.bool false) rfl (ex_neq rfl rfl rfl (qF hb45)) (uW k44 ?_)
  refine cF rfl (kS ?_)
  refine tK k43 (sK fun _ k50 => ?_)
  obtain ⟨hnl, hnum⟩ : ns.length = 1 ∧ ∀ (i : Nat) t n, [num][i]? = some t → ns[i]? = some n → NumP t n true := hir.elim (fun h => ⟨h.2.1, h.2.2⟩) fun h => absurd h.1 (by omega)
  obtain ⟨at0, rfl⟩ : ∃ n0, ns = [n0] := by
   match ns, hnl with
   | [n0], _ => exact ⟨n0, rfl⟩
  have hrg := numP_rng (hnum 0 num at0 rfl rfl)
  obtain ⟨ib, io, had, hrd0⟩ := int_reads hri (show [at0][0]? = some at0 from rfl)
  subst had
  refine rW mixed [8] [0,1,2,3,4,5,6,7,8,9,10] 121 rfl (by kernel_rfl) hv ?_
  simp only [qm, opAt]
  refine dM (.slice (some ⟨ib, io, none⟩) ([at0].length) ic) rfl (dG (.pointer (some ⟨ib, io + 0, none⟩)) rfl (ex_index rfl rfl rfl (run_idx1 (k := 0) Tryz.underlying145 s11es145 (by omega))) ?_)
  refine dF _ rfl (fun hv => ex_load rfl rfl (run_load1 s2na3 (hrd0 _ _ _ (Base.Le.refl _) no_res hv 0 _ rfl))) fun f51 hf51 => ?_
  simp only [zP, po]
  refine dG (vP b2) rfl (ex_field rfl rfl (k1fa80_0 _ _ _)) (dL _ rfl (fun hv => ex_load rfl rfl (run_load1 k1na24 (hv.load 1 0 rfl rfl))) ?_)
  refine dG (vP v) rfl (ex_nil rfl rfl) ?_
  simp only [zP, po]
  refine dG (vP v) rfl (ex_field rfl rfl (v1fa56_0 _ _ _)) (dL _ rfl (fun hv => ex_load rfl rfl (run_load1 v1na54 (hv.load 2 0 rfl rfl))) ?_)
  refine dS rfl fun w52 hv => ?_
  replace hv := hv.front 3 rfl
  simp only [eS, eZ] at hv
  refine stepMem_callI kMcallable213 rfl rfl rfl (r := vP t) (fun w => by kernel_rfl) (args := #[]) (by simp only [List.map_toArray, List.map_nil]) ((txnClock E _ _ t m s p wb va vc sv clk es hv).mono ?_)
  rintro e w53 ⟨rfl, hv⟩
  refine ⟨_, rfl, dV hv (fC (fun ww hv => hf51 ww (ex_load rfl rfl (run_load1 s2na3 (hrd0 _ _ _ (Base.Le.refl _) no_res hv 0 _ rfl)))) fN) ?_⟩
  simp only [zP, po]
  refine dA (vI at0) rfl (dA (vI clk) rfl ?_)
  refine dE fun w54 hv => ?_
  simp only [zP, po]
  refine tK k50 (sK fun K55 k55 => ?_)
  have hJ55 : ∀ (at1 : Int) (j18 j19 j60 j61 j62 j63 j64 j65 j66 j67 j68 j69 j70 j71 j72 j73 j74 j75 : Value) (w56 : World), Inv E (txR t m s p wb va vc sv clk es :: Res.cell b4 [vI 0, vS [], vI 0, vN] 34 :: Res.cell b2 [vP v, .slice aa an ac] 80 :: Res.cell v [.iface 100 (vP t)] 56 :: H) w56 → K55 { tmps := List.toArray (.agg #[vP v, .slice aa an ac] :: .bool rel :: vS k :: vS num :: .slice wa ws.length wc :: vP b2 :: undef :: undef :: undef :: undef :: vP b4 :: .func (.func fn) #[] #[] :: undef :: u13 :: .slice (some ⟨ib, io, none⟩) ([at0].length) ic :: vI ei :: vI at1 :: vI clk :: j18 :: j19 :: undef :: undef :: .slice wa ws.length wc :: vI (ws.length : Int) :: vI i :: .bool false :: u26 :: u27 :: u28 :: u29 :: u30 :: u31 :: u32 :: u33 :: u34 :: u35 :: u36 :: u37 :: u38 :: u39 :: u40 :: .tuple #[.slice (some ⟨ib, io, none⟩) ([at0].length) ic, vI ei] :: vS num :: .slice (some ⟨b39, 0, none⟩) 1 1 :: .tuple #[.slice (some ⟨ib, io, none⟩) ([at0].length) ic, vI ei] :: .slice (some ⟨ib, io, none⟩) ([at0].length) ic :: vI ei :: vI ei :: .bool false :: undef :: undef :: .slice (some ⟨ib, io, none⟩) ([at0].length) ic :: .pointer (some ⟨ib, io + 0, none⟩) :: vI at0 :: vP b2 :: vP v :: vP v :: vP v :: .iface 100 (vP t) :: vI clk :: j60 :: j61 :: j62 :: j63 :: j64 :: j65 :: j66 :: j67 :: j68 :: j69 :: j70 :: j71 :: j72 :: j73 :: j74 :: j75 :: undef :: undef :: undef :: undef :: undef :: undef :: undef :: undef :: undef :: undef :: undef :: undef :: undef :: undef :: undef :: undef :: undef :: undef :: undef :: undef :: undef :: undef :: undef :: undef :: undef :: undef :: undef :: undef :: undef :: undef :: undef :: undef :: undef :: undef :: undef :: undef :: undef :: undef :: undef :: undef :: undef :: undef :: undef :: undef :: undef :: []), defers := [] } w56 := by
   intro at1 j18 j19 j60 j61 j62 j63 j64 j65 j66 j67 j68 j69 j70 j71 j72 j73 j74 j75 w56 hv
   refine k55 _ _ (sK fun _ k57 => ?_)
   refine sK fun _ k58 => rL (uM rfl ?_)
   by_cases hb59 : at1 > 1099511627776
   ·refine uG (.bool true) rfl (ex_gtr rfl rfl rfl (qT hb59)) (uW k58 ?_)
    refine cT rfl (sK fun _ k60 => ?_)
    refine rL (xC rscallable29 rfl ((viewWrong E _ _ 13 hv).mono ?_) rfl)
    rintro e w62 ⟨s61, rfl, hv⟩
    refine ⟨_, rfl, ?_⟩
    simp only [zP, po]
    refine xS 1 rfl hv rssz34 rfl (by exact ⟨rfl, rfl, rfl, rfl, trivial⟩) (fun w63 hv => ?_)
    simp only [zS, zO, sp] at hv
    refine uW k60 (rR ?_)
    refine tR (bC 1 rswd34 hv rfl rfl rfl rfl ?_)
    exact ⟨E, es, M, (.mk 1 s61 0 []), _, (hK41.trans hE), rfl, rpAt_leaf, hM.more (hK41.trans hE), ⟨hO, fun _ => rfl⟩, (hv.kp [3] 2 2)⟩
   refine uG (.bool false) rfl (ex_gtr rfl rfl rfl (qF hb59)) (uW k58 ?_)
   refine cF rfl (kS ?_)
   refine tK k57 (sK fun _ k64 => ?_)
   refine rL (uF (vP b2) rfl (k1fa80_0 _ _ _) ?_)
   refine uL _ rfl (run_load1 k1na24 (hv.load 2 0 rfl rfl)) ?_
   refine uG (vP v) rfl (ex_nil rfl rfl) ?_
   refine uF (vP v) rfl (v1fa56_0 _ _ _) ?_
   refine uL _ rfl (run_load1 v1na54 (hv.load 3 0 rfl rfl)) (uM rfl ?_)
   refine wpi_callI v1callable215 tV wideC rfl (wn rfl) rfl rfl (r := vP t) (fun w => by kernel_rfl) (args := #[vS k]) (by simp only [List.map_toArray, List.map_cons, List.map_nil]; rfl) ((txnGet E _ _ t m s p wb va vc sv clk es M k (hM.more (hK41.trans hE)) hv).mono ?_)
   rintro e w65 ⟨G, y, yp, yt, yz, oky, hG, rfl, hgot, hyv, hv⟩
   refine ⟨_, rfl, ?_⟩
   rcases got_of hgot with ⟨rfl, hg⟩ | ⟨rfl, rfl, hg⟩
   ·refine uM rfl (uE rfl ?_)
    refine uE rfl ?_
    refine sl_alloc tV (wn rfl) rfl hv kMal50 (fun b66 w67 hv => ?_)
    simp only [zP, po]
    refine xS 0 rfl hv x0sz50 rfl (by exact ⟨rfl, rfl, rfl, rfl, rfl, hyv.p.one, hyv.t.one, hyv.z.one, trivial⟩) (fun w68 hv => ?_)
    simp only [zO, sp] at hv
    refine uA rfl (uW k64 ?_)
    refine sK fun _ k69 => sK fun _ k70 => rL (uM rfl ?_)
    refine uG (.bool false) rfl (ex_not rfl rfl rfl) (uM rfl ?_)
    refine uM rfl ?_
    refine uF (.pointer (some ⟨b66, 2, none⟩)) rfl (s2fa50_2 _ _ _) ?_
    refine uL _ rfl (run_load1 s2na3 (hv.load 0 2 rfl rfl)) ?_
    refine uM rfl ?_
    refine wpi_callV hfn.1 tV wideC rfl (wanted_of (j := 2) (d := 91) (b := false) rfl rfl rfl) rfl rfl (args := #[vI y.expire, vI at1]) (by simp only [List.map_toArray, List.map_cons, List.map_nil]; rfl) ((hfn.2 G _ _ _ _ hv).mono ?_)
    rintro e w72 ⟨rf71, rfl, hv⟩
    refine ⟨_, rfl, uK rfl ?_⟩
    refine uW k70 (wpIn_cond_split (t := rf71) rfl (fun hc73 => ?_) (fun hc73 => ?_))
    ·refine sK fun _ k74 => rL (xC k6callable54 rfl ((respInt G _ _ 0 hv).mono ?_) rfl)
     rintro e w75 ⟨rfl, hv⟩
     refine ⟨_, rfl, ?_⟩
     simp only [zP, po]
     refine xS 2 rfl hv rssz34 rfl (by exact ⟨rfl, rfl, rfl, rfl, trivial⟩) (fun w76 hv => ?_)
     simp only [zS, zO, sp] at hv
     refine uW k74 (rR ?_)
     refine tR (bC 2 rswd34 hv rfl rfl rfl rfl ?_)
     exact ⟨G, es, M, (.mk 2 ([] : List UInt8) 0 []), _, ((hK41.trans hE).trans hG), rfl, rpAt_leaf, hM.more ((hK41.trans hE).trans hG), ⟨hO, fun _ => rfl⟩, (hv.kp [1, 4] 2 3)⟩
    refine kS (tK k69 ?_)
    refine sK fun _ k77 => sK fun _ k78 => rL (uM rfl ?_)
    refine uM rfl ?_
    by_cases hb79 : at1 ≤ clk
    ·refine uG (.bool true) rfl (ex_leq rfl rfl rfl (qT hb79)) (uW k78 ?_)
     refine cT rfl (sK fun _ k80 => ?_)
     refine rL (uF (vP b2) rfl (k1fa80_0 _ _ _) ?_)
     refine uL _ rfl (run_load1 k1na24 (hv.load 3 0 rfl rfl)) ?_
     refine uG (vP v) rfl (ex_nil rfl rfl) ?_
     refine uF (vP v) rfl (v1fa56_0 _ _ _) ?_
     refine uL _ rfl (run_load1 v1na54 (hv.load 4 0 rfl rfl)) (uM rfl ?_)
     refine sl_rowOne (v := vS k) tV (wn rfl) rfl rfl hv kMel26 rfl (fun b81 w82 hv => ?_)
     simp only [zP, po]
     obtain ⟨K83, hK83, hv, hrkK83, hokK83, -⟩ := (hv.cellRow (n := 1) (c := 1) (size := 1) rfl (by decide) (by decide)).rowBy
     replace hv := hv.front 1 rfl
     simp only [eS, eZ] at hv
     refine wpi_callI v1callable214 tV wideC rfl (wn rfl) rfl rfl (r := vP t) (fun w => by kernel_rfl) (args := #[.slice (some ⟨b81, 0, none⟩) 1 1]) (by simp only [List.map_toArray, List.map_cons, List.map_nil]; rfl) ((txnDel K83 _ _ t m s p wb va vc sv clk es M _ 1 [k] hrkK83 (by simp) (hM.more (((hK41.trans hE).trans hG).trans hK83)) hv).mono ?_)
     rintro e w84 ⟨es2, e2, rfl, hdel, hv⟩
     refine ⟨_, rfl, ?_⟩
     obtain ⟨M2, hM2, hdl⟩ := delI_of (hM.more (((hK41.trans hE).trans hG).trans hK83)) hdel
     simp only [zP, po]
     refine xC k6callable54 rfl ((respInt K83 _ _ 1 hv).mono ?_) rfl
     rintro e w85 ⟨rfl, hv⟩
     refine ⟨_, rfl, ?_⟩
     simp only [zP, po]
     refine xC k6callable56 rfl ((viewDone K83 _ _ e2 2 1 ([] : List UInt8) (vN) rfl rfl hv).mono ?_) rfl
     rintro e w86 ⟨xr, hxr, rfl, hv⟩
     refine ⟨_, rfl, ?_⟩
     rcases hxr with ⟨hec0, rfl⟩ | ⟨hec0, s87, rfl⟩
     ·simp only [zP, po]
      refine xS 2 rfl hv rssz34 rfl (by exact ⟨rfl, rfl, rfl, rfl, trivial⟩) (fun w88 hv => ?_)
      simp only [zS, zO, sp] at hv
      refine uW k80 (rR ?_)
      refine tR (bC 2 rswd34 hv rfl rfl rfl rfl ?_)
      exact ⟨K83, es2, M2, (.mk 2 ([] : List UInt8) 1 []), _, (((hK41.trans hE).trans hG).trans hK83), rfl, rpAt_leaf, hM2.more (Base.Le.refl _), DelI.cmd (n := 1) hO hg hdl (.inl ⟨by omega, rfl⟩), (hv.kp [4] 2 3)⟩
     simp only [zP, po]
     refine xS 2 rfl hv rssz34 rfl (by exact ⟨rfl, rfl, rfl, rfl, trivial⟩) (fun w89 hv => ?_)
     simp only [zS, zO, sp] at hv
     refine uW k80 (rR ?_)
     refine tR (bC 2 rswd34 hv rfl rfl rfl rfl ?_)
     exact ⟨K83, es2, M2, (.mk 1 s87 0 []), _, (((hK41.trans hE).trans hG).trans hK83), rfl, rpAt_leaf, hM2.more (Base.Le.refl _), DelI.cmd (n := 1) hO hg hdl (.inr ⟨by omega, rfl⟩), (hv.kp [4] 2 3)⟩
    refine uG (.bool false) rfl (ex_leq rfl rfl rfl (qF hb79)) (uW k78 ?_)
    refine cF rfl (kS ?_)
    refine tK k77 (sK fun _ k90 => ?_)
    refine rL (uF (vP b2) rfl (k1fa80_0 _ _ _) ?_)
    refine uL _ rfl (run_load1 k1na24 (hv.load 3 0 rfl rfl)) (uM rfl ?_)
    refine uF (.pointer (some ⟨b66, 3, none⟩)) rfl (x2fa50_3 _ _ _) ?_
    refine uL (.agg #[vI y.val.kind, vS y.val.text, yp, yt, yz]) rfl (lM 0 s1wd43 hv rfl rfl rfl rfl) (uM rfl ?_)
    replace hv := hv.front 1 rfl
    simp only [eS, eZ] at hv
    replace hv := hv.front 4 rfl
    simp only [eS, eZ] at hv
    refine xC k6callable16 rfl ((viewKeep G _ _ v t m s p wb va vc sv clk es M k y.val yp yt yz at1 (hM.more ((hK41.trans hE).trans hG)) (hyv.more (Base.Le.refl _)) hv).mono ?_) rfl
    rintro e w91 ⟨D, es1, M1, e1, hD, rfl, hM1, hkp, hv⟩
    refine ⟨_, rfl, ?_⟩
    simp only [zP, po]
    refine xC k6callable54 rfl ((respInt D _ _ 1 hv).mono ?_) rfl
    rintro e w92 ⟨rfl, hv⟩
    refine ⟨_, rfl, ?_⟩
    simp only [zP, po]
    refine xC k6callable56 rfl ((viewDone D _ _ e1 2 1 ([] : List UInt8) (vN) rfl rfl hv).mono ?_) rfl
    rintro e w93 ⟨xr, hxr, rfl, hv⟩
    refine ⟨_, rfl, ?_⟩
    rcases hxr with ⟨hec0, rfl⟩ | ⟨hec0, s94, rfl⟩
    ·simp only [zP, po]
     refine xS 3 rfl hv rssz34 rfl (by exact ⟨rfl, rfl, rfl, rfl, trivial⟩) (fun w95 hv => ?_)
     simp only [zS, zO, sp] at hv
     refine uW k90 (rR ?_)
     refine bC 3 rswd34 hv rfl rfl rfl rfl (⟨D, es1, M1, (.mk 2 ([] : List UInt8) 1 []), _, (((hK41.trans hE).trans hG).trans hD), rfl, rpAt_leaf, hM1.more (Base.Le.refl _), DoneR.keep (ec := e1) hO hkp (r0 := rInt 1) (.inl ⟨by omega, rfl⟩) isF_int, (hv.kp [1, 1] 2 3)⟩)
    simp only [zP, po]
    refine xS 3 rfl hv rssz34 rfl (by exact ⟨rfl, rfl, rfl, rfl, trivial⟩) (fun w96 hv => ?_)
    simp only [zS, zO, sp] at hv
    refine uW k90 (rR ?_)
    refine bC 3 rswd34 hv rfl rfl rfl rfl (⟨D, es1, M1, (.mk 1 s94 0 []), _, (((hK41.trans hE).trans hG).trans hD), rfl, rpAt_leaf, hM1.more (Base.Le.refl _), DoneR.keep (ec := e1) hO hkp (r0 := rInt 1) (.inr ⟨by omega, rfl⟩) isF_int, (hv.kp [1, 1] 2 3)⟩)
   refine uM rfl (uE rfl ?_)
   refine uE rfl ?_
   refine sl_alloc tV (wn rfl) rfl hv kMal50 (fun b97 w98 hv => ?_)
   simp only [zP, po]
   refine xS 0 rfl hv x0sz50 rfl (by exact ⟨rfl, rfl, rfl, rfl, rfl, hyv.p.one, hyv.t.one, hyv.z.one, trivial⟩) (fun w99 hv => ?_)
   simp only [zO, sp] at hv
   refine uA rfl (uW k64 ?_)
   refine sK fun _ k100 => sK fun _ k101 => rL (uM rfl ?_)
   refine uG (.bool true) rfl (ex_not rfl rfl rfl) (uM rfl ?_)
   iterate 5 refine uP rfl ?_
   refine uK rfl (uW k101 ?_)
   refine cT rfl (sK fun _ k102 => ?_)
   refine rL (xC k6callable54 rfl ((respInt G _ _ 0 hv).mono ?_) rfl)
   rintro e w103 ⟨rfl, hv⟩
   refine ⟨_, rfl, ?_⟩
   simp only [zP, po]
   refine xS 2 rfl hv rssz34 rfl (by exact ⟨rfl, rfl, rfl, rfl, trivial⟩) (fun w104 hv => ?_)
   simp only [zS, zO, sp] at hv
   refine uW k102 (rR ?_)
   refine tR (bC 2 rswd34 hv rfl rfl rfl rfl ?_)
   exact ⟨G, es, M, (.mk 2 ([] : List UInt8) 0 []), _, ((hK41.trans hE).trans hG), rfl, rpAt_leaf, hM.more ((hK41.trans hE).trans hG), ⟨hO, fun _ => rfl⟩, (hv.kp [1, 4] 2 3)⟩
  refine sK fun _ k105 => rL (uM rfl ?_)
  refine uW k105 (wpIn_cond_split (t := rel) rfl (fun hc106 => ?_) (fun hc106 => ?_))
  ·refine sK fun _ k107 => rL (uM rfl ?_)
   refine uM rfl ?_
   refine sl_rowOne (v := vI at0) tV (wn rfl) rfl rfl hv kMel145 rfl (fun b108 w109 hv => ?_)
   simp only [zP, po]
   obtain ⟨P, hP, hv, hrp, -, -⟩ := (hv.cellRow (n := 1) (c := 1) (size := 1) rfl (by decide) (by decide)).rowBy
   refine xC kMcallable83 rfl ((numAdd P _ _ clk (by omega) _ 1 [at0] hrp (Nat.le_of_ble_eq_true rfl) (fun b hb => by rw [List.mem_singleton.1 hb]; exact hrg) hv).mono ?_) rfl
   rintro e w110 ⟨sm, sok, rfl, hadd, hv⟩
   refine ⟨_, rfl, ?_⟩
   cases sok
   ·refine uM rfl (uE rfl ?_)
    refine uE rfl (uA rfl ?_)
    refine uA rfl (uW k107 ?_)
    refine sK fun _ k111 => sK fun _ k112 => rL (uM rfl ?_)
    refine uG (.bool true) rfl (ex_not rfl rfl rfl) (uM rfl ?_)
    refine uM rfl ?_
    by_cases hb113 : at0 > 0
    ·refine uG (.bool true) rfl (ex_gtr rfl rfl rfl (qT hb113)) (uK rfl ?_)
     refine uW k112 (cT rfl ?_)
     refine sK fun _ k114 => rL (xC rscallable29 rfl ((viewWrong P _ _ 13 hv).mono ?_) rfl)
     rintro e w116 ⟨s115, rfl, hv⟩
     refine ⟨_, rfl, ?_⟩
     simp only [zP, po]
     refine xS 1 rfl hv rssz34 rfl (by exact ⟨rfl, rfl, rfl, rfl, trivial⟩) (fun w117 hv => ?_)
     simp only [zS, zO, sp] at hv
     refine uW k114 (rR ?_)
     refine tR (tR ?_)
     clear hJ55
     refine bC 1 rswd34 hv rfl rfl rfl rfl (⟨P, es, M, (.mk 1 s115 0 []), _, ((hK41.trans hE).trans hP), rfl, rpAt_leaf, hM.more ((hK41.trans hE).trans hP), ⟨hO, fun _ => rfl⟩, (hv.kp [3] 2 2)⟩)
    refine uG (.bool false) rfl (ex_gtr rfl rfl rfl (qF hb113)) (uK rfl ?_)
    refine uW k112 (cF rfl ?_)
    refine kS (tK k111 ?_)
    refine rL (uM rfl ?_)
    refine uA rfl (uZ ?_)
    exact then_normal (hJ55 sm _ _ _ _ _ _ _ _ _ _ _ _ _ _ _ _ _ _ _ ((((((hv.front 3 rfl).front 3 rfl).front 3 rfl).front 3 rfl)).weak hP))
   refine uM rfl (uE rfl ?_)
   refine uE rfl (uA rfl ?_)
   refine uA rfl (uW k107 ?_)
   refine sK fun _ k118 => sK fun _ k119 => rL (uM rfl ?_)
   refine uG (.bool false) rfl (ex_not rfl rfl rfl) (uM rfl ?_)
   refine uP rfl ?_
   refine uP rfl (uK rfl ?_)
   refine uW k119 (cF rfl ?_)
   refine kS (tK k118 ?_)
   refine rL (uM rfl ?_)
   refine uA rfl (uZ ?_)
   exact then_normal (hJ55 sm _ _ _ _ _ _ _ _ _ _ _ _ _ _ _ _ _ _ _ ((((((hv.front 3 rfl).front 3 rfl).front 3 rfl).front 3 rfl)).weak hP))
  refine kS (then_normal (hJ55 at0 _ _ _ _ _ _ _ _ _ _ _ _ _ _ _ _ _ _ _ (((((hv.front 3 rfl).front 3 rfl).front 3 rfl).front 3 rfl))))
theorem kNal34 : AL Tryz.prog 34 [vI 0, vS [], vI 0, vN] := fun w => by kernel_rfl
theorem kNal50 : AL Tryz.prog 50 [vI 0, .bool false, vI 0, vI 0, vS [], vN, vN, vN] := fun w => by kernel_rfl
theorem kNcallable213 : Callable Tryz.prog 213 := cb Tryz.func213 (by kernel_rfl)
theorem ckTime (B : Base) (H : List Res) (w : World) (v t m s p wb : Nat) (va : Option Addr) (vc : Nat) (sv : Value) (clk : Int) (es : List (List UInt8 × Value)) (M : List (List UInt8 × Ver)) (hM : VM B es M) (hO : OkM M) (aa : Option Addr) (an ac : Nat) (name k : List UInt8) (hv : Inv B (Res.cell v [.iface 100 (vP t)] 56 :: txR t m s p wb va vc sv clk es :: H) w) :
  Calls Tryz.prog 66 #[.agg #[vP v, .slice aa an ac], vS name, vS k] w fun e w' => ∃ C es' M' r cs, B.Le C ∧ e = .returned (.agg cs.toArray) ∧ RpAt C r cs ∧ VM C es' M' ∧ CmdR M M' r ∧ Inv C (Res.cell v [.iface 100 (vP t)] 56 :: txR t m s p wb va vc sv clk es' :: H) w' := by
 refine cW Tryz.func66 rfl Tryz.ntmps66 ?_
 simp only [al]
 refine sK fun _ k1 => rL (sl_box (L := [vP v, .slice aa an ac]) tV (wn rfl) rfl rfl hv (fun w => by kernel_rfl) (fun b2 w3 hv => ?_))
 refine sl_alloc tV (wn rfl) rfl hv kNal34 (fun b4 w5 hv => ?_)
 refine uW k1 (sK fun _ k6 => ?_)
 refine rL (uF (vP b2) rfl (k1fa80_0 _ _ _) ?_)
 refine uL _ rfl (run_load1 k1na24 (hv.load 1 0 rfl rfl)) ?_
 refine uG (vP v) rfl (ex_nil rfl rfl) ?_
 refine uF (vP v) rfl (v1fa56_0 _ _ _) ?_
 refine uL _ rfl (run_load1 v1na54 (hv.load 2 0 rfl rfl)) (uM rfl ?_)
 replace hv := hv.front 3 rfl
 simp only [eS, eZ] at hv
 refine wpi_callI v1callable215 tV wideC rfl (wn rfl) rfl rfl (r := vP t) (fun w => by kernel_rfl) (args := #[vS k]) (by simp only [List.map_toArray, List.map_cons, List.map_nil]; rfl) ((txnGet B _ _ t m s p wb va vc sv clk es M k (hM.more (Base.Le.refl _)) hv).mono ?_)
 rintro e w7 ⟨G, y, yp, yt, yz, oky, hG, rfl, hgot, hyv, hv⟩
 refine ⟨_, rfl, ?_⟩
 rcases got_of hgot with ⟨rfl, hg⟩ | ⟨rfl, rfl, hg⟩
 ·refine uM rfl (uE rfl ?_)
  refine uE rfl ?_
  refine sl_alloc tV (wn rfl) rfl hv kNal50 (fun b8 w9 hv => ?_)
  refine xS 0 rfl hv x0sz50 rfl (by exact ⟨rfl, rfl, rfl, rfl, rfl, hyv.p.one, hyv.t.one, hyv.z.one, trivial⟩) (fun w10 hv => ?_)
  simp only [zO, sp] at hv
  refine uA rfl (uW k6 ?_)
  refine sK fun _ k11 => rL (uM rfl ?_)
  refine uM rfl ?_
  refine uF (.pointer (some ⟨b8, 2, none⟩)) rfl (s2fa50_2 _ _ _) ?_
  refine uL _ rfl (run_load1 s2na3 (hv.load 0 2 rfl rfl)) ?_
  by_cases hb12 : y.expire = 0
  ·refine uG (.bool true) rfl (ex_eql rfl rfl rfl (qT hb12)) (uK rfl ?_)
   refine uA rfl (uW k11 ?_)
   refine sK fun _ k13 => bB (sK fun _ k14 => ?_)
   refine rL (uM rfl ?_)
   by_cases hb15 : name = ([80, 69, 82, 83, 73, 83, 84] : List UInt8)
   ·refine uG (.bool true) rfl (ex_seql rfl rfl rfl (qT hb15)) (uA rfl ?_)
    refine uW k14 (cT rfl ?_)
    refine sK fun _ k16 => sK fun _ k17 => rL (uM rfl ?_)
    refine uG (.bool false) rfl (ex_not rfl rfl rfl) (uM rfl ?_)
    refine uM rfl (uK rfl ?_)
    refine uW k17 (cT rfl ?_)
    refine sK fun _ k18 => rL (xC k6callable54 rfl ((respInt G _ _ 0 hv).mono ?_) rfl)
    rintro e w19 ⟨rfl, hv⟩
    refine ⟨_, rfl, ?_⟩
    refine xS 2 rfl hv rssz34 rfl (by exact ⟨rfl, rfl, rfl, rfl, trivial⟩) (fun w20 hv => ?_)
    simp only [zS, zO, sp] at hv
    refine uW k18 (rR ?_)
    refine tR (bZ ?_)
    refine tR (bC 2 rswd34 hv rfl rfl rfl rfl ?_)
    exact ⟨G, es, M, (.mk 2 ([] : List UInt8) 0 []), _, hG, rfl, rpAt_leaf, hM.more hG, ⟨hO, fun _ => rfl⟩, (hv.kp [1, 4] 2 3)⟩
   refine uG (.bool false) rfl (ex_seql rfl rfl rfl (qF hb15)) (uA rfl ?_)
   refine uW k14 (cF rfl ?_)
   refine sK fun _ k21 => rL (uM rfl ?_)
   refine uG (.bool false) rfl (ex_not rfl rfl rfl) (uA rfl ?_)
   refine uW k21 (cF rfl ?_)
   refine sK fun _ k22 => rL (uM rfl ?_)
   refine uA rfl (uW k22 ?_)
   refine cT rfl (sK fun _ k23 => ?_)
   refine rL (xC k6callable54 rfl ((respInt G _ _ (-1) hv).mono ?_) rfl)
   rintro e w24 ⟨rfl, hv⟩
   refine ⟨_, rfl, ?_⟩
   refine xS 2 rfl hv rssz34 rfl (by exact ⟨rfl, rfl, rfl, rfl, trivial⟩) (fun w25 hv => ?_)
   simp only [zS, zO, sp] at hv
   refine uW k23 (rR ?_)
   refine bZ (tR ?_)
   refine bC 2 rswd34 hv rfl rfl rfl rfl (⟨G, es, M, (.mk 2 ([] : List UInt8) (-1) []), _, hG, rfl, rpAt_leaf, hM.more hG, ⟨hO, fun _ => rfl⟩, (hv.kp [1, 4] 2 3)⟩)
  refine uG (.bool false) rfl (ex_eql rfl rfl rfl (qF hb12)) (uK rfl ?_)
  refine uA rfl (uW k11 ?_)
  refine sK fun _ k26 => bB (sK fun _ k27 => ?_)
  refine rL (uM rfl ?_)
  by_cases hb28 : name = ([80, 69, 82, 83, 73, 83, 84] : List UInt8)
  ·refine uG (.bool true) rfl (ex_seql rfl rfl rfl (qT hb28)) (uA rfl ?_)
   refine uW k27 (cT rfl ?_)
   refine sK fun _ k29 => sK fun _ k30 => rL (uM rfl ?_)
   refine uG (.bool false) rfl (ex_not rfl rfl rfl) (uM rfl ?_)
   refine uM rfl (uK rfl ?_)
   refine uW k30 (cF rfl ?_)
   refine kS (tK k29 ?_)
   refine sK fun _ k31 => rL (uF (vP b2) rfl (k1fa80_0 _ _ _) ?_)
   refine uL _ rfl (run_load1 k1na24 (hv.load 3 0 rfl rfl)) (uM rfl ?_)
   refine uF (.pointer (some ⟨b8, 3, none⟩)) rfl (x2fa50_3 _ _ _) ?_
   refine uL (.agg #[vI y.val.kind, vS y.val.text, yp, yt, yz]) rfl (lM 0 s1wd43 hv rfl rfl rfl rfl) ?_
   replace hv := hv.front 1 rfl
   simp only [eS, eZ] at hv
   replace hv := hv.front 4 rfl
   simp only [eS, eZ] at hv
   refine xC k6callable16 rfl ((viewKeep G _ _ v t m s p wb va vc sv clk es M k y.val yp yt yz 0 (hM.more hG) (hyv.more (Base.Le.refl _)) hv).mono ?_) rfl
   rintro e w32 ⟨D, es1, M1, e1, hD, rfl, hM1, hkp, hv⟩
   refine ⟨_, rfl, ?_⟩
   simp only [zP, po]
   refine xC k6callable54 rfl ((respInt D _ _ 1 hv).mono ?_) rfl
   rintro e w33 ⟨rfl, hv⟩
   refine ⟨_, rfl, ?_⟩
   refine xC k6callable56 rfl ((viewDone D _ _ e1 2 1 ([] : List UInt8) (vN) rfl rfl hv).mono ?_) rfl
   rintro e w34 ⟨xr, hxr, rfl, hv⟩
   refine ⟨_, rfl, ?_⟩
   rcases hxr with ⟨hec0, rfl⟩ | ⟨hec0, s35, rfl⟩
   ·refine xS 3 rfl hv rssz34 rfl (by exact ⟨rfl, rfl, rfl, rfl, trivial⟩) (fun w36 hv => ?_)
    simp only [zS, zO, sp] at hv
    refine uW k31 (rR ?_)
    refine bZ (tR ?_)
    refine bC 3 rswd34 hv rfl rfl rfl rfl (⟨D, es1, M1, (.mk 2 ([] : List UInt8) 1 []), _, (hG.trans hD), rfl, rpAt_leaf, hM1.more (Base.Le.refl _), DoneR.keep (ec := e1) hO hkp (r0 := rInt 1) (.inl ⟨by omega, rfl⟩) isF_int, (hv.kp [1, 1] 2 3)⟩)
   refine xS 3 rfl hv rssz34 rfl (by exact ⟨rfl, rfl, rfl, rfl, trivial⟩) (fun w37 hv => ?_)
   simp only [zS, zO, sp] at hv
   refine uW k31 (rR ?_)
   refine bZ (tR ?_)
   refine bC 3 rswd34 hv rfl rfl rfl rfl (⟨D, es1, M1, (.mk 1 s35 0 []), _, (hG.trans hD), rfl, rpAt_leaf, hM1.more (Base.Le.refl _), DoneR.keep (ec := e1) hO hkp (r0 := rInt 1) (.inr ⟨by omega, rfl⟩) isF_int, (hv.kp [1, 1] 2 3)⟩)
  refine uG (.bool false) rfl (ex_seql rfl rfl rfl (qF hb28)) (uA rfl ?_)
  refine uW k27 (cF rfl ?_)
  refine sK fun _ k38 => rL (uM rfl ?_)
  refine uG (.bool false) rfl (ex_not rfl rfl rfl) (uA rfl ?_)
  refine uW k38 (cF rfl ?_)
  refine sK fun _ k39 => rL (uM rfl ?_)
  refine uA rfl (uW k39 ?_)
  refine cF rfl (sK fun _ k40 => ?_)
  refine rL (uM rfl ?_)
  by_cases hb41 : name = ([84, 84, 76] : List UInt8)
  ·refine uG (.bool true) rfl (ex_seql rfl rfl rfl (qT hb41)) (uA rfl ?_)
   refine uW k40 (cT rfl ?_)
   refine sK fun _ k42 => rW mixed [7, 9, 10] [0,1,2,3,4,5,6,7,8,9,10] 66 rfl (by kernel_rfl) hv ?_
   simp only [qm, opAt]
   refine dG (.pointer (some ⟨b8, 2, none⟩)) rfl (ex_field rfl rfl (s2fa50_2 _ _ _)) (dF _ rfl (fun hv => ex_load rfl rfl (run_load1 s2na3 (hv.load 0 2 rfl rfl))) fun f43 hf43 => ?_)
   refine dG (vP b2) rfl (ex_field rfl rfl (k1fa80_0 _ _ _)) ?_
   simp only [zP, po]
   refine dL _ rfl (fun hv => ex_load rfl rfl (run_load1 k1na24 (hv.load 3 0 rfl rfl))) (dG (vP v) rfl (ex_nil rfl rfl) ?_)
   refine dG (vP v) rfl (ex_field rfl rfl (v1fa56_0 _ _ _)) ?_
   simp only [zP, po]
   refine dL _ rfl (fun hv => ex_load rfl rfl (run_load1 v1na54 (hv.load 4 0 rfl rfl))) (dS rfl fun w44 hv => ?_)
   replace hv := hv.front 1 rfl
   simp only [eS, eZ] at hv
   refine stepMem_callI kNcallable213 rfl rfl rfl (r := vP t) (fun w => by kernel_rfl) (args := #[]) (by simp only [List.map_toArray, List.map_nil]) ((txnClock G _ _ t m s p wb va vc sv clk es hv).mono ?_)
   rintro e w45 ⟨rfl, hv⟩
   refine ⟨_, rfl, dV hv (fC (fun ww hv => hf43 ww (ex_load rfl rfl (run_load1 s2na3 (hv.load 1 2 rfl rfl)))) fN) ?_⟩
   refine dG (vI (IntKind.i64.wrap (y.expire - clk))) rfl (ex_sub rfl rfl rfl (rfl)) ?_
   simp only [zP, po]
   refine dS rfl fun w46 hv => mC k6callable54 rfl ((respInt G _ _ (IntKind.i64.wrap (y.expire - clk)) hv).mono ?_) rfl
   rintro e w47 ⟨rfl, hv⟩
   refine ⟨_, rfl, dV hv (fK rfl fN) ?_⟩
   refine dS rfl fun w48 hv => mS 2 rfl hv rssz34 rfl (by exact ⟨rfl, rfl, rfl, rfl, trivial⟩) (fun w49 hv => ?_)
   simp only [zS, zO, sp] at hv
   refine dV hv (fK rfl fN) (dE fun w50 hv => ?_)
   simp only [zP, po]
   refine tK k42 (rR ?_)
   refine bZ (tR ?_)
   refine bC 2 rswd34 hv rfl rfl rfl rfl (⟨G, es, M, (.mk 2 ([] : List UInt8) (IntKind.i64.wrap (y.expire - clk)) []), _, hG, rfl, rpAt_leaf, hM.more hG, ⟨hO, fun _ => rfl⟩, (hv.kp [4] 2 3)⟩)
  refine uG (.bool false) rfl (ex_seql rfl rfl rfl (qF hb41)) (uA rfl ?_)
  refine uW k40 (cF rfl ?_)
  refine kS (bN ?_)
  refine tK k26 (sK fun _ k51 => ?_)
  refine rL (uF (.pointer (some ⟨b8, 2, none⟩)) rfl (s2fa50_2 _ _ _) ?_)
  refine uL _ rfl (run_load1 s2na3 (hv.load 0 2 rfl rfl)) ?_
  refine xC k6callable54 rfl ((respInt G _ _ y.expire hv).mono ?_) rfl
  rintro e w52 ⟨rfl, hv⟩
  refine ⟨_, rfl, ?_⟩
  simp only [zP, po]
  refine xS 2 rfl hv rssz34 rfl (by exact ⟨rfl, rfl, rfl, rfl, trivial⟩) (fun w53 hv => ?_)
  simp only [zS, zO, sp] at hv
  refine uW k51 (rR ?_)
  refine bC 2 rswd34 hv rfl rfl rfl rfl (⟨G, es, M, (.mk 2 ([] : List UInt8) y.expire []), _, hG, rfl, rpAt_leaf, hM.more hG, ⟨hO, fun _ => rfl⟩, (hv.kp [1, 4] 2 3)⟩)
 refine uM rfl (uE rfl ?_)
 refine uE rfl ?_
 refine sl_alloc tV (wn rfl) rfl hv kNal50 (fun b54 w55 hv => ?_)
 refine xS 0 rfl hv x0sz50 rfl (by exact ⟨rfl, rfl, rfl, rfl, rfl, hyv.p.one, hyv.t.one, hyv.z.one, trivial⟩) (fun w56 hv => ?_)
 simp only [zO, sp] at hv
 refine uA rfl (uW k6 ?_)
 refine sK fun _ k57 => rL (uM rfl ?_)
 refine uM rfl ?_
 iterate 3 refine uP rfl ?_
 refine uK rfl (uA rfl ?_)
 refine uW k57 (sK fun _ k58 => ?_)
 refine bB (sK fun _ k59 => ?_)
 refine rL (uM rfl ?_)
 by_cases hb60 : name = ([80, 69, 82, 83, 73, 83, 84] : List UInt8)
 ·refine uG (.bool true) rfl (ex_seql rfl rfl rfl (qT hb60)) (uA rfl ?_)
  refine uW k59 (cT rfl ?_)
  refine sK fun _ k61 => sK fun _ k62 => rL (uM rfl ?_)
  refine uG (.bool true) rfl (ex_not rfl rfl rfl) (uM rfl ?_)
  refine uP rfl (uK rfl ?_)
  refine uW k62 (cT rfl ?_)
  refine sK fun _ k63 => rL (xC k6callable54 rfl ((respInt G _ _ 0 hv).mono ?_) rfl)
  rintro e w64 ⟨rfl, hv⟩
  refine ⟨_, rfl, ?_⟩
  refine xS 2 rfl hv rssz34 rfl (by exact ⟨rfl, rfl, rfl, rfl, trivial⟩) (fun w65 hv => ?_)
  simp only [zS, zO, sp] at hv
  refine uW k63 (rR ?_)
  refine tR (bZ ?_)
  refine tR (bC 2 rswd34 hv rfl rfl rfl rfl ?_)
  exact ⟨G, es, M, (.mk 2 ([] : List UInt8) 0 []), _, hG, rfl, rpAt_leaf, hM.more hG, ⟨hO, fun _ => rfl⟩, (hv.kp [1, 4] 2 3)⟩
 refine uG (.bool false) rfl (ex_seql rfl rfl rfl (qF hb60)) (uA rfl ?_)
 refine uW k59 (cF rfl ?_)
 refine sK fun _ k66 => rL (uM rfl ?_)
 refine uG (.bool true) rfl (ex_not rfl rfl rfl) (uA rfl ?_)
 refine uW k66 (cT rfl ?_)
 refine sK fun _ k67 => rL (xC k6callable54 rfl ((respInt G _ _ (-2) hv).mono ?_) rfl)
 rintro e w68 ⟨rfl, hv⟩
 refine ⟨_, rfl, ?_⟩
 refine xS 2 rfl hv rssz34 rfl (by exact ⟨rfl, rfl, rfl, rfl, trivial⟩) (fun w69 hv => ?_)
 simp only [zS, zO, sp] at hv
 refine uW k67 (rR ?_)
 refine bZ (tR ?_)
 refine bC 2 rswd34 hv rfl rfl rfl rfl (⟨G, es, M, (.mk 2 ([] : List UInt8) (-2) []), _, hG, rfl, rpAt_leaf, hM.more hG, ⟨hO, fun _ => rfl⟩, (hv.kp [1, 4] 2 3)⟩)
theorem names_nil {clk : Int} : (namesT [] clk).length = 0 := by simp [namesT]
theorem kOmk9 : (Tryz.prog.info? 9).map (fun i => (i.zero, i.size, i.bytes)) = some (some (vS []), 1, 16) := by kernel_rfl
theorem kOel26 : Elem Tryz.prog 26 9 (vS []) 1 16 := elem_of Tryz.underlying26 kOmk9 (by rfl) (by decide)
theorem ckMatching (B : Base) (H : List Res) (w : World) (v t m s p wb : Nat) (va : Option Addr) (vc : Nat) (sv : Value) (clk : Int) (es : List (List UInt8 × Value)) (M : List (List UInt8 × Ver)) (hM : VM B es M) (aa : Option Addr) (an ac : Nat) (p9 : List UInt8) (hkl : ∀ k ∈ M.map (·.1), k.length ≤ 256) (hMl : M.length ≤ 1000000) (hsm : p9.length ≤ 1000000 ∨ M = []) (hv : Inv B (Res.cell v [.iface 100 (vP t)] 56 :: txR t m s p wb va vc sv clk es :: H) w) :
  Calls Tryz.prog 60 #[.agg #[vP v, .slice aa an ac], vS p9] w fun e w' => ∃ C oa oc out, B.Le C ∧ e = .returned (.slice oa out.length oc) ∧ out.length ≤ 1000000 ∧ SliceOk oa out.length oc ∧ RdV C [] oa (textCells out) ∧ Inv C (Res.cell v [.iface 100 (vP t)] 56 :: txR t m s p wb va vc sv clk es :: H) w' := by
 refine cW Tryz.func60 rfl Tryz.ntmps60 ?_
 simp only [al]
 refine sK fun _ k1 => rL (sl_box (L := [vP v, .slice aa an ac]) tV (wn rfl) rfl rfl hv (fun w => by kernel_rfl) (fun b2 w3 hv => ?_))
 refine uA rfl (uW k1 ?_)
 refine sK fun _ k4 => rL (uA rfl ?_)
 refine uW k4 (sK fun _ k5 => ?_)
 refine sK fun _ k6 => rL (uF (vP b2) rfl (k1fa80_0 _ _ _) ?_)
 refine uL _ rfl (run_load1 k1na24 (hv.load 0 0 rfl rfl)) ?_
 refine uG (vP v) rfl (ex_nil rfl rfl) ?_
 refine uF (vP v) rfl (v1fa56_0 _ _ _) ?_
 refine uL _ rfl (run_load1 v1na54 (hv.load 1 0 rfl rfl)) ?_
 replace hv := hv.front 2 rfl
 simp only [eS, eZ] at hv
 refine wpi_callI k1callable216 tV wideC rfl (wn rfl) rfl rfl (r := vP t) (fun w => by kernel_rfl) (args := #[]) (by simp only [List.map_toArray, List.map_nil]) ((txnNamesC B _ _ t m s p wb va vc sv clk es M (hM.more (Base.Le.refl _)) hkl (by omega) hv).mono ?_)
 rintro e w7 ⟨C, na, nc, hC, rfl, hnr, hokn, hv⟩
 refine ⟨_, rfl, ?_⟩
 have hnl := namesT_le M clk
 refine uG (vI (((namesT M clk).length) : Int)) rfl (ex_len0 Tryz.underlying26 rfl rfl) (uM rfl ?_)
 refine uW k6 (bB ?_)
 gi_loopw [5, 15] (fun x5 x15 wr => ∃ (i : Nat) (ft : List (List UInt8)) (fa : Option Addr) (fc : Nat), x5 = .slice fa ft.length fc ∧ x15 = vI i ∧ i ≤ (namesT M clk).length ∧ ft.length ≤ i ∧ Inv C (Res.row 9 1 (.slice fa ft.length fc) ft.length (textCells ft) :: txR t m s p wb va vc sv clk es :: Res.cell b2 [vP v, .slice aa an ac] 80 :: Res.cell v [.iface 100 (vP t)] 56 :: H) wr) (fun x5 x15 _ => (namesT M clk).length - (intOf x15).toNat)
 case atStart => exact ⟨0, [], none, 0, rfl, rfl, Nat.zero_le _, Nat.zero_le _, ((((hv.front 2 rfl).front 2 rfl).front 2 rfl)).rowNil 9 1⟩
 case round =>
  obtain ⟨i, ft, fa, fc, rfl, rfl, hi9, hfl, hv⟩ := hrel
  refine sK fun _ k9 => rL ?_
  by_cases hb10 : (i : Int) < (((namesT M clk).length) : Int)
  ·refine uG (.bool true) rfl (ex_lss rfl rfl rfl (qT hb10)) (uW k9 ?_)
   refine sK fun _ k11 => cT rfl (kS ?_)
   refine tK k11 (sK fun _ k12 => ?_)
   refine bB (sK fun _ k13 => ?_)
   obtain ⟨x, hx⟩ : ∃ x, (namesT M clk)[i]? = some x := ⟨_, List.getElem?_eq_getElem (show i < (namesT M clk).length by omega)⟩
   obtain ⟨mb, mo, had, hrdx⟩ := text_reads hnr hx
   subst had
   refine rL (uG (.pointer (some ⟨mb, mo + i, none⟩)) rfl (ex_index rfl rfl rfl (run_idx1 (k := i) Tryz.underlying26 s9es26 (by omega))) ?_)
   refine uL _ rfl (run_load1 s9na9 (hrdx _ _ _ (Base.Le.refl _) no_res hv 0 _ rfl)) (uA rfl ?_)
   refine uW k13 (sK fun _ k14 => ?_)
   refine rL (uM rfl ?_)
   refine uM rfl ?_
   refine xC v8callable85 rfl ((globMatch C _ _ p9 (hsm.resolve_right (fun h9 => by subst h9; exact absurd (List.getElem?_eq_some_iff.1 hx).1 (by rw [names_nil]; exact Nat.not_lt_zero _))) x (by have := namesT_short hkl x (List.mem_of_getElem? hx); omega) hv).mono ?_) rfl
   rintro e w15 ⟨b, rfl, hb, hv⟩
   refine ⟨_, rfl, ?_⟩
   cases b
   ·refine uW k14 (cF rfl ?_)
    refine kS (bN ?_)
    refine tK k12 (rL ?_)
    refine uG (vI ((i + 1 : Nat) : Int)) rfl (ex_add rfl rfl rfl (by rw [i64_in (by omega)]; omega)) (uM rfl ?_)
    refine uZ (then_normal ?_)
    go_roundw
    case rel => exact ⟨i + 1, ft, fa, fc, rfl, rfl, by omega, by omega, ((((hv.front 3 rfl).front 3 rfl).front 3 rfl).front 3 rfl)⟩
    case measure => show (namesT M clk).length - (((i + 1 : Nat) : Int)).toNat < (namesT M clk).length - ((i : Int)).toNat; omega
   refine uW k14 (cT rfl ?_)
   refine rL (uM rfl ?_)
   refine uM rfl ?_
   refine sl_rowOne (v := vS x) tV (wn rfl) rfl rfl hv kOel26 rfl (fun b16 w17 hv => ?_)
   simp only [zP, po]
   replace hv := hv.front 1 rfl
   simp only [eS, eZ] at hv
   refine sl_append (news := [vS x]) tV (wn rfl) rfl rfl rfl kOel26 hv (ok_full (by omega)) rfl (rd_all (hv.get 1 rfl)) (by intro u hu; simp only [List.mem_cons, List.not_mem_nil, or_false] at hu; rcases hu with rfl <;> rfl) (by unfold maxLen; omega) (by omega) (fun rv18 w21 hv => ?_)
   obtain ⟨ra19, rc20, rfl⟩ := row_slice hv.head
   refine uA rfl (uZ ?_)
   refine bN (tK k12 ?_)
   refine rL (uG (vI ((i + 1 : Nat) : Int)) rfl (ex_add rfl rfl rfl (by rw [i64_in (by omega)]; omega)) ?_)
   refine uM rfl (uZ ?_)
   refine then_normal ?_
   go_roundw
   case rel => exact ⟨i + 1, ft ++ [x], _, _, by rw [List.length_append, List.length_singleton], rfl, by omega, by rw [List.length_append, List.length_singleton]; omega, by rw [List.length_append, List.length_singleton, ← text_snoc]; exact (hv.kp [4, 4, 4, 3] 4 1)⟩
   case measure => show (namesT M clk).length - (((i + 1 : Nat) : Int)).toNat < (namesT M clk).length - ((i : Int)).toNat; omega
  refine uG (.bool false) rfl (ex_lss rfl rfl rfl (qF hb10)) (uW k9 ?_)
  refine sK fun _ k22 => cF rfl (xE ?_)
  refine tX (tX ?_)
  refine bH (tK k5 ?_)
  refine sK fun _ k23 => rL (uM rfl ?_)
  refine uA rfl (uW k23 ?_)
  refine rR (bR rfl rfl ?_)
  obtain ⟨E, hE, hv, hrf, hokf, -⟩ := (((((hv.front 1 rfl).front 3 rfl).front 2 rfl).sub (sC _ (sC _ (sC _ (sD _ (sR _))))))).rowBy
  exact ⟨E, fa, fc, ft, hC.trans hE, rfl, by omega, hokf, hrf, hv⟩
theorem valueName (B : Base) (H : List Res) (w : World) (n : Int) (hv : Inv B H w) :
  Calls Tryz.prog 65 #[vI n] w fun e w' => ∃ s : List UInt8, e = .returned (strV s) ∧ Inv B H w' := by
 refine cW Tryz.func65 rfl Tryz.ntmps65 ?_
 simp only [al]
 refine sK fun _ k1 => rL (uA rfl ?_)
 refine uW k1 (sK fun _ k2 => ?_)
 refine sK fun _ k3 => rL (uM rfl ?_)
 refine uW k3 (bB ?_)
 refine sK fun _ k4 => rL ?_
 by_cases hb5 : n = 1
 ·refine uG (.bool true) rfl (ex_eql rfl rfl rfl (qT hb5)) (uA rfl ?_)
  refine uW k4 (cT rfl ?_)
  refine sK fun _ k6 => rL (uA rfl ?_)
  refine uW k6 (rR ?_)
  refine bZ (tR ?_)
  refine bR rfl rfl (⟨_, rfl, hv⟩)
 refine uG (.bool false) rfl (ex_eql rfl rfl rfl (qF hb5)) (uA rfl ?_)
 refine uW k4 (cF rfl ?_)
 refine sK fun _ k7 => rL ?_
 by_cases hb8 : n = 2
 ·refine uG (.bool true) rfl (ex_eql rfl rfl rfl (qT hb8)) (uA rfl ?_)
  refine uW k7 (cT rfl ?_)
  refine sK fun _ k9 => rL (uA rfl ?_)
  refine uW k9 (rR ?_)
  refine bZ (tR ?_)
  refine bR rfl rfl (⟨_, rfl, hv⟩)
 refine uG (.bool false) rfl (ex_eql rfl rfl rfl (qF hb8)) (uA rfl ?_)
 refine uW k7 (cF rfl ?_)
 refine sK fun _ k10 => rL ?_
 by_cases hb11 : n = 3
 ·refine uG (.bool true) rfl (ex_eql rfl rfl rfl (qT hb11)) (uA rfl ?_)
  refine uW k10 (cT rfl ?_)
  refine sK fun _ k12 => rL (uA rfl ?_)
  refine uW k12 (rR ?_)
  refine bZ (tR ?_)
  refine bR rfl rfl (⟨_, rfl, hv⟩)
 refine uG (.bool false) rfl (ex_eql rfl rfl rfl (qF hb11)) (uA rfl ?_)
 refine uW k10 (cF rfl ?_)
 refine sK fun _ k13 => rL ?_
 by_cases hb14 : n = 4
 ·refine uG (.bool true) rfl (ex_eql rfl rfl rfl (qT hb14)) (uA rfl ?_)
  refine uW k13 (cT rfl ?_)
  refine sK fun _ k15 => rL (uA rfl ?_)
  refine uW k15 (rR ?_)
  refine bZ (tR ?_)
  refine bR rfl rfl (⟨_, rfl, hv⟩)
 refine uG (.bool false) rfl (ex_eql rfl rfl rfl (qF hb14)) (uA rfl ?_)
 refine uW k13 (cF rfl ?_)
 refine sK fun _ k16 => rL ?_
 by_cases hb17 : n = 5
 ·refine uG (.bool true) rfl (ex_eql rfl rfl rfl (qT hb17)) (uA rfl ?_)
  refine uW k16 (cT rfl ?_)
  refine sK fun _ k18 => rL (uA rfl ?_)
  refine uW k18 (rR ?_)
  refine bZ (tR ?_)
  refine bR rfl rfl (⟨_, rfl, hv⟩)
 refine uG (.bool false) rfl (ex_eql rfl rfl rfl (qF hb17)) (uA rfl ?_)
 refine uW k16 (cF rfl ?_)
 refine kS (bN ?_)
 refine tK k2 (sK fun _ k19 => ?_)
 refine rL (uA rfl ?_)
 refine uW k19 (rR ?_)
 refine bR rfl rfl (⟨_, rfl, hv⟩)
section
variable {M M' : List (List UInt8 × Ver)} {clk e : Int} {k l : List UInt8} {ws : List (List UInt8)} {r r0 : Rp}
theorem OkM.del (h : OkM M) (ks : List (List UInt8)) : OkM (delM M ks) := by
 unfold delM
 induction ks generalizing M with
 | nil => exact h
 | cons k ks ih => exact ih (h.upd (.inl rfl))
theorem got_short (h : OkM M) (hg : gotM M clk k ≠ none) : k.length ≤ 256 := by
 cases hg2 : gotM M clk k with
 | none => exact absurd hg2 hg
 | some y => exact (h.alive (got_some hg2).1 (got_some hg2).2).1
theorem DelI.all {M1 : List (List UInt8 × Ver)} (hO : OkM M1) (hs : ∀ q ∈ ws, q.length ≤ 256) (h : DelI M1 ws e M') (hd : DoneR e r0 r) (h0 : ¬ IsF r0) : OkM M' ∧ ¬ IsF r := by
 rcases h with ⟨rfl, -, rfl⟩ | ⟨-, ⟨q, h1, h2⟩, -⟩
 ·refine ⟨hO.del _, fun hf => ?_⟩
  rcases hd with ⟨-, rfl⟩ | ⟨h, -⟩
  ·exact h0 hf
  exact h rfl
 have := hs q h1; omega
theorem dropK_got : ∀ (ks acc : List (List UInt8)), (∀ q ∈ acc, gotM M clk q ≠ none) → ∀ q ∈ ks.foldl (stepK M clk) acc, gotM M clk q ≠ none
 | [], acc, h => h
 | k :: ks, acc, h => dropK_got ks _ fun q hq => by
  unfold stepK at hq
  split at hq
  ·exact h q hq
  split at hq
  ·rename_i h9
   rcases List.mem_append.1 hq with hq | hq
   ·exact h q hq
   rw [List.mem_singleton.1 hq]; intro h8; rw [h8] at h9; cases h9
  exact h q hq
theorem isF_text {s : List UInt8} : ¬ IsF (rText s) := fun h => absurd (show (0 : Int) = 1 from h) (by decide)
theorem drop_cmd (hO : OkM M) (h : DelI M (dropK M clk ws) e M') (hd : DoneR e r0 r) (h0 : ¬ IsF r0) : CmdR M M' r := by
 obtain ⟨h1, h2⟩ := DelI.all hO (fun q hq => got_short hO (dropK_got ws [] (fun q h => by cases h) q hq)) h hd h0
 exact ⟨h1, fun hf => absurd hf h2⟩
theorem RenameR.cmd (hO : OkM M) (h : RenameR M clk k l M' r) : CmdR M M' r := by
 rcases h with ⟨-, rfl, -⟩ | ⟨y, hg, ⟨-, rfl, -⟩ | ⟨-, e1, M1, hk, ⟨he, rfl, -⟩ | ⟨he, e2, hd, hdr⟩⟩⟩
 ·exact ⟨hO, fun _ => rfl⟩
 ·exact ⟨hO, fun _ => rfl⟩
 ·exact ⟨hO.keep hk, fun _ => keep_not hk he⟩
 obtain ⟨h1, h2⟩ := DelI.all (hO.keep hk) (fun q hq => by rw [List.mem_singleton.1 hq]; exact got_short hO (by rw [hg]; exact Option.some_ne_none _)) hd hdr isF_text
 exact ⟨h1, fun hf => absurd hf h2⟩
theorem RenamenxR.cmd (hO : OkM M) (h : RenamenxR M clk k l M' r) : CmdR M M' r := by
 rcases h with ⟨-, rfl, -⟩ | ⟨-, ⟨-, rfl, -⟩ | ⟨-, r1, hr, ⟨hf, rfl⟩ | ⟨-, rfl⟩⟩⟩
 ·exact ⟨hO, fun _ => rfl⟩
 ·exact ⟨hO, fun _ => rfl⟩
 ·exact hr.cmd hO
 exact ⟨(hr.cmd hO).1, fun hf => absurd hf isF_int⟩
theorem CopyR.cmd (hO : OkM M) (h : CopyR M clk k l ws M' r) : CmdR M M' r := by
 rcases h with ⟨-, rfl, -⟩ | ⟨-, rfl, -⟩ | ⟨y, -, -, -, e, hk, hd⟩
 ·exact ⟨hO, fun _ => rfl⟩
 ·exact ⟨hO, fun _ => rfl⟩
 exact hd.keep hO hk isF_int
theorem SrtR.cmd (hO : OkM M) (h : SrtR M clk k ws M' r) : CmdR M M' r := by
 rcases h with ⟨-, rfl, -⟩ | ⟨s, -, ⟨-, rfl, -⟩ | ⟨xs, ex, -, ⟨-, rfl, -⟩ | ⟨-, ys, ey, -, ⟨-, rfl, -⟩ | ⟨-, om, mo, out, -, -, ⟨-, rfl, -⟩ | ⟨-, e, hk, hd⟩⟩⟩⟩⟩
 ·exact ⟨hO, fun _ => rfl⟩
 ·exact ⟨hO, fun _ => rfl⟩
 ·exact ⟨hO, fun _ => rfl⟩
 ·exact ⟨hO, fun _ => rfl⟩
 ·exact ⟨hO, fun _ => rfl⟩
 exact hd.keep hO hk isF_int
end
abbrev nSCAN : List UInt8 := [83, 67, 65, 78]
def DoK (M : List (List UInt8 × Ver)) (clk : Int) (name : List UInt8) (args : List (List UInt8)) (M' : List (List UInt8 × Ver)) (r : Rp) : Prop := name = nSCAN → M' = M ∧ ScanR (namesT M clk) args r
theorem kPal34 : AL Tryz.prog 34 [vI 0, vS [], vI 0, vN] := fun w => by kernel_rfl
theorem kPfa80_1 : FA Tryz.prog 80 1 1 := fun w b o => by kernel_rfl
theorem kPcallable53 : Callable Tryz.prog 53 := cb Tryz.func53 (by kernel_rfl)
theorem kPcallable55 : Callable Tryz.prog 55 := cb Tryz.func55 (by kernel_rfl)
theorem kPal50 : AL Tryz.prog 50 [vI 0, .bool false, vI 0, vI 0, vS [], vN, vN, vN] := fun w => by kernel_rfl
theorem kPcallable57 : Callable Tryz.prog 57 := cb Tryz.func57 (by kernel_rfl)
theorem kPcallable60 : Callable Tryz.prog 60 := cb Tryz.func60 (by kernel_rfl)
theorem kPcallable62 : Callable Tryz.prog 62 := cb Tryz.func62 (by kernel_rfl)
theorem kPcallable63 : Callable Tryz.prog 63 := cb Tryz.func63 (by kernel_rfl)
theorem kPcallable64 : Callable Tryz.prog 64 := cb Tryz.func64 (by kernel_rfl)
theorem kPcallable65 : Callable Tryz.prog 65 := cb Tryz.func65 (by kernel_rfl)
theorem kPcallable66 : Callable Tryz.prog 66 := cb Tryz.func66 (by kernel_rfl)
theorem ckDoAll (B : Base) (H : List Res) (w : World) (v t m s p wb : Nat) (va : Option Addr) (vc : Nat) (sv : Value) (clk : Int) (es : List (List UInt8 × Value)) (M : List (List UInt8 × Ver)) (hM : VM B es M) (hO : OkM M) (aa : Option Addr) (ac : Nat) (args : List (List UInt8)) (hra : RdV B [] aa (textCells args)) (hoka : SliceOk aa args.length ac) (hma : args.length ≤ 1000) (name : List UInt8) (hc1 : name ≠ ([68, 66, 83, 73, 90, 69] : List UInt8) → name ≠ ([70, 76, 85, 83, 72, 65, 76, 76] : List UInt8) → 1 ≤ args.length) (hc2 : name = ([67, 79, 80, 89] : List UInt8) ∨ name = ([69, 88, 80, 73, 82, 69] : List UInt8) ∨ name = ([69, 88, 80, 73, 82, 69, 65, 84] : List UInt8) ∨ name = ([82, 69, 78, 65, 77, 69] : List UInt8) ∨ name = ([82, 69, 78, 65, 77, 69, 78, 88] : List UInt8) → 2 ≤ args.length) (hxl : ∀ x ∈ args, x.length ≤ 9223372036854775807) (hsm : (∀ x ∈ args, x.length ≤ 1000000) ∨ M = []) (hN : NumB B) (hkl : ∀ k ∈ M.map (·.1), k.length ≤ 256) (hMl : M.length ≤ 1000000) (h0c : 0 ≤ clk) (h1c : clk ≤ 1099511627776) (hsrt : ∀ b, SortedOk b) (hv : Inv B (Res.cell v [.iface 100 (vP t)] 56 :: txR t m s p wb va vc sv clk es :: H) w) :
  Calls Tryz.prog 31 #[.agg #[vP v, .slice aa args.length ac], vS name] w fun e w' => ∃ C es' M' r cs, B.Le C ∧ e = .returned (.agg cs.toArray) ∧ RpAt C r cs ∧ VM C es' M' ∧ CmdR M M' r ∧ DoK M clk name args M' r ∧ Inv C (Res.cell v [.iface 100 (vP t)] 56 :: txR t m s p wb va vc sv clk es' :: H) w' := by
 refine cW Tryz.func31 rfl Tryz.ntmps31 ?_
 simp only [al]
 refine sK fun _ k1 => rL (sl_box (L := [vP v, .slice aa args.length ac]) tV (wn rfl) rfl rfl hv (fun w => by kernel_rfl) (fun b2 w3 hv => ?_))
 simp only [zP, po]
 refine sl_alloc tV (wn rfl) rfl hv kPal34 (fun b4 w5 hv => ?_)
 refine uW k1 (sK fun _ k6 => ?_)
 refine rL (uF (.pointer (some ⟨b2, 1, none⟩)) rfl (kPfa80_1 _ _ _) ?_)
 refine uL _ rfl (run_load1 s1na26 (hv.load 1 1 rfl rfl)) (uA rfl ?_)
 refine uW k6 (sK fun _ k7 => ?_)
 refine sK fun _ k8 => rL (uM rfl ?_)
 refine uW k8 (bB ?_)
 refine sK fun _ k9 => rL ?_
 by_cases hb10 : name = ([67, 79, 80, 89] : List UInt8)
 ·refine uG (.bool true) rfl (ex_seql rfl rfl rfl (qT hb10)) (uA rfl ?_)
  refine uW k9 (cT rfl ?_)
  refine sK fun _ k11 => ?_
  have hal2 : 2 ≤ args.length := hc2 (.inl hb10)
  obtain ⟨k, hk⟩ : ∃ k, args[0]? = some k := ⟨_, List.getElem?_eq_getElem (show 0 < args.length by omega)⟩
  obtain ⟨l, hl⟩ : ∃ k, args[1]? = some k := ⟨_, List.getElem?_eq_getElem (show 1 < args.length by omega)⟩
  have hdn : (args.drop 2).length = args.length - 2 := List.length_drop
  obtain ⟨a3, c3, ha3, ok3, hr3⟩ := sliced_fromV 1 hoka hra (textCells_len args) (show 2 ≤ args.length by omega) (by decide)
  rw [Nat.mul_one, tx_drop] at hr3
  rw [← hdn] at ok3
  obtain ⟨ab, ao, had, hrdk⟩ := text_reads hra hk
  obtain ⟨ab9, ao9, had9, hrdl⟩ := text_reads hra hl
  subst had
  cases had9
  refine rW mixed [9, 10] [0,1,2,3,4,5,6,7,8,9,10] 178 rfl (by kernel_rfl) hv ?_
  simp only [qm, opAt]
  refine dL (.agg #[vP v, .slice (some ⟨ab, ao, none⟩) args.length ac]) rfl (fun hv => ex_load rfl rfl (lM 1 k6wd80 hv rfl rfl rfl rfl)) (dM (.slice (some ⟨ab, ao, none⟩) args.length ac) rfl ?_)
  refine dG (.pointer (some ⟨ab, ao + 0, none⟩)) rfl (ex_index rfl rfl rfl (run_idx1 (k := 0) Tryz.underlying26 s9es26 (by omega))) ?_
  simp only [zP, po]
  refine dL _ rfl (fun hv => ex_load rfl rfl (run_load1 s9na9 (hrdk _ _ _ (Base.Le.refl _) no_res hv 0 _ rfl))) (dM (.slice (some ⟨ab, ao, none⟩) args.length ac) rfl ?_)
  refine dG (.pointer (some ⟨ab, ao + 1, none⟩)) rfl (ex_index rfl rfl rfl (run_idx1 (k := 1) Tryz.underlying26 s9es26 (by omega))) ?_
  simp only [zP, po]
  refine dL _ rfl (fun hv => ex_load rfl rfl (run_load1 s9na9 (hrdl _ _ _ (Base.Le.refl _) no_res hv 0 _ rfl))) (dM (.slice (some ⟨ab, ao, none⟩) args.length ac) rfl ?_)
  refine dG (.slice a3 ((args.drop 2).length) c3) rfl (ex_slice (lo' := some (vI ((2 : Nat) : Int))) rfl rfl (congrArg some rfl) rfl rfl ((run_fromAny Tryz.underlying26 s9es26 (by omega)).trans (by rw [ha3, hdn]))) ?_
  simp only [zP, po]
  refine dS rfl fun w12 hv => ?_
  replace hv := hv.front 3 rfl
  simp only [eS, eZ] at hv
  replace hv := hv.front 3 rfl
  simp only [eS, eZ] at hv
  refine mC kPcallable53 rfl ((ckCopy B _ _ v t m s p wb va vc sv clk es M hM (some ⟨ab, ao, none⟩) args.length ac k l a3 c3 (args.drop 2) hr3 (fun x hx => hxl x (List.mem_of_mem_drop hx)) hv).mono ?_) rfl
  rintro e w13 ⟨D, es1, M1, r1, cs, hD, rfl, hrp, hM1, hrel, hv⟩
  have hcmd : CmdR M M1 r1 := hrel.cmd hO
  obtain ⟨rk, rs, rn, rv, rfl⟩ := rp_parts hrp
  refine ⟨_, rfl, dW hv ?_⟩
  refine dS rfl fun w14 hv => mS 2 rfl hv rssz34 rfl (by exact ⟨rfl, rfl, rfl, hrp.lv.2, trivial⟩) (fun w15 hv => ?_)
  simp only [zS, zO, sp] at hv
  refine dW hv (dE fun w16 hv => ?_)
  simp only [zP, po]
  refine tK k11 (rR ?_)
  refine bZ (tR ?_)
  refine bC 2 rswd34 hv rfl rfl rfl rfl (⟨D, es1, M1, r1, _, hD, rfl, hrp, hM1, hcmd, fun h9 => by rw [hb10] at h9; exact absurd h9 (by decide), (hv.kp [1, 1] 2 2)⟩)
 refine uG (.bool false) rfl (ex_seql rfl rfl rfl (qF hb10)) (uA rfl ?_)
 refine uW k9 (cF rfl ?_)
 refine sK fun _ k17 => rL ?_
 by_cases hb18 : name = ([68, 66, 83, 73, 90, 69] : List UInt8)
 ·refine uG (.bool true) rfl (ex_seql rfl rfl rfl (qT hb18)) (uA rfl ?_)
  refine uW k17 (cT rfl ?_)
  refine sK fun _ k19 => rL (uF (vP b2) rfl (k1fa80_0 _ _ _) ?_)
  refine uL _ rfl (run_load1 k1na24 (hv.load 1 0 rfl rfl)) ?_
  refine uG (vP v) rfl (ex_nil rfl rfl) ?_
  refine uF (vP v) rfl (v1fa56_0 _ _ _) ?_
  refine uL _ rfl (run_load1 v1na54 (hv.load 2 0 rfl rfl)) ?_
  replace hv := hv.front 3 rfl
  simp only [eS, eZ] at hv
  refine wpi_callI k1callable216 tV wideC rfl (wn rfl) rfl rfl (r := vP t) (fun w => by kernel_rfl) (args := #[]) (by simp only [List.map_toArray, List.map_nil]) ((txnNamesC B _ _ t m s p wb va vc sv clk es M (hM.more (Base.Le.refl _)) hkl (by omega) hv).mono ?_)
  rintro e w20 ⟨C, na, nc, hC, rfl, hnr, hokn, hv⟩
  refine ⟨_, rfl, ?_⟩
  have hnl := namesT_le M clk
  refine uG (vI (((namesT M clk).length) : Int)) rfl (ex_len0 Tryz.underlying26 rfl rfl) ?_
  refine xC k6callable54 rfl ((respInt C _ _ (((namesT M clk).length) : Int) hv).mono ?_) rfl
  rintro e w21 ⟨rfl, hv⟩
  refine ⟨_, rfl, ?_⟩
  simp only [zP, po]
  refine xS 1 rfl hv rssz34 rfl (by exact ⟨rfl, rfl, rfl, rfl, trivial⟩) (fun w22 hv => ?_)
  simp only [zS, zO, sp] at hv
  refine uW k19 (rR ?_)
  refine bZ (tR ?_)
  refine bC 1 rswd34 hv rfl rfl rfl rfl (⟨C, es, M, (.mk 2 ([] : List UInt8) (((namesT M clk).length) : Int) []), _, hC, rfl, rpAt_leaf, hM.more hC, ⟨hO, fun _ => rfl⟩, fun h9 => by rw [hb18] at h9; exact absurd h9 (by decide), (hv.kp [3] 2 2)⟩)
 refine uG (.bool false) rfl (ex_seql rfl rfl rfl (qF hb18)) (uA rfl ?_)
 refine uW k17 (cF rfl ?_)
 refine sK fun _ k23 => rL ?_
 by_cases hb24 : name = ([68, 69, 76] : List UInt8)
 ·refine uG (.bool true) rfl (ex_seql rfl rfl rfl (qT hb24)) (uA rfl ?_)
  refine uW k23 (cT rfl ?_)
  refine sK fun _ k25 => rL (uL (.agg #[vP v, .slice aa args.length ac]) rfl (lM 1 k6wd80 hv rfl rfl rfl rfl) ?_)
  refine uM rfl ?_
  replace hv := hv.front 3 rfl
  simp only [eS, eZ] at hv
  replace hv := hv.front 3 rfl
  simp only [eS, eZ] at hv
  refine xC kPcallable55 rfl ((ckDrop B _ _ v t m s p wb va vc sv clk es M (hM.more (Base.Le.refl _)) aa args.length ac aa ac args hra (by omega) hv).mono ?_) rfl
  rintro e w26 ⟨D, es1, M1, e1, hD, rfl, hM1, hdl, hv⟩
  refine ⟨_, rfl, uM rfl ?_⟩
  refine uE rfl (uE rfl ?_)
  refine uA rfl (uA rfl ?_)
  refine uW k25 (sK fun _ k27 => ?_)
  refine rL (uM rfl ?_)
  refine uM rfl ?_
  refine xC k6callable54 rfl ((respInt D _ _ ((dropK M clk args).length : Int) hv).mono ?_) rfl
  rintro e w28 ⟨rfl, hv⟩
  refine ⟨_, rfl, ?_⟩
  simp only [zP, po]
  refine xC k6callable56 rfl ((viewDone D _ _ e1 2 ((dropK M clk args).length : Int) ([] : List UInt8) (vN) rfl rfl hv).mono ?_) rfl
  rintro e w29 ⟨xr, hxr, rfl, hv⟩
  refine ⟨_, rfl, ?_⟩
  rcases hxr with ⟨hec0, rfl⟩ | ⟨hec0, s30, rfl⟩
  ·simp only [zP, po]
   refine xS 2 rfl hv rssz34 rfl (by exact ⟨rfl, rfl, rfl, rfl, trivial⟩) (fun w31 hv => ?_)
   simp only [zS, zO, sp] at hv
   refine uW k27 (rR ?_)
   refine bZ (tR ?_)
   refine bC 2 rswd34 hv rfl rfl rfl rfl (⟨D, es1, M1, (.mk 2 ([] : List UInt8) ((dropK M clk args).length : Int) []), _, hD, rfl, rpAt_leaf, hM1.more (Base.Le.refl _), drop_cmd hO hdl (r0 := rInt ((dropK M clk args).length : Int)) (.inl ⟨by omega, rfl⟩) isF_int, fun h9 => by rw [hb24] at h9; exact absurd h9 (by decide), (hv.kp [1, 1] 2 2)⟩)
  simp only [zP, po]
  refine xS 2 rfl hv rssz34 rfl (by exact ⟨rfl, rfl, rfl, rfl, trivial⟩) (fun w32 hv => ?_)
  simp only [zS, zO, sp] at hv
  refine uW k27 (rR ?_)
  refine bZ (tR ?_)
  refine bC 2 rswd34 hv rfl rfl rfl rfl (⟨D, es1, M1, (.mk 1 s30 0 []), _, hD, rfl, rpAt_leaf, hM1.more (Base.Le.refl _), drop_cmd hO hdl (r0 := rInt ((dropK M clk args).length : Int)) (.inr ⟨by omega, rfl⟩) isF_int, fun h9 => by rw [hb24] at h9; exact absurd h9 (by decide), (hv.kp [1, 1] 2 2)⟩)
 refine uG (.bool false) rfl (ex_seql rfl rfl rfl (qF hb24)) (uA rfl ?_)
 refine uW k23 (cF rfl ?_)
 refine sK fun _ k33 => rL ?_
 by_cases hb34 : name = ([69, 88, 73, 83, 84, 83] : List UInt8)
 ·refine uG (.bool true) rfl (ex_seql rfl rfl rfl (qT hb34)) (uA rfl ?_)
  refine uW k33 (cT rfl ?_)
  refine sK fun _ k35 => rL (uA rfl ?_)
  refine uW k35 (sK fun _ k36 => ?_)
  refine sK fun _ k37 => rL (uM rfl ?_)
  refine uG (vI (args.length : Int)) rfl (ex_len0 Tryz.underlying26 rfl rfl) (uM rfl ?_)
  refine uW k37 (bB ?_)
  gi_loopw [8, 58] (fun x8 x58 wr => ∃ (i n1 : Nat) (D : Base), x8 = vI n1 ∧ x58 = vI i ∧ i ≤ args.length ∧ n1 ≤ i ∧ B.Le D ∧ Inv D (Res.cell b4 [vI 0, vS [], vI 0, vN] 34 :: Res.cell b2 [vP v, .slice aa args.length ac] 80 :: Res.cell v [.iface 100 (vP t)] 56 :: txR t m s p wb va vc sv clk es :: H) wr) (fun x8 x58 _ => args.length - (intOf x58).toNat)
  case atStart => exact ⟨0, 0, B, rfl, rfl, Nat.zero_le _, Nat.zero_le _, Base.Le.refl _, hv⟩
  case round =>
   obtain ⟨i, n1, D, rfl, rfl, hi, hn1, hBD, hv⟩ := hrel
   refine sK fun _ k39 => rL ?_
   by_cases hb40 : (i : Int) < (args.length : Int)
   ·refine uG (.bool true) rfl (ex_lss rfl rfl rfl (qT hb40)) (uW k39 ?_)
    refine sK fun _ k41 => cT rfl (kS ?_)
    refine tK k41 (sK fun _ k42 => ?_)
    refine bB (sK fun _ k43 => ?_)
    obtain ⟨x, hx⟩ : ∃ x, args[i]? = some x := ⟨_, List.getElem?_eq_getElem (show i < args.length by omega)⟩
    obtain ⟨ab, ao, had, hrdx⟩ := text_reads hra hx
    subst had
    refine rL (uG (.pointer (some ⟨ab, ao + i, none⟩)) rfl (ex_index rfl rfl rfl (run_idx1 (k := i) Tryz.underlying26 s9es26 (by omega))) ?_)
    refine uL _ rfl (run_load1 s9na9 (hrdx _ _ _ hBD no_res hv 0 _ rfl)) (uA rfl ?_)
    refine uW k43 (sK fun _ k44 => ?_)
    refine rL (uF (vP b2) rfl (k1fa80_0 _ _ _) ?_)
    refine uL _ rfl (run_load1 k1na24 (hv.load 1 0 rfl rfl)) ?_
    refine uG (vP v) rfl (ex_nil rfl rfl) ?_
    refine uF (vP v) rfl (v1fa56_0 _ _ _) ?_
    refine uL _ rfl (run_load1 v1na54 (hv.load 2 0 rfl rfl)) (uM rfl ?_)
    replace hv := hv.front 3 rfl
    simp only [eS, eZ] at hv
    refine wpi_callI v1callable215 tV wideC rfl (wn rfl) rfl rfl (r := vP t) (fun w => by kernel_rfl) (args := #[vS x]) (by simp only [List.map_toArray, List.map_cons, List.map_nil]; rfl) ((txnGet D _ _ t m s p wb va vc sv clk es M x (hM.more hBD) hv).mono ?_)
    rintro e w45 ⟨G, y, yp, yt, yz, oky, hG, rfl, hgot, hyv, hv⟩
    refine ⟨_, rfl, ?_⟩
    rcases got_of hgot with ⟨rfl, hg⟩ | ⟨rfl, rfl, hg⟩
    ·refine uM rfl (uE rfl ?_)
     refine uE rfl ?_
     refine sl_alloc tV (wn rfl) rfl hv kPal50 (fun b46 w47 hv => ?_)
     simp only [zP, po]
     refine xS 0 rfl hv x0sz50 rfl (by exact ⟨rfl, rfl, rfl, rfl, rfl, hyv.p.one, hyv.t.one, hyv.z.one, trivial⟩) (fun w48 hv => ?_)
     simp only [zO, sp] at hv
     refine uA rfl (uW k44 ?_)
     refine sK fun _ k49 => rL (uM rfl ?_)
     refine uW k49 (cT rfl ?_)
     refine rL (uM rfl ?_)
     refine uG (vI ((n1 + 1 : Nat) : Int)) rfl (ex_add rfl rfl rfl (by rw [i64_in (by omega)]; omega)) (uA rfl ?_)
     refine uZ (bN ?_)
     refine tK k42 (rL ?_)
     refine uG (vI ((i + 1 : Nat) : Int)) rfl (ex_add rfl rfl rfl (by rw [i64_in (by omega)]; omega)) (uM rfl ?_)
     refine uZ (then_normal ?_)
     simp only [vP, vI, vS, vN]
     go_roundw
     case rel => exact ⟨i + 1, n1 + 1, G, rfl, rfl, by omega, by omega, (hBD.trans hG), (hv.kp [1, 4, 4, 4] 4 1)⟩
     case measure => show args.length - (((i + 1 : Nat) : Int)).toNat < args.length - ((i : Int)).toNat; omega
    refine uM rfl (uE rfl ?_)
    refine uE rfl ?_
    refine sl_alloc tV (wn rfl) rfl hv kPal50 (fun b50 w51 hv => ?_)
    simp only [zP, po]
    refine xS 0 rfl hv x0sz50 rfl (by exact ⟨rfl, rfl, rfl, rfl, rfl, hyv.p.one, hyv.t.one, hyv.z.one, trivial⟩) (fun w52 hv => ?_)
    simp only [zO, sp] at hv
    refine uA rfl (uW k44 ?_)
    refine sK fun _ k53 => rL (uM rfl ?_)
    refine uW k53 (cF rfl ?_)
    refine kS (bN ?_)
    refine tK k42 (rL ?_)
    refine uG (vI ((i + 1 : Nat) : Int)) rfl (ex_add rfl rfl rfl (by rw [i64_in (by omega)]; omega)) (uM rfl ?_)
    refine uZ (then_normal ?_)
    simp only [vP, vI, vS, vN]
    go_roundw
    case rel => exact ⟨i + 1, n1, G, rfl, rfl, by omega, by omega, (hBD.trans hG), (hv.kp [1, 4, 4, 4] 4 1)⟩
    case measure => show args.length - (((i + 1 : Nat) : Int)).toNat < args.length - ((i : Int)).toNat; omega
   refine uG (.bool false) rfl (ex_lss rfl rfl rfl (qF hb40)) (uW k39 ?_)
   refine sK fun _ k54 => cF rfl (xE ?_)
   refine tX (tX ?_)
   refine bH (tK k36 ?_)
   refine sK fun _ k55 => rL (uM rfl ?_)
   refine xC k6callable54 rfl ((respInt D _ _ (n1 : Int) hv).mono ?_) rfl
   rintro e w56 ⟨rfl, hv⟩
   refine ⟨_, rfl, ?_⟩
   simp only [zP, po]
   refine xS 0 rfl hv rssz34 rfl (by exact ⟨rfl, rfl, rfl, rfl, trivial⟩) (fun w57 hv => ?_)
   simp only [zO, sp] at hv
   refine uW k55 (rR ?_)
   refine bZ (tR ?_)
   refine bC 0 rswd34 hv rfl rfl rfl rfl (⟨D, es, M, (.mk 2 ([] : List UInt8) (n1 : Int) []), _, hBD, rfl, rpAt_leaf, hM.more hBD, ⟨hO, fun _ => rfl⟩, fun h9 => by rw [hb34] at h9; exact absurd h9 (by decide), (hv.kp [3, 3] 2 2)⟩)
 refine uG (.bool false) rfl (ex_seql rfl rfl rfl (qF hb34)) (uA rfl ?_)
 refine uW k33 (cF rfl ?_)
 refine sK fun _ k58 => sK fun _ k59 => rL ?_
 by_cases hb60 : name = ([69, 88, 80, 73, 82, 69] : List UInt8)
 ·refine uG (.bool true) rfl (ex_seql rfl rfl rfl (qT hb60)) (uA rfl ?_)
  refine uW k59 (cT rfl ?_)
  refine kS (tK k58 ?_)
  refine cT rfl (sK fun _ k61 => ?_)
  have hal2 : 2 ≤ args.length := hc2 (.inr (.inl hb60))
  obtain ⟨k, hk⟩ : ∃ k, args[0]? = some k := ⟨_, List.getElem?_eq_getElem (show 0 < args.length by omega)⟩
  obtain ⟨l, hl⟩ : ∃ k, args[1]? = some k := ⟨_, List.getElem?_eq_getElem (show 1 < args.length by omega)⟩
  have hdn : (args.drop 2).length = args.length - 2 := List.length_drop
  obtain ⟨a3, c3, ha3, ok3, hr3⟩ := sliced_fromV 1 hoka hra (textCells_len args) (show 2 ≤ args.length by omega) (by decide)
  rw [Nat.mul_one, tx_drop] at hr3
  rw [← hdn] at ok3
  obtain ⟨ab, ao, had, hrdk⟩ := text_reads hra hk
  obtain ⟨ab9, ao9, had9, hrdl⟩ := text_reads hra hl
  subst had
  cases had9
  refine rW mixed [11, 12] [0,1,2,3,4,5,6,7,8,9,10,11,12] 178 rfl (by kernel_rfl) hv ?_
  simp only [qm, opAt]
  refine dL (.agg #[vP v, .slice (some ⟨ab, ao, none⟩) args.length ac]) rfl (fun hv => ex_load rfl rfl (lM 1 k6wd80 hv rfl rfl rfl rfl)) (dM (vS name) rfl ?_)
  refine dG (.bool true) rfl (ex_seql rfl rfl rfl (qT hb60)) ?_
  simp only [zP, po]
  refine dM (.slice (some ⟨ab, ao, none⟩) args.length ac) rfl (dG (.pointer (some ⟨ab, ao + 0, none⟩)) rfl (ex_index rfl rfl rfl (run_idx1 (k := 0) Tryz.underlying26 s9es26 (by omega))) ?_)
  refine dL _ rfl (fun hv => ex_load rfl rfl (run_load1 s9na9 (hrdk _ _ _ (Base.Le.refl _) no_res hv 0 _ rfl))) ?_
  simp only [zP, po]
  refine dM (.slice (some ⟨ab, ao, none⟩) args.length ac) rfl (dG (.pointer (some ⟨ab, ao + 1, none⟩)) rfl (ex_index rfl rfl rfl (run_idx1 (k := 1) Tryz.underlying26 s9es26 (by omega))) ?_)
  refine dL _ rfl (fun hv => ex_load rfl rfl (run_load1 s9na9 (hrdl _ _ _ (Base.Le.refl _) no_res hv 0 _ rfl))) ?_
  simp only [zP, po]
  refine dM (.slice (some ⟨ab, ao, none⟩) args.length ac) rfl (dG (.slice a3 ((args.drop 2).length) c3) rfl (ex_slice (lo' := some (vI ((2 : Nat) : Int))) rfl rfl (congrArg some rfl) rfl rfl ((run_fromAny Tryz.underlying26 s9es26 (by omega)).trans (by rw [ha3, hdn]))) ?_)
  refine dS rfl fun w62 hv => ?_
  replace hv := hv.front 3 rfl
  simp only [eS, eZ] at hv
  replace hv := hv.front 3 rfl
  simp only [eS, eZ] at hv
  refine mC kPcallable57 rfl ((ckExpire B _ _ v t m s p wb va vc sv clk es M hM hO (some ⟨ab, ao, none⟩) args.length ac true k l a3 c3 (args.drop 2) hr3 (by omega) (fun x hx => hxl x (List.mem_of_mem_drop hx)) hN h0c h1c hv).mono ?_) rfl
  rintro e w63 ⟨D, es1, M1, r1, cs, hD, rfl, hrp, hM1, hrel, hv⟩
  have hcmd : CmdR M M1 r1 := hrel
  obtain ⟨rk, rs, rn, rv, rfl⟩ := rp_parts hrp
  refine ⟨_, rfl, dW hv ?_⟩
  simp only [zP, po]
  refine dS rfl fun w64 hv => mS 2 rfl hv rssz34 rfl (by exact ⟨rfl, rfl, rfl, hrp.lv.2, trivial⟩) (fun w65 hv => ?_)
  simp only [zS, zO, sp] at hv
  refine dW hv (dE fun w66 hv => ?_)
  simp only [zP, po]
  refine tK k61 (rR ?_)
  refine bZ (tR ?_)
  refine bC 2 rswd34 hv rfl rfl rfl rfl (⟨D, es1, M1, r1, _, hD, rfl, hrp, hM1, hcmd, fun h9 => by rw [hb60] at h9; exact absurd h9 (by decide), (hv.kp [1, 1] 2 2)⟩)
 refine uG (.bool false) rfl (ex_seql rfl rfl rfl (qF hb60)) (uA rfl ?_)
 refine uW k59 (cF rfl ?_)
 refine rL ?_
 by_cases hb67 : name = ([69, 88, 80, 73, 82, 69, 65, 84] : List UInt8)
 ·refine uG (.bool true) rfl (ex_seql rfl rfl rfl (qT hb67)) (uA rfl ?_)
  refine uW k58 (cT rfl ?_)
  refine sK fun _ k68 => ?_
  have hal2 : 2 ≤ args.length := hc2 (.inr (.inr (.inl hb67)))
  obtain ⟨k, hk⟩ : ∃ k, args[0]? = some k := ⟨_, List.getElem?_eq_getElem (show 0 < args.length by omega)⟩
  obtain ⟨l, hl⟩ : ∃ k, args[1]? = some k := ⟨_, List.getElem?_eq_getElem (show 1 < args.length by omega)⟩
  have hdn : (args.drop 2).length = args.length - 2 := List.length_drop
  obtain ⟨a3, c3, ha3, ok3, hr3⟩ := sliced_fromV 1 hoka hra (textCells_len args) (show 2 ≤ args.length by omega) (by decide)
  rw [Nat.mul_one, tx_drop] at hr3
  rw [← hdn] at ok3
  obtain ⟨ab, ao, had, hrdk⟩ := text_reads hra hk
  obtain ⟨ab9, ao9, had9, hrdl⟩ := text_reads hra hl
  subst had
  cases had9
  refine rW mixed [11, 12] [0,1,2,3,4,5,6,7,8,9,10,11,12] 178 rfl (by kernel_rfl) hv ?_
  simp only [qm, opAt]
  refine dL (.agg #[vP v, .slice (some ⟨ab, ao, none⟩) args.length ac]) rfl (fun hv => ex_load rfl rfl (lM 1 k6wd80 hv rfl rfl rfl rfl)) (dM (vS name) rfl ?_)
  refine dG (.bool false) rfl (ex_seql rfl rfl rfl (qF hb60)) ?_
  simp only [zP, po]
  refine dM (.slice (some ⟨ab, ao, none⟩) args.length ac) rfl (dG (.pointer (some ⟨ab, ao + 0, none⟩)) rfl (ex_index rfl rfl rfl (run_idx1 (k := 0) Tryz.underlying26 s9es26 (by omega))) ?_)
  refine dL _ rfl (fun hv => ex_load rfl rfl (run_load1 s9na9 (hrdk _ _ _ (Base.Le.refl _) no_res hv 0 _ rfl))) ?_
  simp only [zP, po]
  refine dM (.slice (some ⟨ab, ao, none⟩) args.length ac) rfl (dG (.pointer (some ⟨ab, ao + 1, none⟩)) rfl (ex_index rfl rfl rfl (run_idx1 (k := 1) Tryz.underlying26 s9es26 (by omega))) ?_)
  refine dL _ rfl (fun hv => ex_load rfl rfl (run_load1 s9na9 (hrdl _ _ _ (Base.Le.refl _) no_res hv 0 _ rfl))) ?_
  simp only [zP, po]
  refine dM (.slice (some ⟨ab, ao, none⟩) args.length ac) rfl (dG (.slice a3 ((args.drop 2).length) c3) rfl (ex_slice (lo' := some (vI ((2 : Nat) : Int))) rfl rfl (congrArg some rfl) rfl rfl ((run_fromAny Tryz.underlying26 s9es26 (by omega)).trans (by rw [ha3, hdn]))) ?_)
  refine dS rfl fun w69 hv => ?_
  replace hv := hv.front 3 rfl
  simp only [eS, eZ] at hv
  replace hv := hv.front 3 rfl
  simp only [eS, eZ] at hv
  refine mC kPcallable57 rfl ((ckExpire B _ _ v t m s p wb va vc sv clk es M hM hO (some ⟨ab, ao, none⟩) args.length ac false k l a3 c3 (args.drop 2) hr3 (by omega) (fun x hx => hxl x (List.mem_of_mem_drop hx)) hN h0c h1c hv).mono ?_) rfl
  rintro e w70 ⟨D, es1, M1, r1, cs, hD, rfl, hrp, hM1, hrel, hv⟩
  have hcmd : CmdR M M1 r1 := hrel
  obtain ⟨rk, rs, rn, rv, rfl⟩ := rp_parts hrp
  refine ⟨_, rfl, dW hv ?_⟩
  simp only [zP, po]
  refine dS rfl fun w71 hv => mS 2 rfl hv rssz34 rfl (by exact ⟨rfl, rfl, rfl, hrp.lv.2, trivial⟩) (fun w72 hv => ?_)
  simp only [zS, zO, sp] at hv
  refine dW hv (dE fun w73 hv => ?_)
  simp only [zP, po]
  refine tK k68 (rR ?_)
  refine bZ (tR ?_)
  refine bC 2 rswd34 hv rfl rfl rfl rfl (⟨D, es1, M1, r1, _, hD, rfl, hrp, hM1, hcmd, fun h9 => by rw [hb67] at h9; exact absurd h9 (by decide), (hv.kp [1, 1] 2 2)⟩)
 refine uG (.bool false) rfl (ex_seql rfl rfl rfl (qF hb67)) (uA rfl ?_)
 refine uW k58 (cF rfl ?_)
 refine sK fun _ k74 => rL ?_
 by_cases hb75 : name = ([70, 76, 85, 83, 72, 65, 76, 76] : List UInt8)
 ·refine uG (.bool true) rfl (ex_seql rfl rfl rfl (qT hb75)) (uA rfl ?_)
  refine uW k74 (cT rfl ?_)
  refine sK fun _ k76 => rW mixed [6, 7] [0,1,2,3,4,5,6,7,8,9,10,11,12] 178 rfl (by kernel_rfl) hv ?_
  simp only [qm, opAt]
  refine dF (.agg #[vP v, .slice aa args.length ac]) rfl (fun hv => ex_load rfl rfl (lM 1 k6wd80 hv rfl rfl rfl rfl)) fun f77 hf77 => dG (vP b2) rfl (ex_field rfl rfl (k1fa80_0 _ _ _)) (dL _ rfl (fun hv => ex_load rfl rfl (run_load1 k1na24 (hv.load 1 0 rfl rfl))) ?_)
  simp only [zP, po]
  refine dG (vP v) rfl (ex_nil rfl rfl) (dG (vP v) rfl (ex_field rfl rfl (v1fa56_0 _ _ _)) ?_)
  refine dL _ rfl (fun hv => ex_load rfl rfl (run_load1 v1na54 (hv.load 2 0 rfl rfl))) ?_
  simp only [zP, po]
  refine dS rfl fun w78 hv => ?_
  replace hv := hv.front 3 rfl
  simp only [eS, eZ] at hv
  refine stepMem_callI k1callable216 rfl rfl rfl (r := vP t) (fun w => by kernel_rfl) (args := #[]) (by simp only [List.map_toArray, List.map_nil]) ((txnNamesC B _ _ t m s p wb va vc sv clk es M (hM.more (Base.Le.refl _)) hkl (by omega) hv).mono ?_)
  rintro e w79 ⟨C, na, nc, hC, rfl, hnr, hokn, hv⟩
  have hnl := namesT_le M clk
  refine ⟨_, rfl, dV hv (fC (fun ww hv => hf77 ww ?_) fN) ?_⟩
  ·exact ex_load rfl rfl (lM 2 k6wd80 hv rfl rfl rfl rfl)
  refine dS rfl fun w80 hv => ?_
  replace hv := hv.front 3 rfl
  simp only [eS, eZ] at hv
  refine mC kPcallable55 rfl ((ckDrop C _ _ v t m s p wb va vc sv clk es M (hM.more hC) aa args.length ac na nc (namesT M clk) hnr (by omega) hv).mono ?_) rfl
  rintro e w81 ⟨D, es1, M1, e1, hD, rfl, hM1, hdl, hv⟩
  refine ⟨_, rfl, dV hv (fK rfl fN) ?_⟩
  refine dM (.tuple #[vI ((dropK M clk (namesT M clk)).length : Int), vI e1]) rfl ?_
  simp only [zP, po]
  refine dG (vI ((dropK M clk (namesT M clk)).length : Int)) rfl (ex_extract rfl rfl rfl) (dG (vI e1) rfl (ex_extract rfl rfl rfl) ?_)
  refine dA (vI ((dropK M clk (namesT M clk)).length : Int)) rfl ?_
  simp only [zP, po]
  refine dA (vI e1) rfl (dE fun w82 hv => ?_)
  simp only [zP, po]
  refine tK k76 (sK fun _ k83 => ?_)
  refine rL (uM rfl ?_)
  refine xC k6callable58 rfl ((respText D _ _ ([79, 75] : List UInt8) hv).mono ?_) rfl
  rintro e w84 ⟨rfl, hv⟩
  refine ⟨_, rfl, ?_⟩
  simp only [zP, po]
  refine xC k6callable56 rfl ((viewDone D _ _ e1 0 0 ([79, 75] : List UInt8) (vN) rfl rfl hv).mono ?_) rfl
  rintro e w85 ⟨xr, hxr, rfl, hv⟩
  refine ⟨_, rfl, ?_⟩
  rcases hxr with ⟨hec0, rfl⟩ | ⟨hec0, s86, rfl⟩
  ·simp only [zP, po]
   refine xS 2 rfl hv rssz34 rfl (by exact ⟨rfl, rfl, rfl, rfl, trivial⟩) (fun w87 hv => ?_)
   simp only [zS, zO, sp] at hv
   refine uW k83 (rR ?_)
   refine bZ (tR ?_)
   refine bC 2 rswd34 hv rfl rfl rfl rfl (⟨D, es1, M1, (.mk 0 ([79, 75] : List UInt8) 0 []), _, (hC.trans hD), rfl, rpAt_leaf, hM1.more (Base.Le.refl _), drop_cmd hO hdl (r0 := rText [79, 75]) (.inl ⟨by omega, rfl⟩) isF_text, fun h9 => by rw [hb75] at h9; exact absurd h9 (by decide), (hv.kp [1, 1] 2 2)⟩)
  simp only [zP, po]
  refine xS 2 rfl hv rssz34 rfl (by exact ⟨rfl, rfl, rfl, rfl, trivial⟩) (fun w88 hv => ?_)
  simp only [zS, zO, sp] at hv
  refine uW k83 (rR ?_)
  refine bZ (tR ?_)
  refine bC 2 rswd34 hv rfl rfl rfl rfl (⟨D, es1, M1, (.mk 1 s86 0 []), _, (hC.trans hD), rfl, rpAt_leaf, hM1.more (Base.Le.refl _), drop_cmd hO hdl (r0 := rText [79, 75]) (.inr ⟨by omega, rfl⟩) isF_text, fun h9 => by rw [hb75] at h9; exact absurd h9 (by decide), (hv.kp [1, 1] 2 2)⟩)
 refine uG (.bool false) rfl (ex_seql rfl rfl rfl (qF hb75)) (uA rfl ?_)
 refine uW k74 (cF rfl ?_)
 refine sK fun _ k89 => rL ?_
 by_cases hb90 : name = ([75, 69, 89, 83] : List UInt8)
 ·refine uG (.bool true) rfl (ex_seql rfl rfl rfl (qT hb90)) (uA rfl ?_)
  refine uW k89 (cT rfl ?_)
  refine sK fun _ k91 => ?_
  have hal1 : 1 ≤ args.length := hc1 (fun h9 => by rw [hb90] at h9; exact absurd h9 (by decide)) (fun h9 => by rw [hb90] at h9; exact absurd h9 (by decide))
  obtain ⟨k, hk⟩ : ∃ k, args[0]? = some k := ⟨_, List.getElem?_eq_getElem (show 0 < args.length by omega)⟩
  obtain ⟨ab, ao, had, hrdk⟩ := text_reads hra hk
  subst had
  refine rW mixed [4, 5, 6] [0,1,2,3,4,5,6] 178 rfl (by kernel_rfl) hv ?_
  simp only [qm, opAt]
  refine dL (.agg #[vP v, .slice (some ⟨ab, ao, none⟩) args.length ac]) rfl (fun hv => ex_load rfl rfl (lM 1 k6wd80 hv rfl rfl rfl rfl)) (dM (.slice (some ⟨ab, ao, none⟩) args.length ac) rfl ?_)
  refine dG (.pointer (some ⟨ab, ao + 0, none⟩)) rfl (ex_index rfl rfl rfl (run_idx1 (k := 0) Tryz.underlying26 s9es26 (by omega))) ?_
  simp only [zP, po]
  refine dL _ rfl (fun hv => ex_load rfl rfl (run_load1 s9na9 (hrdk _ _ _ (Base.Le.refl _) no_res hv 0 _ rfl))) (dS rfl fun w92 hv => ?_)
  replace hv := hv.front 3 rfl
  simp only [eS, eZ] at hv
  replace hv := hv.front 3 rfl
  simp only [eS, eZ] at hv
  refine mC kPcallable60 rfl ((ckMatching B _ _ v t m s p wb va vc sv clk es M hM (some ⟨ab, ao, none⟩) args.length ac k hkl hMl (hsm.imp (fun h9 => h9 k (List.mem_of_getElem? hk)) id) hv).mono ?_) rfl
  rintro e w93 ⟨D, fa, fc, ft, hD, rfl, hfl, hokf, hrf, hv⟩
  refine ⟨_, rfl, dW hv ?_⟩
  refine dS rfl fun w94 hv => mC k1callable59 rfl ((respStrsR D _ _ fa fc ft (hrf.more (Base.Le.refl _) (fun _ h => h)) (hfl) hv).mono ?_) rfl
  rintro e w99 ⟨D95, da96, dc97, hD95, rfl, hrp98o, hrp98, hv⟩
  refine ⟨_, rfl, dW hv ?_⟩
  simp only [zP, po]
  refine dS rfl fun w100 hv => mS 2 rfl hv rssz34 rfl (by exact ⟨rfl, rfl, rfl, rfl, trivial⟩) (fun w101 hv => ?_)
  simp only [zS, zO, sp] at hv
  refine dW hv (dE fun w102 hv => ?_)
  simp only [zP, po]
  refine tK k91 (rR ?_)
  refine bZ (tR ?_)
  refine bC 2 rswd34 hv rfl rfl rfl rfl (⟨D95, es, M, (rStrs ft), _, (hD.trans hD95), rfl, (rpAt_strs hrp98o (hrp98.more (Base.Le.refl _) (fun _ h => h))), hM.more (hD.trans hD95), ⟨hO, fun _ => rfl⟩, fun h9 => by rw [hb90] at h9; exact absurd h9 (by decide), (hv.kp [1, 1] 2 2)⟩)
 refine uG (.bool false) rfl (ex_seql rfl rfl rfl (qF hb90)) (uA rfl ?_)
 refine uW k89 (cF rfl ?_)
 refine sK fun _ k103 => rL ?_
 by_cases hb104 : name = ([82, 69, 78, 65, 77, 69] : List UInt8)
 ·refine uG (.bool true) rfl (ex_seql rfl rfl rfl (qT hb104)) (uA rfl ?_)
  refine uW k103 (cT rfl ?_)
  refine sK fun _ k105 => ?_
  have hal2 : 2 ≤ args.length := hc2 (.inr (.inr (.inr (.inl hb104))))
  obtain ⟨k, hk⟩ : ∃ k, args[0]? = some k := ⟨_, List.getElem?_eq_getElem (show 0 < args.length by omega)⟩
  obtain ⟨l, hl⟩ : ∃ k, args[1]? = some k := ⟨_, List.getElem?_eq_getElem (show 1 < args.length by omega)⟩
  obtain ⟨ab, ao, had, hrdk⟩ := text_reads hra hk
  obtain ⟨ab9, ao9, had9, hrdl⟩ := text_reads hra hl
  subst had
  cases had9
  refine rW mixed [7, 8] [0,1,2,3,4,5,6,7,8] 178 rfl (by kernel_rfl) hv ?_
  simp only [qm, opAt]
  refine dL (.agg #[vP v, .slice (some ⟨ab, ao, none⟩) args.length ac]) rfl (fun hv => ex_load rfl rfl (lM 1 k6wd80 hv rfl rfl rfl rfl)) (dM (.slice (some ⟨ab, ao, none⟩) args.length ac) rfl ?_)
  refine dG (.pointer (some ⟨ab, ao + 0, none⟩)) rfl (ex_index rfl rfl rfl (run_idx1 (k := 0) Tryz.underlying26 s9es26 (by omega))) ?_
  simp only [zP, po]
  refine dL _ rfl (fun hv => ex_load rfl rfl (run_load1 s9na9 (hrdk _ _ _ (Base.Le.refl _) no_res hv 0 _ rfl))) (dM (.slice (some ⟨ab, ao, none⟩) args.length ac) rfl ?_)
  refine dG (.pointer (some ⟨ab, ao + 1, none⟩)) rfl (ex_index rfl rfl rfl (run_idx1 (k := 1) Tryz.underlying26 s9es26 (by omega))) ?_
  simp only [zP, po]
  refine dL _ rfl (fun hv => ex_load rfl rfl (run_load1 s9na9 (hrdl _ _ _ (Base.Le.refl _) no_res hv 0 _ rfl))) (dS rfl fun w106 hv => ?_)
  replace hv := hv.front 3 rfl
  simp only [eS, eZ] at hv
  replace hv := hv.front 3 rfl
  simp only [eS, eZ] at hv
  refine mC k6callable61 rfl ((ckRename B _ _ v t m s p wb va vc sv clk es M hM (some ⟨ab, ao, none⟩) args.length ac k l hv).mono ?_) rfl
  rintro e w107 ⟨D, es1, M1, r1, cs, hD, rfl, hrp, hM1, hrel, hv⟩
  have hcmd : CmdR M M1 r1 := hrel.cmd hO
  obtain ⟨rk, rs, rn, rv, rfl⟩ := rp_parts hrp
  refine ⟨_, rfl, dW hv ?_⟩
  refine dS rfl fun w108 hv => mS 2 rfl hv rssz34 rfl (by exact ⟨rfl, rfl, rfl, hrp.lv.2, trivial⟩) (fun w109 hv => ?_)
  simp only [zS, zO, sp] at hv
  refine dW hv (dE fun w110 hv => ?_)
  simp only [zP, po]
  refine tK k105 (rR ?_)
  refine bZ (tR ?_)
  refine bC 2 rswd34 hv rfl rfl rfl rfl (⟨D, es1, M1, r1, _, hD, rfl, hrp, hM1, hcmd, fun h9 => by rw [hb104] at h9; exact absurd h9 (by decide), (hv.kp [1, 1] 2 2)⟩)
 refine uG (.bool false) rfl (ex_seql rfl rfl rfl (qF hb104)) (uA rfl ?_)
 refine uW k103 (cF rfl ?_)
 refine sK fun _ k111 => rL ?_
 by_cases hb112 : name = ([82, 69, 78, 65, 77, 69, 78, 88] : List UInt8)
 ·refine uG (.bool true) rfl (ex_seql rfl rfl rfl (qT hb112)) (uA rfl ?_)
  refine uW k111 (cT rfl ?_)
  refine sK fun _ k113 => ?_
  have hal2 : 2 ≤ args.length := hc2 (.inr (.inr (.inr (.inr hb112))))
  obtain ⟨k, hk⟩ : ∃ k, args[0]? = some k := ⟨_, List.getElem?_eq_getElem (show 0 < args.length by omega)⟩
  obtain ⟨l, hl⟩ : ∃ k, args[1]? = some k := ⟨_, List.getElem?_eq_getElem (show 1 < args.length by omega)⟩
  obtain ⟨ab, ao, had, hrdk⟩ := text_reads hra hk
  obtain ⟨ab9, ao9, had9, hrdl⟩ := text_reads hra hl
  subst had
  cases had9
  refine rW mixed [7, 8] [0,1,2,3,4,5,6,7,8] 178 rfl (by kernel_rfl) hv ?_
  simp only [qm, opAt]
  refine dL (.agg #[vP v, .slice (some ⟨ab, ao, none⟩) args.length ac]) rfl (fun hv => ex_load rfl rfl (lM 1 k6wd80 hv rfl rfl rfl rfl)) (dM (.slice (some ⟨ab, ao, none⟩) args.length ac) rfl ?_)
  refine dG (.pointer (some ⟨ab, ao + 0, none⟩)) rfl (ex_index rfl rfl rfl (run_idx1 (k := 0) Tryz.underlying26 s9es26 (by omega))) ?_
  simp only [zP, po]
  refine dL _ rfl (fun hv => ex_load rfl rfl (run_load1 s9na9 (hrdk _ _ _ (Base.Le.refl _) no_res hv 0 _ rfl))) (dM (.slice (some ⟨ab, ao, none⟩) args.length ac) rfl ?_)
  refine dG (.pointer (some ⟨ab, ao + 1, none⟩)) rfl (ex_index rfl rfl rfl (run_idx1 (k := 1) Tryz.underlying26 s9es26 (by omega))) ?_
  simp only [zP, po]
  refine dL _ rfl (fun hv => ex_load rfl rfl (run_load1 s9na9 (hrdl _ _ _ (Base.Le.refl _) no_res hv 0 _ rfl))) (dS rfl fun w114 hv => ?_)
  replace hv := hv.front 3 rfl
  simp only [eS, eZ] at hv
  replace hv := hv.front 3 rfl
  simp only [eS, eZ] at hv
  refine mC kPcallable62 rfl ((ckRenamenx B _ _ v t m s p wb va vc sv clk es M hM (some ⟨ab, ao, none⟩) args.length ac k l hv).mono ?_) rfl
  rintro e w115 ⟨D, es1, M1, r1, cs, hD, rfl, hrp, hM1, hrel, hv⟩
  have hcmd : CmdR M M1 r1 := hrel.cmd hO
  obtain ⟨rk, rs, rn, rv, rfl⟩ := rp_parts hrp
  refine ⟨_, rfl, dW hv ?_⟩
  refine dS rfl fun w116 hv => mS 2 rfl hv rssz34 rfl (by exact ⟨rfl, rfl, rfl, hrp.lv.2, trivial⟩) (fun w117 hv => ?_)
  simp only [zS, zO, sp] at hv
  refine dW hv (dE fun w118 hv => ?_)
  simp only [zP, po]
  refine tK k113 (rR ?_)
  refine bZ (tR ?_)
  refine bC 2 rswd34 hv rfl rfl rfl rfl (⟨D, es1, M1, r1, _, hD, rfl, hrp, hM1, hcmd, fun h9 => by rw [hb112] at h9; exact absurd h9 (by decide), (hv.kp [1, 1] 2 2)⟩)
 refine uG (.bool false) rfl (ex_seql rfl rfl rfl (qF hb112)) (uA rfl ?_)
 refine uW k111 (cF rfl ?_)
 refine sK fun _ k119 => rL ?_
 by_cases hb120 : name = ([83, 67, 65, 78] : List UInt8)
 ·refine uG (.bool true) rfl (ex_seql rfl rfl rfl (qT hb120)) (uA rfl ?_)
  refine uW k119 (cT rfl ?_)
  refine sK fun _ k121 => rL (uL (.agg #[vP v, .slice aa args.length ac]) rfl (lM 1 k6wd80 hv rfl rfl rfl rfl) ?_)
  refine uM rfl ?_
  replace hv := hv.front 3 rfl
  simp only [eS, eZ] at hv
  replace hv := hv.front 3 rfl
  simp only [eS, eZ] at hv
  refine xC kPcallable63 rfl ((ckScan B _ _ v t m s p wb va vc sv clk es M hM aa args.length ac aa ac args hoka hra (by omega) hkl hMl hxl hsm hN hv).mono ?_) rfl
  rintro e w122 ⟨D, r1, cs, hD, rfl, hrp, hscr, hv⟩
  refine ⟨_, rfl, ?_⟩
  obtain ⟨rk, rs, rn, rv, rfl⟩ := rp_parts hrp
  simp only [zP, po]
  refine xS 2 rfl hv rssz34 rfl (by exact ⟨rfl, rfl, rfl, hrp.lv.2, trivial⟩) (fun w123 hv => ?_)
  simp only [zS, zO, sp] at hv
  refine uW k121 (rR ?_)
  refine bZ (tR ?_)
  refine bC 2 rswd34 hv rfl rfl rfl rfl (⟨D, es, M, r1, _, hD, rfl, hrp, hM.more hD, ⟨hO, fun _ => rfl⟩, fun _ => ⟨rfl, hscr⟩, (hv.kp [1, 1] 2 2)⟩)
 refine uG (.bool false) rfl (ex_seql rfl rfl rfl (qF hb120)) (uA rfl ?_)
 refine uW k119 (cF rfl ?_)
 refine sK fun _ k124 => rL ?_
 by_cases hb125 : name = ([83, 79, 82, 84] : List UInt8)
 ·refine uG (.bool true) rfl (ex_seql rfl rfl rfl (qT hb125)) (uA rfl ?_)
  refine uW k124 (cT rfl ?_)
  refine sK fun _ k126 => ?_
  have hal1 : 1 ≤ args.length := hc1 (fun h9 => by rw [hb125] at h9; exact absurd h9 (by decide)) (fun h9 => by rw [hb125] at h9; exact absurd h9 (by decide))
  obtain ⟨k, hk⟩ : ∃ k, args[0]? = some k := ⟨_, List.getElem?_eq_getElem (show 0 < args.length by omega)⟩
  have hdn : (args.drop 1).length = args.length - 1 := List.length_drop
  obtain ⟨a3, c3, ha3, ok3, hr3⟩ := sliced_fromV 1 hoka hra (textCells_len args) (show 1 ≤ args.length by omega) (by decide)
  rw [Nat.mul_one, tx_drop] at hr3
  rw [← hdn] at ok3
  obtain ⟨ab, ao, had, hrdk⟩ := text_reads hra hk
  subst had
  refine rW mixed [6, 7] [0,1,2,3,4,5,6,7] 178 rfl (by kernel_rfl) hv ?_
  simp only [qm, opAt]
  refine dL (.agg #[vP v, .slice (some ⟨ab, ao, none⟩) args.length ac]) rfl (fun hv => ex_load rfl rfl (lM 1 k6wd80 hv rfl rfl rfl rfl)) (dM (.slice (some ⟨ab, ao, none⟩) args.length ac) rfl ?_)
  refine dG (.pointer (some ⟨ab, ao + 0, none⟩)) rfl (ex_index rfl rfl rfl (run_idx1 (k := 0) Tryz.underlying26 s9es26 (by omega))) ?_
  simp only [zP, po]
  refine dL _ rfl (fun hv => ex_load rfl rfl (run_load1 s9na9 (hrdk _ _ _ (Base.Le.refl _) no_res hv 0 _ rfl))) (dM (.slice (some ⟨ab, ao, none⟩) args.length ac) rfl ?_)
  refine dG (.slice a3 ((args.drop 1).length) c3) rfl (ex_slice (lo' := some (vI ((1 : Nat) : Int))) rfl rfl (congrArg some rfl) rfl rfl ((run_fromAny Tryz.underlying26 s9es26 (by omega)).trans (by rw [ha3, hdn]))) ?_
  simp only [zP, po]
  refine dS rfl fun w127 hv => ?_
  replace hv := hv.front 3 rfl
  simp only [eS, eZ] at hv
  replace hv := hv.front 3 rfl
  simp only [eS, eZ] at hv
  refine mC kPcallable64 rfl ((ckSort B _ _ v t m s p wb va vc sv clk es M hM (some ⟨ab, ao, none⟩) args.length ac k a3 c3 (args.drop 1) ok3 hr3 (by omega) (fun x hx => hxl x (List.mem_of_mem_drop hx)) hN (fun s _ => hsrt s.g0) hv).mono ?_) rfl
  rintro e w128 ⟨D, es1, M1, r1, cs, hD, rfl, hrp, hM1, hrel, hv⟩
  have hcmd : CmdR M M1 r1 := hrel.cmd hO
  obtain ⟨rk, rs, rn, rv, rfl⟩ := rp_parts hrp
  refine ⟨_, rfl, dW hv ?_⟩
  refine dS rfl fun w129 hv => mS 2 rfl hv rssz34 rfl (by exact ⟨rfl, rfl, rfl, hrp.lv.2, trivial⟩) (fun w130 hv => ?_)
  simp only [zS, zO, sp] at hv
  refine dW hv (dE fun w131 hv => ?_)
  simp only [zP, po]
  refine tK k126 (rR ?_)
  refine bZ (tR ?_)
  refine bC 2 rswd34 hv rfl rfl rfl rfl (⟨D, es1, M1, r1, _, hD, rfl, hrp, hM1, hcmd, fun h9 => by rw [hb125] at h9; exact absurd h9 (by decide), (hv.kp [1, 1] 2 2)⟩)
 refine uG (.bool false) rfl (ex_seql rfl rfl rfl (qF hb125)) (uA rfl ?_)
 refine uW k124 (cF rfl ?_)
 refine sK fun _ k132 => rL ?_
 by_cases hb133 : name = ([84, 89, 80, 69] : List UInt8)
 ·refine uG (.bool true) rfl (ex_seql rfl rfl rfl (qT hb133)) (uA rfl ?_)
  refine uW k132 (cT rfl ?_)
  refine sK fun _ k134 => ?_
  have hal1 : 1 ≤ args.length := hc1 (fun h9 => by rw [hb133] at h9; exact absurd h9 (by decide)) (fun h9 => by rw [hb133] at h9; exact absurd h9 (by decide))
  obtain ⟨k, hk⟩ : ∃ k, args[0]? = some k := ⟨_, List.getElem?_eq_getElem (show 0 < args.length by omega)⟩
  obtain ⟨ab, ao, had, hrdk⟩ := text_reads hra hk
  subst had
  refine rT mixed (fun az wz => ∃ (G : Base) (y : Ver) (yp yt yz : Value) (ok : Bool) (b141 : Nat), (B.Le G) ∧ (ValAt G y.val yp yt yz) ∧ az = { tmps := List.toArray (.agg #[vP v, .slice (some ⟨ab, ao, none⟩) args.length ac] :: vS name :: vP b2 :: undef :: vP b4 :: .slice (some ⟨ab, ao, none⟩) args.length ac :: undef :: undef :: undef :: undef :: undef :: undef :: undef :: undef :: undef :: vP b141 :: .bool ok :: .pointer (some ⟨b2, 1, none⟩) :: .slice (some ⟨ab, ao, none⟩) args.length ac :: vS name :: .bool false :: .bool false :: undef :: undef :: undef :: undef :: undef :: undef :: undef :: undef :: undef :: undef :: .bool false :: .bool false :: undef :: undef :: undef :: undef :: undef :: undef :: undef :: undef :: .bool false :: .bool false :: undef :: undef :: undef :: undef :: undef :: undef :: undef :: undef :: undef :: undef :: .bool false :: .bool false :: undef :: undef :: undef :: undef :: undef :: undef :: undef :: undef :: undef :: undef :: undef :: undef :: undef :: undef :: undef :: undef :: undef :: undef :: undef :: undef :: undef :: undef :: .bool false :: .bool false :: .bool false :: undef :: undef :: undef :: undef :: undef :: undef :: undef :: undef :: undef :: undef :: undef :: undef :: .bool false :: .bool false :: undef :: undef :: undef :: undef :: undef :: undef :: undef :: undef :: undef :: undef :: undef :: undef :: undef :: undef :: .bool false :: .bool false :: undef :: undef :: undef :: undef :: undef :: undef :: .bool false :: .bool false :: undef :: undef :: undef :: undef :: undef :: undef :: undef :: undef :: .bool false :: .bool false :: undef :: undef :: undef :: undef :: undef :: undef :: undef :: undef :: .bool false :: .bool false :: undef :: undef :: undef :: .bool false :: .bool false :: undef :: undef :: undef :: undef :: undef :: undef :: undef :: .bool true :: .bool true :: .tuple #[.agg #[vI y.stamp, .bool y.gone, vI y.expire, vI y.val.kind, vS y.val.text, yp, yt, yz], .bool ok] :: vP b2 :: vP v :: vP v :: vP v :: .iface 100 (vP t) :: .slice (some ⟨ab, ao, none⟩) args.length ac :: .pointer (some ⟨ab, ao + 0, none⟩) :: vS k :: .iface 100 (vP t) :: .iface 100 (vP t) :: .tuple #[.agg #[vI y.stamp, .bool y.gone, vI y.expire, vI y.val.kind, vS y.val.text, yp, yt, yz], .bool ok] :: .agg #[vI y.stamp, .bool y.gone, vI y.expire, vI y.val.kind, vS y.val.text, yp, yt, yz] :: .bool ok :: undef :: undef :: undef :: undef :: undef :: undef :: undef :: undef :: undef :: undef :: undef :: []), defers := [] } ∧ Inv G (Res.cell b141 [vI y.stamp, .bool y.gone, vI y.expire, vI y.val.kind, vS y.val.text, yp, yt, yz] 50 :: txR t m s p wb va vc sv clk es :: Res.cell b4 [vI 0, vS [], vI 0, vN] 34 :: Res.cell b2 [vP v, .slice (some ⟨ab, ao, none⟩) args.length ac] 80 :: Res.cell v [.iface 100 (vP t)] 56 :: H) wz) [10, 14, 15] [0,1,2,3,4,5,6,7,8,9] [11,12,13,14,15,16] [10,11,12,13,15,16] 10 14 178 rfl (by kernel_rfl) hv ?_ ?_
  ·intro R2 l1 l2 hR2 hl1 hl2
   simp only [qm, opAt]
   refine tG (vP b2) rfl (ex_field rfl rfl (k1fa80_0 _ _ _)) (tF (vP v) rfl (fun hv => ex_load rfl rfl (run_load1 k1na24 (hv.load 1 0 rfl rfl))) fun f135 hf135 => ?_)
   simp only [zP, po]
   refine tG (vP v) rfl (ex_nil rfl rfl) (tG (vP v) rfl (ex_field rfl rfl (v1fa56_0 _ _ _)) ?_)
   simp only [zP, po]
   refine tF (.iface 100 (vP t)) rfl (fun hv => ex_load rfl rfl (run_load1 v1na54 (hv.load 2 0 rfl rfl))) fun f136 hf136 => tG (.slice (some ⟨ab, ao, none⟩) args.length ac) rfl (ex_move rfl rfl) ?_
   simp only [zP, po]
   refine tG (.pointer (some ⟨ab, ao + 0, none⟩)) rfl (ex_index rfl rfl rfl (run_idx1 (k := 0) Tryz.underlying26 s9es26 (by omega))) (tF (vS k) rfl (fun hv => ex_load rfl rfl (run_load1 s9na9 (hrdk _ _ _ (Base.Le.refl _) no_res hv 0 _ rfl))) fun f137 hf137 => ?_)
   simp only [zP, po]
   refine tG (.iface 100 (vP t)) rfl (ex_nilI rfl rfl) (tG (.iface 100 (vP t)) rfl (ex_move rfl rfl) ?_)
   simp only [zP, po]
   refine tB ?_ ?_
   ·rw [hl1]; clear hl1 hl2
    simp only [qm, opAt]
    refine dS rfl fun w138 hv => ?_
    replace hv := hv.front 3 rfl
    simp only [eS, eZ] at hv
    refine stepMem_callI v1callable215 rfl rfl rfl (r := vP t) (fun w => by kernel_rfl) (args := #[vS k]) (by simp only [List.map_toArray, List.map_cons, List.map_nil]; rfl) ((txnGet B _ _ t m s p wb va vc sv clk es M k (hM.more (Base.Le.refl _)) hv).mono ?_)
    rintro e w139 ⟨G, y, yp, yt, yz, ok, hG, rfl, hgot, hyv, hv⟩
    refine ⟨_, rfl, dV hv (fK rfl (fK rfl (fK rfl fN))) ?_⟩
    refine dM (.tuple #[.agg #[vI y.stamp, .bool y.gone, vI y.expire, vI y.val.kind, vS y.val.text, yp, yt, yz], .bool ok]) rfl (dG (.agg #[vI y.stamp, .bool y.gone, vI y.expire, vI y.val.kind, vS y.val.text, yp, yt, yz]) rfl (ex_extract rfl rfl rfl) ?_)
    simp only [zP, po]
    refine dG (.bool ok) rfl (ex_extract rfl rfl rfl) (dS rfl fun w140 hv => ?_)
    refine mem_alloc rfl rfl hv kPal50 (fun b141 w142 hv => ?_)
    refine dV hv (fC (fun ww hv => hf137 ww (ex_load rfl rfl (run_load1 s9na9 (hrdk _ _ _ hG no_res hv 0 _ rfl)))) (fC (fun ww hv => hf136 ww (ex_load rfl rfl (run_load1 v1na54 (hv.load 4 0 rfl rfl)))) (fC (fun ww hv => hf135 ww (ex_load rfl rfl (run_load1 k1na24 (hv.load 3 0 rfl rfl)))) fN))) (dS rfl fun w143 hv => ?_)
    refine mS 0 rfl hv x0sz50 rfl (by exact ⟨rfl, rfl, rfl, rfl, rfl, hyv.p.one, hyv.t.one, hyv.z.one, trivial⟩) (fun w144 hv => ?_)
    simp only [zO, sp] at hv
    refine dV hv (fK rfl (fK rfl (fK rfl fN))) ?_
    simp only [zP, po]
    refine dA (.bool ok) rfl (dE fun wz hv => ?_)
    simp only [zP, po]
    exact hR2 _ _ ⟨G, y, yp, yt, yz, ok, b141, hG, hyv, rfl, (((((hv.front 4 rfl).front 4 rfl).front 4 rfl).front 4 rfl).front 4 rfl)⟩
   rw [hl2]; clear hl1 hl2
   simp only [qm, opAt]
   refine dS rfl fun w145 hv => mem_alloc rfl rfl hv kPal50 (fun b146 w147 hv => ?_)
   refine dV hv (fC (fun ww hv => hf137 ww (ex_load rfl rfl (run_load1 s9na9 (hrdk _ _ _ (Base.Le.refl _) no_res hv 0 _ rfl)))) (fC (fun ww hv => hf136 ww (ex_load rfl rfl (run_load1 v1na54 (hv.load 3 0 rfl rfl)))) (fC (fun ww hv => hf135 ww (ex_load rfl rfl (run_load1 k1na24 (hv.load 2 0 rfl rfl)))) fN))) (dS rfl fun w148 hv => ?_)
   replace hv := hv.front 4 rfl
   simp only [eS, eZ] at hv
   refine stepMem_callI v1callable215 rfl rfl rfl (r := vP t) (fun w => by kernel_rfl) (args := #[vS k]) (by simp only [List.map_toArray, List.map_cons, List.map_nil]; rfl) ((txnGet B _ _ t m s p wb va vc sv clk es M k (hM.more (Base.Le.refl _)) hv).mono ?_)
   rintro e w149 ⟨G, y, yp, yt, yz, ok, hG, rfl, hgot, hyv, hv⟩
   refine ⟨_, rfl, dV hv (fK rfl (fK rfl (fK rfl fN))) ?_⟩
   refine dM (.tuple #[.agg #[vI y.stamp, .bool y.gone, vI y.expire, vI y.val.kind, vS y.val.text, yp, yt, yz], .bool ok]) rfl ?_
   simp only [zP, po]
   refine dG (.agg #[vI y.stamp, .bool y.gone, vI y.expire, vI y.val.kind, vS y.val.text, yp, yt, yz]) rfl (ex_extract rfl rfl rfl) (dG (.bool ok) rfl (ex_extract rfl rfl rfl) ?_)
   refine dS rfl fun w150 hv => mS 1 rfl hv x0sz50 rfl (by exact ⟨rfl, rfl, rfl, rfl, rfl, hyv.p.one, hyv.t.one, hyv.z.one, trivial⟩) (fun w151 hv => ?_)
   simp only [zS, zO, sp] at hv
   refine dV hv (fK rfl (fK rfl (fK rfl fN))) ?_
   simp only [zP, po]
   refine dA (.bool ok) rfl (dE fun wz hv => ?_)
   simp only [zP, po]
   exact hR2 _ _ ⟨G, y, yp, yt, yz, ok, b146, hG, hyv, rfl, (((((hv.front 4 rfl).front 4 rfl).front 4 rfl).front 3 rfl).front 4 rfl)⟩
  rintro _ w152 ⟨G, y, yp, yt, yz, ok, b141, hG, hyv, rfl, hv⟩
  refine tK k134 (sK fun _ k153 => ?_)
  refine rL (uF (.pointer (some ⟨b141, 3, none⟩)) rfl (x2fa50_3 _ _ _) ?_)
  refine uF (.pointer (some ⟨b141, 3, none⟩)) rfl (s12fa43_0 _ _ _) ?_
  refine uL _ rfl (run_load1 s2na3 (hv.load 0 3 rfl rfl)) ?_
  refine xC kPcallable65 rfl ((valueName G _ _ y.val.kind hv).mono ?_) rfl
  rintro e w154 ⟨nm, rfl, hv⟩
  refine ⟨_, rfl, ?_⟩
  simp only [zP, po]
  refine xC k6callable58 rfl ((respText G _ _ nm hv).mono ?_) rfl
  rintro e w155 ⟨rfl, hv⟩
  refine ⟨_, rfl, ?_⟩
  simp only [zP, po]
  refine xS 2 rfl hv rssz34 rfl (by exact ⟨rfl, rfl, rfl, rfl, trivial⟩) (fun w156 hv => ?_)
  simp only [zS, zO, sp] at hv
  refine uW k153 (rR ?_)
  refine bZ (tR ?_)
  refine bC 2 rswd34 hv rfl rfl rfl rfl (⟨G, es, M, (.mk 0 nm 0 []), _, hG, rfl, rpAt_leaf, hM.more hG, ⟨hO, fun _ => rfl⟩, fun h9 => by rw [hb133] at h9; exact absurd h9 (by decide), (hv.kp [1, 4] 2 3)⟩)
 refine uG (.bool false) rfl (ex_seql rfl rfl rfl (qF hb133)) (uA rfl ?_)
 refine uW k132 (cF rfl ?_)
 refine kS (bN ?_)
 refine tK k7 (sK fun _ k157 => ?_)
 have hal1 : 1 ≤ args.length := hc1 (fun h9 => absurd h9 hb18) (fun h9 => absurd h9 hb75)
 obtain ⟨k, hk⟩ : ∃ k, args[0]? = some k := ⟨_, List.getElem?_eq_getElem (show 0 < args.length by omega)⟩
 obtain ⟨ab, ao, had, hrdk⟩ := text_reads hra hk
 subst had
 refine rW mixed [5, 6] [0,1,2,3,4,5,6] 178 rfl (by kernel_rfl) hv ?_
 simp only [qm, opAt]
 refine dL (.agg #[vP v, .slice (some ⟨ab, ao, none⟩) args.length ac]) rfl (fun hv => ex_load rfl rfl (lM 1 k6wd80 hv rfl rfl rfl rfl)) (dM (vS name) rfl ?_)
 refine dM (.slice (some ⟨ab, ao, none⟩) args.length ac) rfl ?_
 simp only [zP, po]
 refine dG (.pointer (some ⟨ab, ao + 0, none⟩)) rfl (ex_index rfl rfl rfl (run_idx1 (k := 0) Tryz.underlying26 s9es26 (by omega))) (dL _ rfl (fun hv => ex_load rfl rfl (run_load1 s9na9 (hrdk _ _ _ (Base.Le.refl _) no_res hv 0 _ rfl))) ?_)
 refine dS rfl fun w158 hv => ?_
 replace hv := hv.front 3 rfl
 simp only [eS, eZ] at hv
 replace hv := hv.front 3 rfl
 simp only [eS, eZ] at hv
 refine mC kPcallable66 rfl ((ckTime B _ _ v t m s p wb va vc sv clk es M hM hO (some ⟨ab, ao, none⟩) args.length ac name k hv).mono ?_) rfl
 rintro e w159 ⟨D, es1, M1, r1, cs, hD, rfl, hrp, hM1, hrel, hv⟩
 have hcmd : CmdR M M1 r1 := hrel
 obtain ⟨rk, rs, rn, rv, rfl⟩ := rp_parts hrp
 refine ⟨_, rfl, dW hv ?_⟩
 simp only [zP, po]
 refine dS rfl fun w160 hv => mS 2 rfl hv rssz34 rfl (by exact ⟨rfl, rfl, rfl, hrp.lv.2, trivial⟩) (fun w161 hv => ?_)
 simp only [zS, zO, sp] at hv
 refine dW hv (dE fun w162 hv => ?_)
 simp only [zP, po]
 refine tK k157 (rR ?_)
 refine bC 2 rswd34 hv rfl rfl rfl rfl (⟨D, es1, M1, r1, _, hD, rfl, hrp, hM1, hcmd, fun h9 => absurd h9 hb120, (hv.kp [1, 1] 2 2)⟩)
end Go.Proofs.YtngpmolbphinnaaGreatDoor
