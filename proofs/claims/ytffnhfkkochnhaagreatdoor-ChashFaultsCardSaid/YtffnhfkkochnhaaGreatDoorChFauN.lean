/- chash: rows, Names, Do. -/
import Derived.Test.YtffnhfkkochnhaaGreatDoorChFauC
import Derived.Test.YtffnhfkkochnhaaGreatDoorChFauM
import Derived.Test.YtffnhfkkochnhaaGreatDoorChFauH
import Derived.Test.YtffnhfkkochnhaaGreatDoorChFauB
import Derived.Test.YtffnhfkkochnhaaGreatDoorRows
import Derived.Test.YtffnhfkkochnhaaGreatDoorChFauK
import Derived.Test.YtffnhfkkochnhaaGreatDoorChFauL
import Derived.Test.YtffnhfkkochnhaaGreatDoorChFauF
set_option maxRecDepth 100000
set_option maxHeartbeats 16000000
set_option synthInstance.maxSize 4096
set_option synthInstance.maxHeartbeats 400000
namespace Go.Proofs.YtffnhfkkochnhaaGreatDoor
open Go.RowKit Go.Pm
abbrev GRow := List UInt8 × Int × Int × Int
def gRows : List GRow := [([72, 68, 69, 76], 2, (-1), 1), ([72, 69, 88, 73, 83, 84, 83], 2, 2, 1), ([72, 71, 69, 84], 2, 2, 1), ([72, 71, 69, 84, 65, 76, 76], 1, 1, 1), ([72, 73, 78, 67, 82, 66, 89], 3, 3, 1), ([72, 75, 69, 89, 83], 1, 1, 1), ([72, 76, 69, 78], 1, 1, 1), ([72, 77, 71, 69, 84], 2, (-1), 1), ([72, 83, 67, 65, 78], 2, (-1), 1), ([72, 83, 69, 84], 3, (-1), 2), ([72, 83, 69, 84, 78, 88], 3, 3, 1), ([72, 83, 84, 82, 76, 69, 78], 2, 2, 1), ([72, 86, 65, 76, 83], 1, 1, 1)]
def gNames : List (List UInt8) := gRows.map (·.1)
abbrev gRowF (x : GRow) : List Value := [strV x.1, vI x.2.1, vI x.2.2.1, vI x.2.2.2]
theorem gRow_reads {B : Base} {l : List GRow} {ad : Option Addr} {i : Nat} {x : GRow} (hr : RdV B [] ad (l.flatMap gRowF)) (hx : l[i]? = some x) : ∃ b off, ad = some ⟨b, off, none⟩ ∧ Reads B [] b (off + i * 4) (gRowF x) := rowk_reads (k := 4) (fun _ => rfl) (by decide) hr hx
theorem gRows_len : gRows.length = 13 := rfl
theorem gNames_len : gNames.length = 13 := rfl
theorem gRows_inj : ∀ x ∈ gRows, ∀ y ∈ gRows, x.1 = y.1 → x = y := by decide
theorem gRowsC (B : Base) (H : List Res) (w : World) (hv : Inv B H w) :
  Calls Tryz.prog 25 #[] w fun e w' => ∃ C ra rc, B.Le C ∧ e = .returned (.slice ra gRows.length rc) ∧ RdV C [] ra (gRows.flatMap gRowF) ∧ Inv C H w' := by
 refine cW Tryz.func25 rfl Tryz.ntmps25 ?_
 simp only [al]
 refine sK fun _ k1 => rL (uA rfl ?_)
 refine uW k1 (sK fun _ k2 => ?_)
 refine rL (uG (.agg #[vS [72, 68, 69, 76], vI 2, vI (-1), vI 1]) rfl (ex_buildN (vs := #[(0, vS [72, 68, 69, 76]), (1, vI 2), (2, vI (-1)), (3, vI 1)]) rfl (by simp only [List.map_toArray, List.map_cons, List.map_nil]; rfl) (by kernel_rfl)) ?_)
 refine uG (.agg #[vS [72, 69, 88, 73, 83, 84, 83], vI 2, vI 2, vI 1]) rfl (ex_buildN (vs := #[(0, vS [72, 69, 88, 73, 83, 84, 83]), (1, vI 2), (2, vI 2), (3, vI 1)]) rfl (by simp only [List.map_toArray, List.map_cons, List.map_nil]; rfl) (by kernel_rfl)) ?_
 refine uG (.agg #[vS [72, 71, 69, 84], vI 2, vI 2, vI 1]) rfl (ex_buildN (vs := #[(0, vS [72, 71, 69, 84]), (1, vI 2), (2, vI 2), (3, vI 1)]) rfl (by simp only [List.map_toArray, List.map_cons, List.map_nil]; rfl) (by kernel_rfl)) ?_
 refine uG (.agg #[vS [72, 71, 69, 84, 65, 76, 76], vI 1, vI 1, vI 1]) rfl (ex_buildN (vs := #[(0, vS [72, 71, 69, 84, 65, 76, 76]), (1, vI 1), (2, vI 1), (3, vI 1)]) rfl (by simp only [List.map_toArray, List.map_cons, List.map_nil]; rfl) (by kernel_rfl)) ?_
 refine uG (.agg #[vS [72, 73, 78, 67, 82, 66, 89], vI 3, vI 3, vI 1]) rfl (ex_buildN (vs := #[(0, vS [72, 73, 78, 67, 82, 66, 89]), (1, vI 3), (2, vI 3), (3, vI 1)]) rfl (by simp only [List.map_toArray, List.map_cons, List.map_nil]; rfl) (by kernel_rfl)) ?_
 refine uG (.agg #[vS [72, 75, 69, 89, 83], vI 1, vI 1, vI 1]) rfl (ex_buildN (vs := #[(0, vS [72, 75, 69, 89, 83]), (1, vI 1), (2, vI 1), (3, vI 1)]) rfl (by simp only [List.map_toArray, List.map_cons, List.map_nil]; rfl) (by kernel_rfl)) ?_
 refine uG (.agg #[vS [72, 76, 69, 78], vI 1, vI 1, vI 1]) rfl (ex_buildN (vs := #[(0, vS [72, 76, 69, 78]), (1, vI 1), (2, vI 1), (3, vI 1)]) rfl (by simp only [List.map_toArray, List.map_cons, List.map_nil]; rfl) (by kernel_rfl)) ?_
 refine uG (.agg #[vS [72, 77, 71, 69, 84], vI 2, vI (-1), vI 1]) rfl (ex_buildN (vs := #[(0, vS [72, 77, 71, 69, 84]), (1, vI 2), (2, vI (-1)), (3, vI 1)]) rfl (by simp only [List.map_toArray, List.map_cons, List.map_nil]; rfl) (by kernel_rfl)) ?_
 refine uG (.agg #[vS [72, 83, 67, 65, 78], vI 2, vI (-1), vI 1]) rfl (ex_buildN (vs := #[(0, vS [72, 83, 67, 65, 78]), (1, vI 2), (2, vI (-1)), (3, vI 1)]) rfl (by simp only [List.map_toArray, List.map_cons, List.map_nil]; rfl) (by kernel_rfl)) ?_
 refine uG (.agg #[vS [72, 83, 69, 84], vI 3, vI (-1), vI 2]) rfl (ex_buildN (vs := #[(0, vS [72, 83, 69, 84]), (1, vI 3), (2, vI (-1)), (3, vI 2)]) rfl (by simp only [List.map_toArray, List.map_cons, List.map_nil]; rfl) (by kernel_rfl)) ?_
 refine uG (.agg #[vS [72, 83, 69, 84, 78, 88], vI 3, vI 3, vI 1]) rfl (ex_buildN (vs := #[(0, vS [72, 83, 69, 84, 78, 88]), (1, vI 3), (2, vI 3), (3, vI 1)]) rfl (by simp only [List.map_toArray, List.map_cons, List.map_nil]; rfl) (by kernel_rfl)) ?_
 refine uG (.agg #[vS [72, 83, 84, 82, 76, 69, 78], vI 2, vI 2, vI 1]) rfl (ex_buildN (vs := #[(0, vS [72, 83, 84, 82, 76, 69, 78]), (1, vI 2), (2, vI 2), (3, vI 1)]) rfl (by simp only [List.map_toArray, List.map_cons, List.map_nil]; rfl) (by kernel_rfl)) ?_
 refine uG (.agg #[vS [72, 86, 65, 76, 83], vI 1, vI 1, vI 1]) rfl (ex_buildN (vs := #[(0, vS [72, 86, 65, 76, 83]), (1, vI 1), (2, vI 1), (3, vI 1)]) rfl (by simp only [List.map_toArray, List.map_cons, List.map_nil]; rfl) (by kernel_rfl)) ?_
 refine sl_rowN (pv := #[(0, .agg #[vS [72, 68, 69, 76], vI 2, vI (-1), vI 1]), (1, .agg #[vS [72, 69, 88, 73, 83, 84, 83], vI 2, vI 2, vI 1]), (2, .agg #[vS [72, 71, 69, 84], vI 2, vI 2, vI 1]), (3, .agg #[vS [72, 71, 69, 84, 65, 76, 76], vI 1, vI 1, vI 1]), (4, .agg #[vS [72, 73, 78, 67, 82, 66, 89], vI 3, vI 3, vI 1]), (5, .agg #[vS [72, 75, 69, 89, 83], vI 1, vI 1, vI 1]), (6, .agg #[vS [72, 76, 69, 78], vI 1, vI 1, vI 1]), (7, .agg #[vS [72, 77, 71, 69, 84], vI 2, vI (-1), vI 1]), (8, .agg #[vS [72, 83, 67, 65, 78], vI 2, vI (-1), vI 1]), (9, .agg #[vS [72, 83, 69, 84], vI 3, vI (-1), vI 2]), (10, .agg #[vS [72, 83, 69, 84, 78, 88], vI 3, vI 3, vI 1]), (11, .agg #[vS [72, 83, 84, 82, 76, 69, 78], vI 2, vI 2, vI 1]), (12, .agg #[vS [72, 86, 65, 76, 83], vI 1, vI 1, vI 1])]) (L := [vS [72, 68, 69, 76], vI 2, vI (-1), vI 1, vS [72, 69, 88, 73, 83, 84, 83], vI 2, vI 2, vI 1, vS [72, 71, 69, 84], vI 2, vI 2, vI 1, vS [72, 71, 69, 84, 65, 76, 76], vI 1, vI 1, vI 1, vS [72, 73, 78, 67, 82, 66, 89], vI 3, vI 3, vI 1, vS [72, 75, 69, 89, 83], vI 1, vI 1, vI 1, vS [72, 76, 69, 78], vI 1, vI 1, vI 1, vS [72, 77, 71, 69, 84], vI 2, vI (-1), vI 1, vS [72, 83, 67, 65, 78], vI 2, vI (-1), vI 1, vS [72, 83, 69, 84], vI 3, vI (-1), vI 2, vS [72, 83, 69, 84, 78, 88], vI 3, vI 3, vI 1, vS [72, 83, 84, 82, 76, 69, 78], vI 2, vI 2, vI 1, vS [72, 86, 65, 76, 83], vI 1, vI 1, vI 1]) (e := 72) tV (wn rfl) rfl (by simp only [List.map_toArray, List.map_cons, List.map_nil]; rfl) hv (fun w => by kernel_rfl) (fun b3 w4 hv => ?_)
 refine uA rfl (uW k2 ?_)
 refine rR (bR rfl rfl ?_)
 obtain ⟨C, hC, hv, hr, -, -⟩ := (hv.cellRow (n := 13) (c := 13) (size := 4) rfl (by decide) (by decide)).rowBy
 exact ⟨C, _, _, hC, rfl, hr, hv⟩
theorem hBcallable25 : Callable Tryz.prog 25 := cb Tryz.func25 (by kernel_rfl)
theorem hBmk9 : (Tryz.prog.info? 9).map (fun i => (i.zero, i.size, i.bytes)) = some (some (vS []), 1, 16) := by kernel_rfl
theorem hBel22 : Elem Tryz.prog 22 9 (vS []) 1 16 := elem_of Tryz.underlying22 hBmk9 (by rfl) (by decide)
theorem hBes69 (w : World) : (sizeOf (Tryz.prog.elem 69)).run Tryz.prog w = .ok 4 w := by kernel_rfl
theorem hBwd72 : Wide Tryz.prog 72 4 := wide_of (fun w => by kernel_rfl) (by kernel_rfl)
theorem hBal72 : AL Tryz.prog 72 [vS [], vI 0, vI 0, vI 0] := fun w => by kernel_rfl
theorem hBsz72 : (Tryz.prog.info? 72).map (·.size) = some 4 := by kernel_rfl
theorem hBfa72_0 : FA Tryz.prog 72 0 0 := fun w b o => by kernel_rfl
theorem gNamesC (B : Base) (H : List Res) (w : World) (hv : Inv B H w) :
  Calls Tryz.prog 13 #[] w fun e w' => ∃ C na nc, B.Le C ∧ e = .returned (.slice na gNames.length nc) ∧ RdV C [] na (textCells gNames) ∧ SliceOk na gNames.length nc ∧ Inv C H w' := by
 refine cW Tryz.func13 rfl Tryz.ntmps13 ?_
 simp only [al]
 refine sK fun _ k1 => rL (uA rfl ?_)
 refine uW k1 (sK fun _ k2 => ?_)
 refine rL (xC hBcallable25 rfl ((gRowsC B _ _ hv).mono ?_) rfl)
 rintro e w3 ⟨C, ra, rc, hC, rfl, hrr, hv⟩
 refine ⟨_, rfl, uA rfl ?_⟩
 refine uW k2 (sK fun _ k4 => ?_)
 have hrl := gRows_len
 refine rL (uM rfl ?_)
 refine uG (vI (gRows.length : Int)) rfl (ex_len0 Tryz.underlying69 rfl rfl) ?_
 refine sl_makeRow (cap := gRows.length) tV (wn rfl) rfl rfl rfl hBel22 (by unfold maxLen; omega) (by omega) hv (fun b5 w6 hv => ?_)
 refine uA rfl (uW k4 ?_)
 refine sK fun _ k7 => sK fun _ k8 => rL (uM rfl ?_)
 refine uG (vI (gRows.length : Int)) rfl (ex_len0 Tryz.underlying69 rfl rfl) (uM rfl ?_)
 refine uW k8 (bB ?_)
 gi_loopw [2, 11] (fun x2 x11 wr => ∃ (i : Nat) (na : Option Addr) (nc : Nat), x2 = .slice na i nc ∧ x11 = vI i ∧ i ≤ gRows.length ∧ Inv C (Res.row 9 1 (.slice na i nc) i (textCells (gNames.take i)) :: H) wr) (fun x2 x11 _ => gRows.length - (intOf x11).toNat)
 case atStart => exact ⟨0, _, _, rfl, rfl, Nat.zero_le _, hv⟩
 case round =>
  obtain ⟨i, na, nc, rfl, rfl, hi, hv⟩ := hrel
  refine sK fun _ k10 => rL ?_
  by_cases hb11 : (i : Int) < (gRows.length : Int)
  ·refine uG (.bool true) rfl (ex_lss rfl rfl rfl (qT hb11)) (uW k10 ?_)
   refine sK fun _ k12 => cT rfl (kS ?_)
   refine tK k12 (sK fun _ k13 => ?_)
   refine bB (sK fun _ k14 => ?_)
   have hrl := gRows_len
   obtain ⟨x, hx⟩ : ∃ x, gRows[i]? = some x := ⟨_, List.getElem?_eq_getElem (show i < gRows.length by omega)⟩
   have hxm := List.mem_of_getElem? hx
   obtain ⟨rb, ro, had, hrdx⟩ := gRow_reads hrr hx
   subst had
   refine rL (uG (.pointer (some ⟨rb, ro + i * 4, none⟩)) rfl (ex_index rfl rfl rfl (run_idx (k := i) Tryz.underlying69 hBes69 (by omega))) ?_)
   refine uL (.agg #[vS x.1, vI x.2.1, vI x.2.2.1, vI x.2.2.2]) rfl (run_loadR (cs := [vS x.1, vI x.2.1, vI x.2.2.1, vI x.2.2.2]) hBwd72 (Reads.mid (pre := []) (mid := [vS x.1, vI x.2.1, vI x.2.2.1, vI x.2.2.2]) (post := []) hrdx _ _ _ (Base.Le.refl _) no_res hv)) ?_
   refine sl_alloc tV (wn rfl) rfl hv hBal72 (fun b15 w16 hv => ?_)
   simp only [zP, po]
   refine xS 0 rfl hv hBsz72 rfl (by exact ⟨rfl, rfl, rfl, rfl, trivial⟩) (fun w17 hv => ?_)
   simp only [zO, sp] at hv
   refine uW k14 (rL ?_)
   refine uM rfl ?_
   refine uF (vP b15) rfl (hBfa72_0 _ _ _) ?_
   refine uL _ rfl (run_load1 s9na9 (hv.load 0 0 rfl rfl)) ?_
   refine sl_rowOne (v := vS x.1) tV (wn rfl) rfl rfl hv hBel22 rfl (fun b18 w19 hv => ?_)
   replace hv := hv.front 2 rfl
   simp only [eS, eZ] at hv
   refine sl_append (news := [vS x.1]) tV (wn rfl) rfl rfl rfl hBel22 hv (ok_full (by omega)) rfl (rd_all (hv.get 1 rfl)) (by intro u hu; simp only [List.mem_cons, List.not_mem_nil, or_false] at hu; rcases hu with rfl <;> rfl) (by unfold maxLen; omega) (by omega) (fun rv20 w23 hv => ?_)
   obtain ⟨ra21, rc22, rfl⟩ := row_slice hv.head
   refine uA rfl (uZ ?_)
   refine bN (tK k13 ?_)
   refine rL (uG (vI ((i + 1 : Nat) : Int)) rfl (ex_add rfl rfl rfl (by rw [i64_in (by omega)]; omega)) ?_)
   refine uM rfl (uZ ?_)
   refine then_normal ?_
   go_roundw
   case rel => exact ⟨i + 1, _, _, rfl, rfl, by omega, by rw [take_next (show gNames[i]? = some x.1 by unfold gNames; rw [List.getElem?_map, hx]; rfl), ← text_snoc]; exact (hv.kp [] 1 2)⟩
   case measure => show gRows.length - (((i + 1 : Nat) : Int)).toNat < gRows.length - ((i : Int)).toNat; omega
  refine uG (.bool false) rfl (ex_lss rfl rfl rfl (qF hb11)) (uW k10 ?_)
  refine sK fun _ k24 => cF rfl (xE ?_)
  refine tX (tX ?_)
  refine bH (tK k7 ?_)
  refine sK fun _ k25 => rL (uM rfl ?_)
  refine uA rfl (uW k25 ?_)
  refine rR (bR rfl rfl ?_)
  obtain rfl : i = gRows.length := by omega
  obtain ⟨D, hD, hv, hro, hoko, -⟩ := (hv).rowBy
  rw [show gNames.take gRows.length = gNames from rfl] at hro
  exact ⟨D, na, nc, hC.trans hD, rfl, hro, hoko, hv⟩
abbrev GX := DoH
def GArgs (name : List UInt8) (n : Nat) : Prop := ∃ x ∈ gRows, x.1 = name ∧ x.2.1 ≤ (n : Int) ∧ (0 ≤ x.2.2.1 → (n : Int) ≤ x.2.2.1) ∧ ((n : Int) - x.2.1).tmod x.2.2.2 = 0
theorem gRows_bnd : ∀ x ∈ gRows, 1 ≤ x.2.1 ∧ x.2.1 ≤ 3 ∧ x.2.2.2 ≠ 0 := by decide
theorem gRows_two : ∀ x ∈ gRows, (x.1 = ([72, 83, 69, 84, 78, 88] : List UInt8) ∨ x.1 = ([72, 71, 69, 84] : List UInt8) ∨ x.1 = ([72, 69, 88, 73, 83, 84, 83] : List UInt8) ∨ x.1 = ([72, 83, 84, 82, 76, 69, 78] : List UInt8)) → 2 ≤ x.2.1 := by decide
theorem gRows_three : ∀ x ∈ gRows, x.1 = ([72, 73, 78, 67, 82, 66, 89] : List UInt8) → 3 ≤ x.2.1 := by decide
theorem gDoAll (B : Base) (H : List Res) (w : World) (v t m s p wb : Nat) (va : Option Addr) (vc : Nat) (sv : Value) (clk : Int) (es : List (List UInt8 × Value)) (M : List (List UInt8 × Ver)) (hM : VM B es M) (hO : OkM M) (aa : Option Addr) (ac : Nat) (args : List (List UInt8)) (hra : RdV B [] aa (textCells args)) (hoka : SliceOk aa args.length ac) (hma : args.length ≤ 1000) (name : List UInt8) (hgr : GArgs name args.length) (hxl : ∀ x ∈ args, x.length ≤ 9223372036854775807) (hsm : (∀ x ∈ args, x.length ≤ 1000000) ∨ M = []) (hN : NumB B) (hv : Inv B (Res.cell v [.iface 63 (vP t)] 40 :: txR t m s p wb va vc sv clk es :: H) w) : Calls Tryz.prog 26 #[.agg #[vP v, .slice aa args.length ac], vS name] w fun e w' => ∃ C es' M' r cs, B.Le C ∧ e = .returned (.agg cs.toArray) ∧ RpAt C r cs ∧ VM C es' M' ∧ CmdR M M' r ∧ GX M clk name args M' r ∧ Inv C (Res.cell v [.iface 63 (vP t)] 40 :: txR t m s p wb va vc sv clk es' :: H) w' := by
 obtain ⟨x, hx, hxn, hx1, hx2, hx3⟩ := hgr
 have h1 := (gRows_bnd x hx).1
 exact chashDoAll B H w v t m s p wb va vc sv clk es M hM hO aa ac args hra hoka hma name (by omega) (fun h => by have := gRows_two x hx (by rw [hxn]; exact h); omega) (fun h => by have := gRows_three x hx (by rw [hxn]; exact h); omega) hxl hsm hN hv
theorem hBal28 : AL Tryz.prog 28 [vI 0, vS [], vI 0, vN] := fun w => by kernel_rfl
theorem hBal4 : AL Tryz.prog 4 [.bool false] := fun w => by kernel_rfl
theorem hBfa72_1 : FA Tryz.prog 72 1 1 := fun w b o => by kernel_rfl
theorem hBcallable23 : Callable Tryz.prog 23 := cb Tryz.func23 (by kernel_rfl)
theorem hBrec23 (n : Nat) (x0 x1 : Value) (w : World) : CallsDIn Fence.wide n Tryz.prog 23 #[x0, x1] .returning w fun e u' w' => e = .returned (.tuple #[]) ∧ u' = .returning ∧ w' = w := by
 refine callsDIn_of_wpSIn Tryz.func23 rfl trivial fun c₀ cs hu => ?_
 apply wpSIn_seq
 apply wpSIn_region
 simp [wpOpsSIn, go_sem, recoverD, hu, Tryz.ntmps23, Exit.thenS]
 refine wpSIn_cond (t := false) (by simp [Act.eval, Array.replicate]) ?_
 simp only [Bool.false_eq_true, if_false]
 refine wpSIn_of_wpIn rfl (wpIn_skip ?_)
 cases c₀
 simp_all [bodyPostS, results, Tryz.results23]
theorem hBfa72_2 : FA Tryz.prog 72 2 2 := fun w b o => by kernel_rfl
theorem hBfa72_3 : FA Tryz.prog 72 3 3 := fun w b o => by kernel_rfl
theorem hBcallable26 : Callable Tryz.prog 26 := cb Tryz.func26 (by kernel_rfl)
theorem gDo (B : Base) (H : List Res) (w : World) (v t m s p wb : Nat) (va : Option Addr) (vc : Nat) (sv : Value) (clk : Int) (es : List (List UInt8 × Value)) (M : List (List UInt8 × Ver)) (hM : VM B es M) (hO : OkM M) (aa : Option Addr) (ac : Nat) (args : List (List UInt8)) (hra : RdV B [] aa (textCells args)) (hoka : SliceOk aa args.length ac) (hma : args.length ≤ 1000) (name : List UInt8) (hxl : ∀ x ∈ args, x.length ≤ 9223372036854775807) (hsm : (∀ x ∈ args, x.length ≤ 1000000) ∨ M = []) (hN : NumB B) (hv : Inv B (Res.cell v [.iface 63 (vP t)] 40 :: txR t m s p wb va vc sv clk es :: H) w) :
  Calls Tryz.prog 11 #[vP v, vS name, .slice aa args.length ac] w fun e w' => ∃ C es' M' r cs ok, B.Le C ∧ e = .returned (.tuple #[.agg cs.toArray, .bool ok]) ∧ RpAt C r cs ∧ VM C es' M' ∧ CmdR M M' r ∧ (ok = true ↔ name ∈ gNames) ∧ (ok = false → M' = M ∧ r = rText []) ∧ (GArgs name args.length → GX M clk name args M' r) ∧ Inv C (Res.cell v [.iface 63 (vP t)] 40 :: txR t m s p wb va vc sv clk es' :: H) w' := by
 refine (callsIn_wide (n := 5)).1 (callsIn_of_wp_defers Tryz.func11 rfl trivial ?_)
 simp only [Tryz.ntmps11, List.size_toArray, List.length_cons, List.length_nil, Nat.reduceAdd, Nat.reduceSub, Array.replicate_succ, Array.replicate_zero, List.push_toArray, List.append_toArray, List.nil_append, List.cons_append]
 refine sK fun _ k1 => rL (sl_alloc tV (wn rfl) rfl hv hBal28 (fun b2 w3 hv => ?_))
 refine sl_alloc tV (wn rfl) rfl hv hBal4 (fun b4 w5 hv => ?_)
 refine uW k1 (sK fun _ k6 => ?_)
 refine rL (uG (.func (.func 23) #[] #[vP b2, vP b4]) rfl (ex_makeFunc (c' := #[vP b2, vP b4]) rfl (by simp only [List.map_toArray, List.map_nil]) (by simp only [List.map_toArray, List.map_cons, List.map_nil]; rfl)) ?_)
 refine wpi_defer tV rfl (wn rfl) rfl rfl (uW k6 ?_)
 refine sK fun _ k7 => sK fun _ k8 => rL (xC hBcallable25 rfl ((gRowsC B _ _ hv).mono ?_) rfl)
 rintro e w9 ⟨C, ra, rc, hC, rfl, hrr, hv⟩
 refine ⟨_, rfl, uG (vI (gRows.length : Int)) rfl (ex_len0 Tryz.underlying69 rfl rfl) ?_⟩
 refine uM rfl (uW k8 ?_)
 refine bB ?_
 gi_loopw [14] (fun x14 wr => ∃ (i : Nat), x14 = vI i ∧ i ≤ gRows.length ∧ (∀ (j : Nat) y, j < i → gRows[j]? = some y → y.1 ≠ name) ∧ Inv C (Res.cell b4 [.bool false] 4 :: Res.cell b2 [vI 0, vS [], vI 0, vN] 28 :: Res.cell v [.iface 63 (vP t)] 40 :: txR t m s p wb va vc sv clk es :: H) wr) (fun x14 _ => gRows.length - (intOf x14).toNat)
 case atStart => exact ⟨0, rfl, Nat.zero_le _, fun j y h => by omega, hv⟩
 case round =>
  obtain ⟨i, rfl, hi, hno, hv⟩ := hrel
  have hrl := gRows_len
  refine sK fun _ k11 => rL ?_
  by_cases hb12 : (i : Int) < (gRows.length : Int)
  ·refine uG (.bool true) rfl (ex_lss rfl rfl rfl (qT hb12)) (uW k11 ?_)
   refine sK fun _ k13 => cT rfl (kS ?_)
   refine tK k13 (sK fun _ k14 => ?_)
   refine bB (sK fun _ k15 => ?_)
   have hrl := gRows_len
   obtain ⟨x, hx⟩ : ∃ x, gRows[i]? = some x := ⟨_, List.getElem?_eq_getElem (show i < gRows.length by omega)⟩
   have hxm := List.mem_of_getElem? hx
   obtain ⟨rb, ro, had, hrdx⟩ := gRow_reads hrr hx
   subst had
   refine rL (uG (.pointer (some ⟨rb, ro + i * 4, none⟩)) rfl (ex_index rfl rfl rfl (run_idx (k := i) Tryz.underlying69 hBes69 (by omega))) ?_)
   refine uL (.agg #[vS x.1, vI x.2.1, vI x.2.2.1, vI x.2.2.2]) rfl (run_loadR (cs := [vS x.1, vI x.2.1, vI x.2.2.1, vI x.2.2.2]) hBwd72 (Reads.mid (pre := []) (mid := [vS x.1, vI x.2.1, vI x.2.2.1, vI x.2.2.2]) (post := []) hrdx _ _ _ (Base.Le.refl _) no_res hv)) ?_
   refine sl_alloc tV (wn rfl) rfl hv hBal72 (fun b16 w17 hv => ?_)
   simp only [zP, po]
   refine xS 0 rfl hv hBsz72 rfl (by exact ⟨rfl, rfl, rfl, rfl, trivial⟩) (fun w18 hv => ?_)
   simp only [zO, sp] at hv
   refine uW k15 (sK fun _ k19 => ?_)
   refine sK fun _ k20 => rL (uF (vP b16) rfl (hBfa72_0 _ _ _) ?_)
   refine uL _ rfl (run_load1 s9na9 (hv.load 0 0 rfl rfl)) (uM rfl ?_)
   by_cases hb21 : x.1 ≠ name
   ·refine uG (.bool true) rfl (ex_sneq rfl rfl rfl (qT hb21)) (uW k20 ?_)
    refine cT rfl (xE ?_)
    refine tX (bH ?_)
    refine tK k14 (rL ?_)
    refine uG (vI ((i + 1 : Nat) : Int)) rfl (ex_add rfl rfl rfl (by rw [i64_in (by omega)]; omega)) (uM rfl ?_)
    refine uZ (then_normal ?_)
    go_roundw
    case rel => exact ⟨i + 1, rfl, by omega, fun j y hj hy => (by
       rcases Nat.lt_or_ge j i with h | h
       ·exact hno j y h hy
       obtain rfl : j = i := by omega
       rw [hx] at hy; cases hy; exact hb21), (hv.kp [4, 4, 4, 4] 4 1)⟩
    case measure => show gRows.length - (((i + 1 : Nat) : Int)).toNat < gRows.length - ((i : Int)).toNat; omega
   refine uG (.bool false) rfl (ex_sneq rfl rfl rfl (qF hb21)) (uW k20 ?_)
   refine cF rfl (kS ?_)
   refine tK k19 (sK fun _ k22 => ?_)
   refine rL (uM rfl ?_)
   refine uG (vI (args.length : Int)) rfl (ex_len0 Tryz.underlying22 rfl rfl) (uA rfl ?_)
   refine uW k22 (sK fun _ k23 => ?_)
   refine sK fun _ k24 => ?_
   have hxb := gRows_bnd x hxm
   refine rL (uM rfl ?_)
   refine uF (.pointer (some ⟨b16, 1, none⟩)) rfl (hBfa72_1 _ _ _) ?_
   refine uL _ rfl (run_load1 s2na3 (hv.load 0 1 rfl rfl)) ?_
   by_cases hb25 : (args.length : Int) < x.2.1
   ·refine uG (.bool true) rfl (ex_lss rfl rfl rfl (qT hb25)) (uM rfl ?_)
    iterate 9 refine uP rfl ?_
    refine uK rfl (uM rfl ?_)
    iterate 8 refine uP rfl ?_
    refine uK rfl (uW k24 ?_)
    refine cT rfl (sK fun _ k26 => ?_)
    refine rL (xC rscallable24 rfl ((viewWrong C _ _ 43 hv).mono ?_) rfl)
    rintro e w28 ⟨s27, rfl, hv⟩
    refine ⟨_, rfl, ?_⟩
    refine xS 2 rfl hv rssz28 rfl (by exact ⟨rfl, rfl, rfl, rfl, trivial⟩) (fun w29 hv => ?_)
    simp only [zS, zO, sp] at hv
    refine xV 1 (.bool true) rfl hv v8sz4 rfl rfl (fun w30 hv => ?_)
    simp only [zS, zO, sp] at hv
    refine uW k26 (rR ?_)
    refine tR (bZ ?_)
    refine tR (tR ?_)
    refine bZ (tR ?_)
    refine leave_rec hBcallable23 (hBrec23 _ _ _ _) (res_cells2 rfl rfl (lM 2 rswd28 hv rfl rfl rfl rfl) rfl (run_load1 s2na4 (hv.load 1 0 rfl rfl))) ?_
    have hmem : name ∈ gNames := by rw [← (show x.1 = name from Classical.byContradiction fun h9 => hb21 h9)]; exact List.mem_map_of_mem hxm
    exact ⟨C, es, M, rFault s27, rpCells 1 s27 0 (vN), true, hC, rfl, rpAt_leaf, hM.more hC, ⟨hO, fun _ => rfl⟩, ⟨fun _ => hmem, fun _ => rfl⟩, fun h9 => (by cases h9), fun ⟨y9, hy9, hyn9, hg1, hg2, hg3⟩ => (by obtain rfl := gRows_inj y9 hy9 x hxm (by rw [hyn9]; exact (Classical.byContradiction fun h9 => hb21 h9 : x.1 = name).symm); omega), (hv.kp [4, 4] 2 3)⟩
   refine uG (.bool false) rfl (ex_lss rfl rfl rfl (qF hb25)) (uM rfl ?_)
   refine uF (.pointer (some ⟨b16, 2, none⟩)) rfl (hBfa72_2 _ _ _) ?_
   refine uL _ rfl (run_load1 s2na3 (hv.load 0 2 rfl rfl)) ?_
   by_cases hb31 : x.2.2.1 ≥ 0
   ·refine uG (.bool true) rfl (ex_geq rfl rfl rfl (qT hb31)) ?_
    refine uM rfl ?_
    refine uM rfl ?_
    refine uF (.pointer (some ⟨b16, 2, none⟩)) rfl (hBfa72_2 _ _ _) ?_
    refine uL _ rfl (run_load1 s2na3 (hv.load 0 2 rfl rfl)) ?_
    by_cases hb32 : (args.length : Int) > x.2.2.1
    ·refine uG (.bool true) rfl (ex_gtr rfl rfl rfl (qT hb32)) ?_
     refine uK rfl (uK rfl ?_)
     refine uM rfl ?_
     iterate 8 refine uP rfl ?_
     refine uK rfl (uW k24 ?_)
     refine cT rfl (sK fun _ k33 => ?_)
     refine rL (xC rscallable24 rfl ((viewWrong C _ _ 43 hv).mono ?_) rfl)
     rintro e w35 ⟨s34, rfl, hv⟩
     refine ⟨_, rfl, ?_⟩
     refine xS 2 rfl hv rssz28 rfl (by exact ⟨rfl, rfl, rfl, rfl, trivial⟩) (fun w36 hv => ?_)
     simp only [zS, zO, sp] at hv
     refine xV 1 (.bool true) rfl hv v8sz4 rfl rfl (fun w37 hv => ?_)
     simp only [zS, zO, sp] at hv
     refine uW k33 (rR ?_)
     refine tR (bZ ?_)
     refine tR (tR ?_)
     refine bZ (tR ?_)
     refine leave_rec hBcallable23 (hBrec23 _ _ _ _) (res_cells2 rfl rfl (lM 2 rswd28 hv rfl rfl rfl rfl) rfl (run_load1 s2na4 (hv.load 1 0 rfl rfl))) ?_
     have hmem : name ∈ gNames := by rw [← (show x.1 = name from Classical.byContradiction fun h9 => hb21 h9)]; exact List.mem_map_of_mem hxm
     exact ⟨C, es, M, rFault s34, rpCells 1 s34 0 (vN), true, hC, rfl, rpAt_leaf, hM.more hC, ⟨hO, fun _ => rfl⟩, ⟨fun _ => hmem, fun _ => rfl⟩, fun h9 => (by cases h9), fun ⟨y9, hy9, hyn9, hg1, hg2, hg3⟩ => (by obtain rfl := gRows_inj y9 hy9 x hxm (by rw [hyn9]; exact (Classical.byContradiction fun h9 => hb21 h9 : x.1 = name).symm); omega), (hv.kp [4, 4] 2 3)⟩
    refine uG (.bool false) rfl (ex_gtr rfl rfl rfl (qF hb32)) ?_
    refine uK rfl (uK rfl ?_)
    refine uM rfl ?_
    refine uM rfl ?_
    refine uF (.pointer (some ⟨b16, 1, none⟩)) rfl (hBfa72_1 _ _ _) ?_
    refine uL _ rfl (run_load1 s2na3 (hv.load 0 1 rfl rfl)) ?_
    refine uG (vI ((args.length : Int) - x.2.1)) rfl (ex_sub rfl rfl rfl (by rw [i64_in (by omega)])) ?_
    refine uF (.pointer (some ⟨b16, 3, none⟩)) rfl (hBfa72_3 _ _ _) ?_
    refine uL _ rfl (run_load1 s2na3 (hv.load 0 3 rfl rfl)) ?_
    refine uG (vI (((args.length : Int) - x.2.1).tmod x.2.2.2)) rfl (ex_rem (m := ((args.length : Int) - x.2.1)) (n := x.2.2.2) rfl rfl rfl hxb.2.2 rfl) ?_
    by_cases hb38 : (((args.length : Int) - x.2.1).tmod x.2.2.2) ≠ 0
    ·refine uG (.bool true) rfl (ex_neq rfl rfl rfl (qT hb38)) (uK rfl ?_)
     refine uW k24 (cT rfl ?_)
     refine sK fun _ k39 => rL (xC rscallable24 rfl ((viewWrong C _ _ 43 hv).mono ?_) rfl)
     rintro e w41 ⟨s40, rfl, hv⟩
     refine ⟨_, rfl, ?_⟩
     refine xS 2 rfl hv rssz28 rfl (by exact ⟨rfl, rfl, rfl, rfl, trivial⟩) (fun w42 hv => ?_)
     simp only [zS, zO, sp] at hv
     refine xV 1 (.bool true) rfl hv v8sz4 rfl rfl (fun w43 hv => ?_)
     simp only [zS, zO, sp] at hv
     refine uW k39 (rR ?_)
     refine tR (bZ ?_)
     refine tR (tR ?_)
     refine bZ (tR ?_)
     refine leave_rec hBcallable23 (hBrec23 _ _ _ _) (res_cells2 rfl rfl (lM 2 rswd28 hv rfl rfl rfl rfl) rfl (run_load1 s2na4 (hv.load 1 0 rfl rfl))) ?_
     have hmem : name ∈ gNames := by rw [← (show x.1 = name from Classical.byContradiction fun h9 => hb21 h9)]; exact List.mem_map_of_mem hxm
     exact ⟨C, es, M, rFault s40, rpCells 1 s40 0 (vN), true, hC, rfl, rpAt_leaf, hM.more hC, ⟨hO, fun _ => rfl⟩, ⟨fun _ => hmem, fun _ => rfl⟩, fun h9 => (by cases h9), fun ⟨y9, hy9, hyn9, hg1, hg2, hg3⟩ => (by obtain rfl := gRows_inj y9 hy9 x hxm (by rw [hyn9]; exact (Classical.byContradiction fun h9 => hb21 h9 : x.1 = name).symm); omega), (hv.kp [4, 4] 2 3)⟩
    refine uG (.bool false) rfl (ex_neq rfl rfl rfl (qF hb38)) (uK rfl ?_)
    refine uW k24 (cF rfl ?_)
    refine kS (tK k23 ?_)
    refine sK fun _ k44 => ?_
    have hxn : x.1 = name := Classical.byContradiction fun h9 => hb21 h9
    refine rL (uM rfl ?_)
    refine uM rfl ?_
    refine uG (.agg #[vP v, .slice aa args.length ac]) rfl (ex_buildN (vs := #[(0, vP v), (1, .slice aa args.length ac)]) rfl (by simp only [List.map_toArray, List.map_cons, List.map_nil]; rfl) (by kernel_rfl)) (uM rfl ?_)
    replace hv := hv.front 4 rfl
    simp only [eS, eZ] at hv
    replace hv := hv.front 4 rfl
    simp only [eS, eZ] at hv
    refine xC hBcallable26 rfl ((gDoAll C _ _ v t m s p wb va vc sv clk es M (hM.more hC) hO aa ac args (hra.more hC (fun _ h => h)) hoka hma name ⟨x, hxm, hxn, by omega, fun h9 => by omega, Classical.not_not.1 hb38⟩ hxl hsm (hN.more hC) hv).mono ?_) rfl
    rintro e w45 ⟨D, es', M', r, cs, hD, rfl, hrp, hM', hcmd, hgx, hv⟩
    refine ⟨_, rfl, ?_⟩
    obtain ⟨rk, rs, rn, rv, rfl⟩ := rp_parts hrp
    refine xS 4 rfl hv rssz28 rfl (by exact ⟨rfl, rfl, rfl, hrp.lv.2, trivial⟩) (fun w46 hv => ?_)
    simp only [zS, zO, sp] at hv
    simp only [zP, po]
    refine xV 3 (.bool true) rfl hv v8sz4 rfl rfl (fun w47 hv => ?_)
    simp only [zS, zO, sp] at hv
    refine uW k44 (rR ?_)
    refine bZ (tR ?_)
    refine tR (bZ ?_)
    refine tR (leave_rec hBcallable23 (hBrec23 _ _ _ _) (res_cells2 rfl rfl (lM 4 rswd28 hv rfl rfl rfl rfl) rfl (run_load1 s2na4 (hv.load 3 0 rfl rfl))) ?_)
    have hmem : name ∈ gNames := by rw [← (show x.1 = name from Classical.byContradiction fun h9 => hb21 h9)]; exact List.mem_map_of_mem hxm
    exact ⟨D, es', M', r, _, true, (hC.trans hD), rfl, hrp, hM', hcmd, ⟨fun _ => hmem, fun _ => rfl⟩, fun h9 => (by cases h9), fun _ => hgx, (hv.kp [1, 1] 2 3)⟩
   refine uG (.bool false) rfl (ex_geq rfl rfl rfl (qF hb31)) ?_
   refine uM rfl ?_
   iterate 4 refine uP rfl ?_
   refine uK rfl (uK rfl ?_)
   refine uM rfl ?_
   refine uM rfl ?_
   refine uF (.pointer (some ⟨b16, 1, none⟩)) rfl (hBfa72_1 _ _ _) ?_
   refine uL _ rfl (run_load1 s2na3 (hv.load 0 1 rfl rfl)) ?_
   refine uG (vI ((args.length : Int) - x.2.1)) rfl (ex_sub rfl rfl rfl (by rw [i64_in (by omega)])) ?_
   refine uF (.pointer (some ⟨b16, 3, none⟩)) rfl (hBfa72_3 _ _ _) ?_
   refine uL _ rfl (run_load1 s2na3 (hv.load 0 3 rfl rfl)) ?_
   refine uG (vI (((args.length : Int) - x.2.1).tmod x.2.2.2)) rfl (ex_rem (m := ((args.length : Int) - x.2.1)) (n := x.2.2.2) rfl rfl rfl hxb.2.2 rfl) ?_
   by_cases hb48 : (((args.length : Int) - x.2.1).tmod x.2.2.2) ≠ 0
   ·refine uG (.bool true) rfl (ex_neq rfl rfl rfl (qT hb48)) (uK rfl ?_)
    refine uW k24 (cT rfl ?_)
    refine sK fun _ k49 => rL (xC rscallable24 rfl ((viewWrong C _ _ 43 hv).mono ?_) rfl)
    rintro e w51 ⟨s50, rfl, hv⟩
    refine ⟨_, rfl, ?_⟩
    refine xS 2 rfl hv rssz28 rfl (by exact ⟨rfl, rfl, rfl, rfl, trivial⟩) (fun w52 hv => ?_)
    simp only [zS, zO, sp] at hv
    refine xV 1 (.bool true) rfl hv v8sz4 rfl rfl (fun w53 hv => ?_)
    simp only [zS, zO, sp] at hv
    refine uW k49 (rR ?_)
    refine tR (bZ ?_)
    refine tR (tR ?_)
    refine bZ (tR ?_)
    refine leave_rec hBcallable23 (hBrec23 _ _ _ _) (res_cells2 rfl rfl (lM 2 rswd28 hv rfl rfl rfl rfl) rfl (run_load1 s2na4 (hv.load 1 0 rfl rfl))) ?_
    have hmem : name ∈ gNames := by rw [← (show x.1 = name from Classical.byContradiction fun h9 => hb21 h9)]; exact List.mem_map_of_mem hxm
    exact ⟨C, es, M, rFault s50, rpCells 1 s50 0 (vN), true, hC, rfl, rpAt_leaf, hM.more hC, ⟨hO, fun _ => rfl⟩, ⟨fun _ => hmem, fun _ => rfl⟩, fun h9 => (by cases h9), fun ⟨y9, hy9, hyn9, hg1, hg2, hg3⟩ => (by obtain rfl := gRows_inj y9 hy9 x hxm (by rw [hyn9]; exact (Classical.byContradiction fun h9 => hb21 h9 : x.1 = name).symm); omega), (hv.kp [4, 4] 2 3)⟩
   refine uG (.bool false) rfl (ex_neq rfl rfl rfl (qF hb48)) (uK rfl ?_)
   refine uW k24 (cF rfl ?_)
   refine kS (tK k23 ?_)
   refine sK fun _ k54 => ?_
   have hxn : x.1 = name := Classical.byContradiction fun h9 => hb21 h9
   refine rL (uM rfl ?_)
   refine uM rfl ?_
   refine uG (.agg #[vP v, .slice aa args.length ac]) rfl (ex_buildN (vs := #[(0, vP v), (1, .slice aa args.length ac)]) rfl (by simp only [List.map_toArray, List.map_cons, List.map_nil]; rfl) (by kernel_rfl)) (uM rfl ?_)
   replace hv := hv.front 4 rfl
   simp only [eS, eZ] at hv
   replace hv := hv.front 4 rfl
   simp only [eS, eZ] at hv
   refine xC hBcallable26 rfl ((gDoAll C _ _ v t m s p wb va vc sv clk es M (hM.more hC) hO aa ac args (hra.more hC (fun _ h => h)) hoka hma name ⟨x, hxm, hxn, by omega, fun h9 => by omega, Classical.not_not.1 hb48⟩ hxl hsm (hN.more hC) hv).mono ?_) rfl
   rintro e w55 ⟨D, es', M', r, cs, hD, rfl, hrp, hM', hcmd, hgx, hv⟩
   refine ⟨_, rfl, ?_⟩
   obtain ⟨rk, rs, rn, rv, rfl⟩ := rp_parts hrp
   refine xS 4 rfl hv rssz28 rfl (by exact ⟨rfl, rfl, rfl, hrp.lv.2, trivial⟩) (fun w56 hv => ?_)
   simp only [zS, zO, sp] at hv
   simp only [zP, po]
   refine xV 3 (.bool true) rfl hv v8sz4 rfl rfl (fun w57 hv => ?_)
   simp only [zS, zO, sp] at hv
   refine uW k54 (rR ?_)
   refine bZ (tR ?_)
   refine tR (bZ ?_)
   refine tR (leave_rec hBcallable23 (hBrec23 _ _ _ _) (res_cells2 rfl rfl (lM 4 rswd28 hv rfl rfl rfl rfl) rfl (run_load1 s2na4 (hv.load 3 0 rfl rfl))) ?_)
   have hmem : name ∈ gNames := by rw [← (show x.1 = name from Classical.byContradiction fun h9 => hb21 h9)]; exact List.mem_map_of_mem hxm
   exact ⟨D, es', M', r, _, true, (hC.trans hD), rfl, hrp, hM', hcmd, ⟨fun _ => hmem, fun _ => rfl⟩, fun h9 => (by cases h9), fun _ => hgx, (hv.kp [1, 1] 2 3)⟩
  refine uG (.bool false) rfl (ex_lss rfl rfl rfl (qF hb12)) (uW k11 ?_)
  refine sK fun _ k58 => cF rfl (xE ?_)
  refine tX (tX ?_)
  refine bH (tK k7 ?_)
  refine sK fun _ k59 => rL (uG (.agg #[vI 0, vS [], vI 0, vN]) rfl (ex_buildN (vs := #[]) rfl (by simp only [List.map_toArray, List.map_nil]) (by kernel_rfl)) ?_)
  refine xS 1 rfl hv rssz28 rfl (by exact ⟨rfl, rfl, rfl, rfl, trivial⟩) (fun w60 hv => ?_)
  simp only [zS, zO, sp] at hv
  refine xV 0 (.bool false) rfl hv v8sz4 rfl rfl (fun w61 hv => ?_)
  simp only [zO, sp] at hv
  refine uW k59 (rR ?_)
  refine leave_rec hBcallable23 (hBrec23 _ _ _ _) (res_cells2 rfl rfl (lM 1 rswd28 hv rfl rfl rfl rfl) rfl (run_load1 s2na4 (hv.load 0 0 rfl rfl))) ?_
  have hmem : name ∉ gNames := fun h9 => by
   obtain ⟨y, hy, hyn⟩ := List.mem_map.1 h9
   obtain ⟨j, hj⟩ := List.mem_iff_getElem?.1 hy
   exact hno j y (by have := (List.getElem?_eq_some_iff.1 hj).1; omega) hj hyn
  exact ⟨C, es, M, rText [], rpCells 0 [] 0 (vN), false, hC, rfl, rpAt_leaf, hM.more hC, ⟨hO, fun _ => rfl⟩, ⟨fun h9 => (by cases h9), fun h9 => absurd h9 hmem⟩, fun _ => ⟨rfl, rfl⟩, fun ⟨y9, hy9, hyn9, _⟩ => absurd (hyn9 ▸ List.mem_map_of_mem hy9) hmem, (hv.kp [3, 3] 2 2)⟩
open Go.Sort
theorem HasH.names {M : List (List UInt8 × Ver)} (hs : HasH M []) : namesT M 0 = [] := by
 unfold namesT
 refine List.filter_eq_nil_iff.2 fun k hk => ?_
 have hk := List.mem_mergeSort.1 hk
 have h1 : lookA M k ≠ none := fun h9 => (look_none M k).1 h9 hk
 have hkH : k = kH := Classical.byContradiction fun h9 => h1 (hs.no k h9)
 subst hkH
 rcases hs.at_ with ⟨-, h2⟩ | ⟨h2, -⟩
 ·unfold deadNow
  cases hl : lookA M kH with
  | none => exact absurd hl h1
  | some y => simp [h2 y hl]
 exact absurd rfl h2
-- the document's example
theorem aw_set {M : List (List UInt8 × Ver)} {r : Rp} (h : HSetR [] 0 kH [([98], [49]), ([97], [50])] M r) : HasH M [([97], [50]), ([98], [49])] ∧ r = rInt 2 :=
 HasH.nil.set (by decide) (fun p h => by cases h) (fun p hp => by simp only [List.mem_cons, List.not_mem_nil, or_false] at hp; rcases hp with rfl | rfl <;> exact ⟨by decide, by decide⟩) h
theorem aw_all {M M' : List (List UInt8 × Ver)} {r : Rp} (hs : HasH M [([97], [50]), ([98], [49])]) (h : HAllR M 0 kH M' r) : M' = M ∧ r = rStrs [[97], [50], [98], [49]] := hs.all h
theorem aw_del {M M' : List (List UInt8 × Ver)} {r : Rp} (hs : HasH M [([97], [50]), ([98], [49])]) (h : HDelR M 0 kH [[97], [98]] M' r) : HasH M' [] ∧ r = rInt 2 :=
 hs.del (by decide) (fun p hp => by simp only [List.mem_cons, List.not_mem_nil, or_false] at hp; rcases hp with rfl | rfl <;> exact ⟨by decide, by decide⟩) h
-- the law
section
variable {M M' : List (List UInt8 × Ver)} {r : Rp} {fs : List (List UInt8)}
end
end Go.Proofs.YtffnhfkkochnhaaGreatDoor
namespace Go.Pm
open Go.RowKit
inductive Tr (α : Type) where
 | lin (is : List α)
 | fork (x : α) (t1 : Tr α) (y : α) (t2 : Tr α)
section
variable {P : Program} {ops : Array Oper} {mem perm pre is : List Nat} {R : Act → World → Prop} {Q : Exit → Act → World → Prop} {a0 a aS : Act} {listed : Array Bool} {w w' : World} {val : Nat → Value} {Fl : List (Nat × (World → Prop))} {J : World → Prop} {i : Nat} {o : Oper} {K : Act → World → Prop}
end
section
variable {P : Program} {ops : Array Oper} {mem : List Nat} {Q : Exit → Act → World → Prop} {a0 : Act}
end
section
variable {n : Nat} {P : Program} {ops : Array Oper} {Q : Exit → Act → World → Prop} {a0 : Act} {w0 : World} {B : Base} {H : List Res}
end
section
variable {P : Program} {ops : Array Oper} {mem : List Nat} {R : Act → World → Prop} {D : List (Nat × (World → Prop)) → (World → Prop) → Act → Prop} {i : Nat} {o : Oper} {is : List (Nat × Oper)} {Fl : List (Nat × (World → Prop))} {J : World → Prop} {a : Act} {v : Value} {x y : Nat × Oper} {t1 t2 : Tr (Nat × Oper)} {G : (World → Prop) → Act → Prop} {B : Base} {H : List Res} {w' : World}
theorem mem_rowN {w : World} {vals : List Value} {Jv : List Value → World → Prop} {Q : Exit → Act → World → Prop} {t e : TypeId} {k : Nat} {parts : Array (Nat × Operand)} {pv : Array (Nat × Value)} {L : List Value} (hg : Region.wanted o (yielded ops a.tmps) = true) (ho : o.op = .buildSlice t k parts) (hx : (parts.map fun (i, x) => (i, a.eval x)) = pv) (hv : Inv B H w)
  (hr : ∀ w, (Instr.buildSlice t k pv).run P w = .ok (.slice (some ⟨w.heap.size, 0, none⟩) k k) (w.alloc (.cells L.toArray e))) (h : ∀ b w', Inv B (Res.cell b L e :: H) w' → Jv (vals ++ [.slice (some ⟨b, 0, none⟩) k k]) w') : StepMem P ops Jv Q o a w vals :=
 Ex.mem (by unfold Ex; simp only [execOp, ho, hx]; simp [hr]) hg (h _ _ (hv.alloc L e))
end
end Go.Pm
namespace Go.Proofs.YtffnhfkkochnhaaGreatDoor
open Go.RowKit Go.Pm
theorem hCcallable7 : Callable Tryz.prog 7 := cb Tryz.func7 (by kernel_rfl)
theorem hCcallable11 : Callable Tryz.prog 11 := cb Tryz.func11 (by kernel_rfl)
theorem hCal28 : AL Tryz.prog 28 [vI 0, vS [], vI 0, vN] := fun w => by kernel_rfl
theorem hCmk9 : (Tryz.prog.info? 9).map (fun i => (i.zero, i.size, i.bytes)) = some (some (vS []), 1, 16) := by kernel_rfl
theorem hCel22 : Elem Tryz.prog 22 9 (vS []) 1 16 := elem_of Tryz.underlying22 hCmk9 (by rfl) (by decide)
theorem hCcallable17 : Callable Tryz.prog 17 := cb Tryz.func17 (by kernel_rfl)
theorem hCcallable172 : Callable Tryz.prog 172 := cb Tryz.func172 (by kernel_rfl)
theorem gAwake (B : Base) (H : List Res) (w : World) (hN : NumB B) (hv : Inv B H w) :
  Calls Tryz.prog 6 #[] w fun e w' => e = .returned (.bool true) ∧ Inv B H w' := by
 refine cW Tryz.func6 rfl Tryz.ntmps6 ?_
 simp only [al]
 refine sK fun _ k1 => rL (uA rfl ?_)
 refine uW k1 (sK fun _ k2 => ?_)
 refine rL (xC hCcallable7 rfl ((lawOpened B _ _ 0 (by omega) (by omega) hv).mono ?_) rfl)
 rintro e w3 ⟨v, t, m, s, p, wb, va, vc, sv, rfl, hv⟩
 refine ⟨_, rfl, uA rfl ?_⟩
 refine uW k2 (sK fun _ k4 => ?_)
 refine sK fun _ k5 => rL (uM rfl ?_)
 refine uG (.bool false) rfl (ex_pisnil Tryz.underlying24 rfl rfl rfl rfl) (uW k5 ?_)
 refine cF rfl (kS ?_)
 refine tK k4 (sK fun _ k6 => ?_)
 refine rL (uM rfl ?_)
 refine sl_rowN (pv := #[(0, vS [104]), (1, vS [98]), (2, vS [49]), (3, vS [97]), (4, vS [50])]) (L := [vS [104], vS [98], vS [49], vS [97], vS [50]]) (e := 9) tV (wn rfl) rfl (by simp only [List.map_toArray, List.map_cons, List.map_nil]; rfl) hv (fun w => by kernel_rfl) (fun b7 w8 hv => ?_)
 obtain ⟨D9, hD9, hv, hrD9, hoD9, -⟩ := (hv.cellRow (n := 5) (c := 5) (size := 1) rfl (by decide) (by decide)).rowBy
 replace hv := hv.front 1 rfl
 simp only [eS, eZ] at hv
 replace hv := hv.front 1 rfl
 simp only [eS, eZ] at hv
 refine xC hCcallable11 rfl ((gDo D9 _ _ v t m s p wb va vc sv 0 [] [] ((vmNil B).more hD9) OkM.nil _ _ [([104] : List UInt8), ([98] : List UInt8), ([49] : List UInt8), ([97] : List UInt8), ([50] : List UInt8)] hrD9 hoD9 (by decide) ([72, 83, 69, 84] : List UInt8) (all1 (by decide) (all1 (by decide) (all1 (by decide) (all1 (by decide) (all1 (by decide) all0))))) (.inl (all1 (by decide) (all1 (by decide) (all1 (by decide) (all1 (by decide) (all1 (by decide) all0)))))) (hN.more hD9) hv).mono ?_) rfl
 rintro e w10 ⟨C1, es1, M1, r1, cs1, ok1, hC1, rfl, hrp1, hM1, ⟨hO1, -⟩, hok1, -, hrel1, hv⟩
 refine ⟨_, rfl, ?_⟩
 obtain rfl : ok1 = true := hok1.2 (by decide)
 obtain ⟨hg1, hg2, hg3, hg4⟩ := hrel1 (by unfold GArgs; decide)
 obtain ⟨k9, e9, hd9⟩ := hg1 rfl
 cases e9
 obtain ⟨hS1, rfl⟩ := aw_set hd9
 obtain ⟨v1, rfl⟩ := rp_int hrp1
 refine uM rfl (uE rfl ?_)
 refine uE rfl ?_
 refine sl_alloc tV (wn rfl) rfl hv hCal28 (fun b11 w12 hv => ?_)
 refine xS 0 rfl hv rssz28 rfl (by exact ⟨rfl, rfl, rfl, hrp1.lv.2, trivial⟩) (fun w13 hv => ?_)
 simp only [zO, sp] at hv
 refine uA rfl (uW k6 ?_)
 refine sK fun _ k14 => rL (uM rfl ?_)
 refine sl_rowOne (v := vS [104]) tV (wn rfl) rfl rfl hv hCel22 rfl (fun b15 w16 hv => ?_)
 obtain ⟨D17, hD17, hv, hrD17, hoD17, -⟩ := (hv.cellRow (n := 1) (c := 1) (size := 1) rfl (by decide) (by decide)).rowBy
 replace hv := hv.front 2 rfl
 simp only [eS, eZ] at hv
 replace hv := hv.front 2 rfl
 simp only [eS, eZ] at hv
 refine xC hCcallable11 rfl ((gDo D17 _ _ v t m s p wb va vc sv 0 es1 M1 (hM1.more hD17) hO1 _ _ [([104] : List UInt8)] hrD17 hoD17 (by decide) ([72, 71, 69, 84, 65, 76, 76] : List UInt8) (all1 (by decide) all0) (.inl (all1 (by decide) all0)) (hN.more ((hD9.trans hC1).trans hD17)) hv).mono ?_) rfl
 rintro e w18 ⟨C2, es2, M2, r2, cs2, ok2, hC2, rfl, hrp2, hM2, ⟨hO2, -⟩, hok2, -, hrel2, hv⟩
 refine ⟨_, rfl, ?_⟩
 obtain rfl : ok2 = true := hok2.2 (by decide)
 obtain ⟨hg1, hg2, hg3, hg4⟩ := hrel2 (by unfold GArgs; decide)
 obtain ⟨k9, e9, hd9⟩ := hg2 rfl
 cases e9
 obtain ⟨hMe, rfl⟩ := aw_all hS1 hd9
 have hS2 : HasH M2 [([97], [50]), ([98], [49])] := by rw [hMe]; exact hS1
 obtain ⟨a2, c2, rfl⟩ := rp_strs hrp2
 refine uG (.tuple #[.agg #[vI 5, vS [], vI 0, .slice a2 4 c2], .bool true]) rfl (ex_move rfl rfl) ?_
 refine uG (.agg #[vI 5, vS [], vI 0, .slice a2 4 c2]) rfl (ex_extract rfl rfl rfl) (uE rfl ?_)
 refine sl_alloc tV (wn rfl) rfl hv hCal28 (fun b19 w20 hv => ?_)
 refine xS 0 rfl hv rssz28 rfl (by exact ⟨rfl, rfl, rfl, rfl, trivial⟩) (fun w21 hv => ?_)
 simp only [zO, sp] at hv
 refine uA rfl (uW k14 ?_)
 refine sK fun _ k22 => rL (uM rfl ?_)
 refine sl_rowN (pv := #[(0, vS [104]), (1, vS [97]), (2, vS [98])]) (L := [vS [104], vS [97], vS [98]]) (e := 9) tV (wn rfl) rfl (by simp only [List.map_toArray, List.map_cons, List.map_nil]; rfl) hv (fun w => by kernel_rfl) (fun b23 w24 hv => ?_)
 obtain ⟨D25, hD25, hv, hrD25, hoD25, -⟩ := (hv.cellRow (n := 3) (c := 3) (size := 1) rfl (by decide) (by decide)).rowBy
 replace hv := hv.front 2 rfl
 simp only [eS, eZ] at hv
 replace hv := hv.front 2 rfl
 simp only [eS, eZ] at hv
 refine xC hCcallable11 rfl ((gDo D25 _ _ v t m s p wb va vc sv 0 es2 M2 (hM2.more hD25) hO2 _ _ [([104] : List UInt8), ([97] : List UInt8), ([98] : List UInt8)] hrD25 hoD25 (by decide) ([72, 68, 69, 76] : List UInt8) (all1 (by decide) (all1 (by decide) (all1 (by decide) all0))) (.inl (all1 (by decide) (all1 (by decide) (all1 (by decide) all0)))) (hN.more ((((hD9.trans hC1).trans hD17).trans hC2).trans hD25)) hv).mono ?_) rfl
 rintro e w26 ⟨C3, es3, M3, r3, cs3, ok3, hC3, rfl, hrp3, hM3, ⟨hO3, -⟩, hok3, -, hrel3, hv⟩
 refine ⟨_, rfl, ?_⟩
 obtain rfl : ok3 = true := hok3.2 (by decide)
 obtain ⟨hg1, hg2, hg3, hg4⟩ := hrel3 (by unfold GArgs; decide)
 obtain ⟨k9, e9, hd9⟩ := hg3 rfl
 cases e9
 obtain ⟨hS3, rfl⟩ := aw_del hS2 hd9
 obtain ⟨v3, rfl⟩ := rp_int hrp3
 have hn3 : namesT M3 0 = [] := hS3.names
 refine uM rfl (uE rfl ?_)
 refine uE rfl ?_
 refine sl_alloc tV (wn rfl) rfl hv hCal28 (fun b27 w28 hv => ?_)
 refine xS 0 rfl hv rssz28 rfl (by exact ⟨rfl, rfl, rfl, hrp3.lv.2, trivial⟩) (fun w29 hv => ?_)
 simp only [zO, sp] at hv
 refine uA rfl (uW k22 ?_)
 refine sK fun _ k30 => rW mixed [14, 15, 16, 28] [0,1,2,3,4,5,6,7,8,9,10,11,12,13,14,15,16,17,18,19,20,21,22,23,24,25,26,27,28,29,30,31,32] 61 rfl (by kernel_rfl) hv ?_
 simp only [qm, opAt]
 refine dM (.bool true) rfl (dM (.bool true) rfl ?_)
 refine dM (.bool true) rfl ?_
 simp only [zP, po]
 refine dK true (.bool true) rfl (dM (.bool true) rfl ?_)
 refine dM (.bool true) rfl ?_
 simp only [zP, po]
 refine dK true (.bool true) rfl (dM (.bool true) rfl ?_)
 refine dG (.pointer (some ⟨b11, 2, none⟩)) rfl (ex_field rfl rfl (l0fa28_2 _ _ _)) ?_
 simp only [zP, po]
 refine dL _ rfl (fun hv => ex_load rfl rfl (run_load1 s2na3 (hv.load 4 2 rfl rfl))) (dG (.bool true) rfl (ex_eql rfl rfl rfl (by decide)) ?_)
 refine dK true (.bool true) rfl ?_
 simp only [zP, po]
 refine dM (.bool true) rfl (dF (.agg #[vI 5, vS [], vI 0, .slice a2 4 c2]) rfl (fun hv => ex_load rfl rfl (lM 3 rswd28 hv rfl rfl rfl rfl)) fun f31 hf31 => ?_)
 refine dS rfl fun w32 hv => mem_rowN (pv := #[(0, vS [97]), (1, vS [50]), (2, vS [98]), (3, vS [49])]) (L := [vS [97], vS [50], vS [98], vS [49]]) (e := 9) rfl rfl (by simp only [List.map_toArray, List.map_cons, List.map_nil]; rfl) hv (fun w => by kernel_rfl) (fun b33 w34 hv => ?_)
 refine dV hv (fC (fun ww hv => hf31 ww ?_) fN) ?_
 ·exact ex_load rfl rfl (lM 4 rswd28 hv rfl rfl rfl rfl)
 simp only [zP, po]
 refine dS rfl fun w35 hv => ?_
 obtain ⟨D36, hD36, hv, hrD36, hoD36, -⟩ := (hv.cellRow (n := 4) (c := 4) (size := 1) rfl (by decide) (by decide)).rowBy
 refine mC hCcallable17 rfl ((ref20Strs D36 _ _ _ _ [([97] : List UInt8), ([50] : List UInt8), ([98] : List UInt8), ([49] : List UInt8)] hrD36 (by decide) hv).mono ?_) rfl
 rintro e w37 ⟨E, ve, hE, rfl, hrpE, hv⟩
 refine ⟨_, rfl, dV hv (fC (fun ww hv => hf31 ww ?_) fN) ?_⟩
 ·exact ex_load rfl rfl (lM 3 rswd28 hv rfl rfl rfl rfl)
 refine dS rfl fun w38 hv => mC l0callable9 rfl (((sameR_strs (B := E) (l := [[97], [50], [98], [49]]) (by decide)) _ _ (rpCells 5 [] 0 (.slice a2 4 c2)) (rpCells 5 [] 0 ve) (hrp2.more (((hD25.trans hC3).trans hD36).trans hE)) (hrpE.more (Base.Le.refl _)) hv).mono ?_) rfl
 rintro e w39 ⟨rfl, hv⟩
 refine ⟨_, rfl, dV hv (fK rfl fN) ?_⟩
 refine dK true (.bool true) rfl ?_
 simp only [zP, po]
 refine dM (.bool true) rfl (dG (.pointer (some ⟨b27, 2, none⟩)) rfl (ex_field rfl rfl (l0fa28_2 _ _ _)) ?_)
 refine dL _ rfl (fun hv => ex_load rfl rfl (run_load1 s2na3 (hv.load 0 2 rfl rfl))) ?_
 simp only [zP, po]
 refine dG (.bool true) rfl (ex_eql rfl rfl rfl (by decide)) (dK true (.bool true) rfl ?_)
 refine dM (.bool true) rfl ?_
 simp only [zP, po]
 refine dM (vP v) rfl (dG (vP v) rfl (ex_nil rfl rfl) ?_)
 refine dG (vP v) rfl (ex_field rfl rfl (v1fa40_0 _ _ _)) ?_
 simp only [zP, po]
 refine dL _ rfl (fun hv => ex_load rfl rfl (run_load1 v1na38 (hv.load 1 0 rfl rfl))) (dS rfl fun w40 hv => ?_)
 replace hv := hv.front 2 rfl
 simp only [eS, eZ] at hv
 refine stepMem_callI hCcallable172 rfl rfl rfl (r := vP t) (fun w => by kernel_rfl) (args := #[]) (by simp only [List.map_toArray, List.map_nil]) ((txnNamesB E _ _ t m s p wb va vc sv 0 es3 M3 (hM3.more (hD36.trans hE)) (HasH.short hS3) (by have := HasH.few hS3; omega) hv).mono ?_)
 rintro e w41 ⟨P, qa, qc, hP, rfl, -, hv⟩
 refine ⟨_, rfl, dV hv (fK rfl fN) ?_⟩
 refine dG (vI (((namesT M3 0).length) : Int)) rfl (ex_len0 Tryz.underlying22 rfl rfl) ?_
 simp only [zP, po]
 refine dG (.bool true) rfl (ex_eql rfl rfl rfl (qT (by rw [hn3]; rfl))) (dK true (.bool true) rfl ?_)
 refine dA (.bool true) rfl (dE fun w42 hv => ?_)
 simp only [zP, po]
 refine tK k30 (rR ?_)
 refine bR rfl rfl (⟨rfl, ((hv.kp [] 0 5)).weak ((((((((hD9.trans hC1).trans hD17).trans hC2).trans hD25).trans hC3).trans hD36).trans hE).trans hP)⟩)
theorem mod_in (n : Int) {L : Int} (hL : 0 < L) : ∃ j : Nat, (n.tmod L + L).tmod L = (j : Int) ∧ (j : Int) < L ∧ -L < n.tmod L ∧ n.tmod L < L := by
 have h1 := Int.lt_tmod_of_pos n hL
 have h2 := Int.tmod_lt_of_pos n hL
 have h3 : 0 ≤ (n.tmod L + L).tmod L := Int.tmod_nonneg L (by omega)
 have h4 := Int.tmod_lt_of_pos (n.tmod L + L) hL
 exact ⟨((n.tmod L + L).tmod L).toNat, by omega, by omega, h1, h2⟩
theorem gNames_pos : (0 : Int) < (gNames.length : Int) := by rw [gNames_len]; decide
theorem rp_kind {B : Base} {r : Rp} {k : Int} {s : List UInt8} {n : Int} {v : Value} (h : RpAt B r (rpCells k s n v)) : r.kind = k := by
 cases r; simp only [RpAt] at h
 obtain ⟨v2, xs, h1, -⟩ := h
 simp only [List.cons.injEq, Value.int.injEq, true_and] at h1
 exact h1.1.symm
theorem hEcallable6 : Callable Tryz.prog 6 := cb Tryz.func6 (by kernel_rfl)
theorem hEwd44 : Wide Tryz.prog 44 2 := wide_of (fun w => by kernel_rfl) (by kernel_rfl)
theorem hEcallable14 : Callable Tryz.prog 14 := cb Tryz.func14 (by kernel_rfl)
theorem hEcallable15 : Callable Tryz.prog 15 := cb Tryz.func15 (by kernel_rfl)
theorem hEal48 : AL Tryz.prog 48 [vN, vI 0, vN] := fun w => by kernel_rfl
theorem hEcallable13 : Callable Tryz.prog 13 := cb Tryz.func13 (by kernel_rfl)
theorem hEfa44_0 : FA Tryz.prog 44 0 0 := fun w b o => by kernel_rfl
theorem hEal28 : AL Tryz.prog 28 [vI 0, vS [], vI 0, vN] := fun w => by kernel_rfl
theorem hEcallable16 : Callable Tryz.prog 16 := cb Tryz.func16 (by kernel_rfl)
theorem lawFaultsMain (B : Base) (H : List Res) (w : World) (ad : Option Addr) (n ac : Nat) (hkr : KeysRd B ad n) (cn : Int) (xa : Option Addr) (xc : Nat) (xs : List (List UInt8)) (hokx : SliceOk xa xs.length xc) (hrx : RdV B [] xa (textCells xs)) (hxl : ∀ x ∈ xs, x.length ≤ 9223372036854775807) (clock : Int) (hN : NumB B) (hv : Inv B H w) :
  Calls Tryz.prog 5 #[.slice ad n ac, .agg #[vI cn, .slice xa xs.length xc], vI clock] w fun e w' => e = .returned (.bool true) ∧ Inv B H w' := by
 refine cW Tryz.func5 rfl Tryz.ntmps5 ?_
 simp only [al]
 refine sK fun _ k1 => rL (sl_box (L := [vI cn, .slice xa xs.length xc]) tV (wn rfl) rfl rfl hv (fun w => by kernel_rfl) (fun b2 w3 hv => ?_))
 refine uA rfl (uW k1 ?_)
 refine sK fun _ k4 => sK fun _ k5 => rL (xC hEcallable6 rfl ((gAwake B _ _ (hN.more (Base.Le.refl _)) hv).mono ?_) rfl)
 rintro e w6 ⟨rfl, hv⟩
 refine ⟨_, rfl, uG (.bool false) rfl (ex_not rfl rfl rfl) ?_⟩
 refine uM rfl ?_
 refine uL (.agg #[vI cn, .slice xa xs.length xc]) rfl (lM 0 hEwd44 hv rfl rfl rfl rfl) ?_
 refine xC hEcallable14 rfl ((lawSmall B _ _ cn xa xc xs hrx hv).mono ?_) rfl
 rintro e w8 ⟨bl7, rfl, hbl7, hv⟩
 refine ⟨_, rfl, ?_⟩
 cases bl7
 ·refine uG (.bool true) rfl (ex_not rfl rfl rfl) (uK rfl ?_)
  refine uW k5 (cT rfl ?_)
  refine sK fun _ k9 => rL (xC hEcallable6 rfl ((gAwake B _ _ (hN.more (Base.Le.refl _)) hv).mono ?_) rfl)
  rintro e w10 ⟨rfl, hv⟩
  refine ⟨_, rfl, uA rfl ?_⟩
  refine uW k9 (rR ?_)
  refine tR (bR rfl rfl ?_)
  exact ⟨rfl, ((hv.kp [] 0 1)).weak (Base.Le.refl _)⟩
 refine uG (.bool false) rfl (ex_not rfl rfl rfl) (uK rfl ?_)
 refine uW k5 (cF rfl ?_)
 refine kS (tK k4 ?_)
 refine sK fun _ k11 => rL (uM rfl ?_)
 refine uM rfl ?_
 obtain ⟨hx14, hx42⟩ := hbl7 rfl
 refine xC hEcallable15 rfl ((lawBegun B _ _ ad n ac hkr clock hv).mono ?_) rfl
 rintro e w12 ⟨C, now, v, t, m, s, p, wb, va, vc, sv, es, M, K, wl, ka, wa, kc, wc, ks, hC, h0, h1, hKl, hwl, hM, hO, hRK, hKO, hRV, rfl, hv⟩
 refine ⟨_, rfl, uM rfl ?_⟩
 refine uE rfl (uE rfl ?_)
 refine uE rfl ?_
 refine sl_alloc tV (wn rfl) rfl hv hEal48 (fun b13 w14 hv => ?_)
 refine uA rfl ?_
 refine xS 0 rfl hv v2sz48 rfl (by exact ⟨rfl, rfl, rfl, trivial⟩) (fun w15 hv => ?_)
 simp only [zO, sp] at hv
 refine uA rfl (uW k11 ?_)
 refine sK fun _ k16 => rL (xC hEcallable13 rfl ((gNamesC C _ _ hv).mono ?_) rfl)
 rintro e w17 ⟨D, na, nc, hD, rfl, hrn, hokn, hv⟩
 refine ⟨_, rfl, uA rfl ?_⟩
 refine uW k16 (sK fun _ k18 => ?_)
 refine sK fun _ k19 => rL (uM rfl ?_)
 refine uG (.bool false) rfl (ex_not rfl rfl rfl) (uM rfl ?_)
 refine uM rfl ?_
 refine uG (vI (gNames.length : Int)) rfl (ex_len0 Tryz.underlying22 rfl rfl) ?_
 refine uG (.bool false) rfl (ex_eql rfl rfl rfl (qF (by rw [gNames_len]; decide))) (uK rfl ?_)
 refine uW k19 (cF rfl ?_)
 refine kS (tK k18 ?_)
 refine sK fun _ k20 => ?_
 have hnl := gNames_len
 obtain ⟨j, hj, hjl⟩ := mod_in cn gNames_pos
 obtain ⟨nm, hnm⟩ : ∃ x, gNames[j]? = some x := ⟨_, List.getElem?_eq_getElem (show j < gNames.length by omega)⟩
 obtain ⟨nb, no, had, hrdnm⟩ := text_reads hrn hnm
 subst had
 have hnmem := List.mem_of_getElem? hnm
 refine rT mixed (fun az wz => ∃ (E : Base) (es' : List (List UInt8 × Value)) (M' : List (List UInt8 × Ver)) (r : Rp) (rk : Int) (rs : List UInt8) (rn : Int) (rv : Value) (b27 : Nat), (D.Le E) ∧ (RpAt E r (rpCells rk rs rn rv)) ∧ (VM E es' M') ∧ (CmdR M M' r) ∧ az = { tmps := List.toArray (.slice ad n ac :: .agg #[vI cn, .slice xa xs.length xc] :: vI clock :: undef :: vP b2 :: undef :: .bool false :: vP v :: vP b13 :: .bool true :: .slice (some ⟨nb, no, none⟩) gNames.length nc :: vP b27 :: .bool true :: .bool true :: .bool false :: .bool false :: .agg #[vI cn, .slice xa xs.length xc] :: .bool true :: .bool false :: .bool false :: undef :: .tuple #[vP v, .agg #[.slice ka K.length kc, vI now, .slice wa wl.length wc], .bool true] :: .slice ad n ac :: vI clock :: .tuple #[vP v, .agg #[.slice ka K.length kc, vI now, .slice wa wl.length wc], .bool true] :: vP v :: .agg #[.slice ka K.length kc, vI now, .slice wa wl.length wc] :: .bool true :: .slice (some ⟨nb, no, none⟩) gNames.length nc :: .bool true :: .bool false :: .bool false :: .slice (some ⟨nb, no, none⟩) gNames.length nc :: vI (gNames.length : Int) :: .bool false :: .bool false :: .tuple #[.agg #[vI rk, vS rs, vI rn, rv], .bool true] :: vP v :: .slice (some ⟨nb, no, none⟩) gNames.length nc :: vP b2 :: vI cn :: .slice (some ⟨nb, no, none⟩) gNames.length nc :: vI (gNames.length : Int) :: vI (cn.tmod (gNames.length : Int)) :: .slice (some ⟨nb, no, none⟩) gNames.length nc :: vI (gNames.length : Int) :: vI (cn.tmod (gNames.length : Int) + (gNames.length : Int)) :: .slice (some ⟨nb, no, none⟩) gNames.length nc :: vI (gNames.length : Int) :: vI j :: .pointer (some ⟨nb, no + j, none⟩) :: vS nm :: .pointer (some ⟨b2, 1, none⟩) :: .slice xa xs.length xc :: .tuple #[.agg #[vI rk, vS rs, vI rn, rv], .bool true] :: .agg #[vI rk, vS rs, vI rn, rv] :: .bool true :: undef :: undef :: undef :: undef :: undef :: undef :: undef :: undef :: undef :: undef :: undef :: []), defers := [] } ∧ Inv E (Res.cell b27 [vI rk, vS rs, vI rn, rv] 28 :: Res.cell v [.iface 63 (vP t)] 40 :: txR t m s p wb va vc sv now es' :: Res.cell b13 [.slice ka K.length kc, vI now, .slice wa wl.length wc] 48 :: Res.cell b2 [vI cn, .slice xa xs.length xc] 44 :: H) wz) [17, 21, 22] [0,1,2,3,4,5,6,7,8,9,10,11,12,13,14,15,16] [18,19,20,21,22,23] [17,18,19,20,22,23] 17 21 68 rfl (by kernel_rfl) hv ?_ ?_
 ·intro R2 l1 l2 hR2 hl1 hl2
  simp only [qm, opAt]
  refine tG (vP v) rfl (ex_move rfl rfl) (tG (.slice (some ⟨nb, no, none⟩) gNames.length nc) rfl (ex_move rfl rfl) ?_)
  simp only [zP, po]
  refine tG (vP b2) rfl (ex_field rfl rfl (hEfa44_0 _ _ _)) (tF (vI cn) rfl (fun hv => ex_load rfl rfl (run_load1 s2na3 (hv.load 3 0 rfl rfl))) fun f21 hf21 => ?_)
  simp only [zP, po]
  refine tG (.slice (some ⟨nb, no, none⟩) gNames.length nc) rfl (ex_move rfl rfl) (tG (vI (gNames.length : Int)) rfl (ex_len0 Tryz.underlying22 rfl rfl) ?_)
  simp only [zP, po]
  refine tG (vI (cn.tmod (gNames.length : Int))) rfl (ex_rem (m := cn) (n := (gNames.length : Int)) rfl rfl rfl (by omega) rfl) (tG (.slice (some ⟨nb, no, none⟩) gNames.length nc) rfl (ex_move rfl rfl) ?_)
  simp only [zP, po]
  refine tG (vI (gNames.length : Int)) rfl (ex_len0 Tryz.underlying22 rfl rfl) (tG (vI (cn.tmod (gNames.length : Int) + (gNames.length : Int))) rfl (ex_add (m := (cn.tmod (gNames.length : Int))) (n := (gNames.length : Int)) rfl rfl rfl (i64_in (by omega))) ?_)
  simp only [zP, po]
  refine tG (.slice (some ⟨nb, no, none⟩) gNames.length nc) rfl (ex_move rfl rfl) (tG (vI (gNames.length : Int)) rfl (ex_len0 Tryz.underlying22 rfl rfl) ?_)
  simp only [zP, po]
  refine tG (vI j) rfl (ex_rem (m := (cn.tmod (gNames.length : Int) + (gNames.length : Int))) (n := (gNames.length : Int)) rfl rfl rfl (by omega) hj) (tG (.pointer (some ⟨nb, no + j, none⟩)) rfl (ex_index rfl rfl rfl (run_idx1 (k := j) Tryz.underlying22 s9es22 (by omega))) ?_)
  simp only [zP, po]
  refine tF (vS nm) rfl (fun hv => ex_load rfl rfl (run_load1 s9na9 (hrdnm _ _ _ (Base.Le.refl _) no_res hv 0 _ rfl))) fun f22 hf22 => tG (.pointer (some ⟨b2, 1, none⟩)) rfl (ex_field rfl rfl (l3fa44_1 _ _ _)) ?_
  simp only [zP, po]
  refine tF (.slice xa xs.length xc) rfl (fun hv => ex_load rfl rfl (run_load1 s1na22 (hv.load 3 1 rfl rfl))) fun f23 hf23 => ?_
  simp only [zP, po]
  refine tB ?_ ?_
  ·rw [hl1]; clear hl1 hl2
   simp only [qm, opAt]
   refine dS rfl fun w24 hv => ?_
   replace hv := hv.front 2 rfl
   simp only [eS, eZ] at hv
   replace hv := hv.front 2 rfl
   simp only [eS, eZ] at hv
   refine mC hCcallable11 rfl ((gDo D _ _ v t m s p wb va vc sv now es M (hM.more hD) hO xa xc xs (hrx.more (hC.trans hD) (fun _ h => h)) hokx (by omega) nm hxl (.inl fun x hx => by have := hx42 x hx; omega) (hN.more (hC.trans hD)) hv).mono ?_) rfl
   rintro e w25 ⟨E, es', M', r, cs, ok, hE, rfl, hrp, hM', hcmd, hok, -, -, hv⟩
   obtain ⟨rk, rs, rn, rv, rfl⟩ := rp_parts hrp
   obtain rfl : ok = true := hok.2 hnmem
   refine ⟨_, rfl, dV hv (fK rfl (fK rfl (fK rfl fN))) ?_⟩
   refine dM (.tuple #[.agg #[vI rk, vS rs, vI rn, rv], .bool true]) rfl (dG (.agg #[vI rk, vS rs, vI rn, rv]) rfl (ex_extract rfl rfl rfl) ?_)
   simp only [zP, po]
   refine dG (.bool true) rfl (ex_extract rfl rfl rfl) (dS rfl fun w26 hv => ?_)
   refine mem_alloc rfl rfl hv hEal28 (fun b27 w28 hv => ?_)
   refine dV hv (fC (fun ww hv => hf23 ww (ex_load rfl rfl (run_load1 s1na22 (hv.load 4 1 rfl rfl)))) (fC (fun ww hv => hf22 ww (ex_load rfl rfl (run_load1 s9na9 (hrdnm _ _ _ hE no_res hv 0 _ rfl)))) (fC (fun ww hv => hf21 ww (ex_load rfl rfl (run_load1 s2na3 (hv.load 4 0 rfl rfl)))) fN))) (dS rfl fun w29 hv => ?_)
   refine mS 0 rfl hv rssz28 rfl (by exact ⟨rfl, rfl, rfl, hrp.lv.2, trivial⟩) (fun w30 hv => ?_)
   simp only [zO, sp] at hv
   refine dV hv (fK rfl (fK rfl (fK rfl fN))) ?_
   simp only [zP, po]
   refine dA (.bool true) rfl (dE fun wz hv => ?_)
   simp only [zP, po]
   exact hR2 _ _ ⟨E, es', M', r, rk, rs, rn, rv, b27, hE, hrp, hM', hcmd, rfl, (((((hv.front 4 rfl).front 4 rfl).front 4 rfl).front 4 rfl).front 4 rfl)⟩
  rw [hl2]; clear hl1 hl2
  simp only [qm, opAt]
  refine dS rfl fun w31 hv => mem_alloc rfl rfl hv hEal28 (fun b32 w33 hv => ?_)
  refine dV hv (fC (fun ww hv => hf23 ww (ex_load rfl rfl (run_load1 s1na22 (hv.load 4 1 rfl rfl)))) (fC (fun ww hv => hf22 ww (ex_load rfl rfl (run_load1 s9na9 (hrdnm _ _ _ (Base.Le.refl _) no_res hv 0 _ rfl)))) (fC (fun ww hv => hf21 ww (ex_load rfl rfl (run_load1 s2na3 (hv.load 4 0 rfl rfl)))) fN))) (dS rfl fun w34 hv => ?_)
  replace hv := hv.front 3 rfl
  simp only [eS, eZ] at hv
  replace hv := hv.front 3 rfl
  simp only [eS, eZ] at hv
  refine mC hCcallable11 rfl ((gDo D _ _ v t m s p wb va vc sv now es M (hM.more hD) hO xa xc xs (hrx.more (hC.trans hD) (fun _ h => h)) hokx (by omega) nm hxl (.inl fun x hx => by have := hx42 x hx; omega) (hN.more (hC.trans hD)) hv).mono ?_) rfl
  rintro e w35 ⟨E, es', M', r, cs, ok, hE, rfl, hrp, hM', hcmd, hok, -, -, hv⟩
  obtain ⟨rk, rs, rn, rv, rfl⟩ := rp_parts hrp
  obtain rfl : ok = true := hok.2 hnmem
  refine ⟨_, rfl, dV hv (fK rfl (fK rfl (fK rfl fN))) ?_⟩
  refine dM (.tuple #[.agg #[vI rk, vS rs, vI rn, rv], .bool true]) rfl ?_
  simp only [zP, po]
  refine dG (.agg #[vI rk, vS rs, vI rn, rv]) rfl (ex_extract rfl rfl rfl) (dG (.bool true) rfl (ex_extract rfl rfl rfl) ?_)
  refine dS rfl fun w36 hv => mS 2 rfl hv rssz28 rfl (by exact ⟨rfl, rfl, rfl, hrp.lv.2, trivial⟩) (fun w37 hv => ?_)
  simp only [zS, zO, sp] at hv
  refine dV hv (fK rfl (fK rfl (fK rfl fN))) ?_
  simp only [zP, po]
  refine dA (.bool true) rfl (dE fun wz hv => ?_)
  simp only [zP, po]
  exact hR2 _ _ ⟨E, es', M', r, rk, rs, rn, rv, b32, hE, hrp, hM', hcmd, rfl, (((((hv.front 4 rfl).front 4 rfl).front 3 rfl).front 3 rfl).front 4 rfl)⟩
 rintro _ w38 ⟨E, es', M', r, rk, rs, rn, rv, b27, hE, hrp, hM', hcmd, rfl, hv⟩
 refine tK k20 (sK fun _ k39 => ?_)
 refine rL (uM rfl ?_)
 refine uM rfl ?_
 refine uF (vP b27) rfl (l0fa28_0 _ _ _) ?_
 refine uL _ rfl (run_load1 s2na3 (hv.load 0 0 rfl rfl)) ?_
 by_cases hb40 : rk ≠ 1
 ·refine uG (.bool true) rfl (ex_neq rfl rfl rfl (qT hb40)) ?_
  refine uM rfl ?_
  iterate 3 refine uP rfl ?_
  refine uK rfl (uK rfl ?_)
  refine uA rfl (uW k39 ?_)
  refine rR (bR rfl rfl ?_)
  exact ⟨rfl, ((hv.kp [] 0 5)).weak ((hC.trans hD).trans hE)⟩
 refine uG (.bool false) rfl (ex_neq rfl rfl rfl (qF hb40)) ?_
 refine uM rfl ?_
 refine uM rfl ?_
 refine uL (.agg #[.slice ka K.length kc, vI now, .slice wa wl.length wc]) rfl (lM 3 v2wd48 hv rfl rfl rfl rfl) ?_
 replace hv := hv.front 2 rfl
 simp only [eS, eZ] at hv
 replace hv := hv.front 2 rfl
 simp only [eS, eZ] at hv
 have hMM : M' = M := hcmd.2 ((rp_kind hrp).trans (Classical.not_not.1 hb40))
 refine xC hEcallable16 rfl ((lawSame E _ _ v t m s p wb va vc sv now es' M K wl ka wa kc wc ks (by rw [← hMM]; exact hM'.more (Base.Le.refl _)) hRK hKO (hRV.more (hD.trans hE)) hKl hwl hv).mono ?_) rfl
 rintro e w41 ⟨rfl, hv⟩
 refine ⟨_, rfl, ?_⟩
 refine uK rfl (uK rfl ?_)
 refine uA rfl (uW k39 ?_)
 refine rR (bR rfl rfl ?_)
 exact ⟨rfl, ((hv.kp [] 0 5)).weak ((hC.trans hD).trans hE)⟩
end Go.Proofs.YtffnhfkkochnhaaGreatDoor
