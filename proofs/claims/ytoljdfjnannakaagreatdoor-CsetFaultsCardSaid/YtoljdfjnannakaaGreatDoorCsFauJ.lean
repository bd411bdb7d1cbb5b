/- view: options, Pages, Fits. -/
import Derived.Test.YtoljdfjnannakaaGreatDoorCsFauB
import Derived.Test.YtoljdfjnannakaaGreatDoorCsFauG
import Derived.Test.YtoljdfjnannakaaGreatDoorCsFauF
import Derived.Test.YtoljdfjnannakaaGreatDoorCsFauI
import Derived.Test.YtoljdfjnannakaaGreatDoorCsFauE
import Derived.Test.YtoljdfjnannakaaGreatDoorRows
import Derived.Test.YtoljdfjnannakaaGreatDoorCsFauH
set_option maxRecDepth 100000
set_option maxHeartbeats 16000000
set_option synthInstance.maxSize 4096
set_option synthInstance.maxHeartbeats 400000
namespace Go.Proofs.YtoljdfjnannakaaGreatDoor
open Go.RowKit Go.Pm
theorem res_cct {P : Program} {fn : Func} {w : World} {t u : TypeId} {v v' : Value} {r i j : Nat} (h : fn.results = #[.cell r t, .cell i u, .tmp j]) {tmps : Array Value} {ad ad' : Addr} (hr : tmps.getD r undef = .pointer (some ad)) (hl : (Instr.loadAt t (.pointer (some ad))).run P w = .ok v w)
  (hr2 : tmps.getD i undef = .pointer (some ad')) (hl2 : (Instr.loadAt u (.pointer (some ad'))).run P w = .ok v' w) : (results fn tmps).run P w = .ok (.tuple #[v, v', tmps.getD j undef]) w := by
 have hl' : (loadVar t ad).run P w = .ok v w := by simpa [Instr.loadAt, Instr.sureAddr] using hl
 have hr' : tmps[r]?.getD undef = .pointer (some ad) := by rw [← hr, Array.getD_eq_getD_getElem?]
 have hl2' : (loadVar u ad').run P w = .ok v' w := by simpa [Instr.loadAt, Instr.sureAddr] using hl2
 have hr2' : tmps[i]?.getD undef = .pointer (some ad') := by rw [← hr2, Array.getD_eq_getD_getElem?]
 simp [results, h, hr', hr2', asAddr, hl', hl2']
theorem pg_drop (l : List (List UInt8)) (i : Nat) : (textCells l).drop i = textCells (l.drop i) := by simp [textCells]
abbrev wMATCH : List UInt8 := [77, 65, 84, 67, 72]
abbrev wCOUNT : List UInt8 := [67, 79, 85, 78, 84]
theorem is2 {arg a b : List UInt8} {r : Int} (h : IsI arg [a, b] r) : (r = -1 ∧ ¬ SameC a arg ∧ ¬ SameC b arg) ∨ (r = 0 ∧ SameC a arg) ∨ (r = 1 ∧ ¬ SameC a arg ∧ SameC b arg) := by
 rcases h with ⟨rfl, h⟩ | ⟨i, x, rfl, hx, h1, h2⟩
 ·exact .inl ⟨rfl, h a (by simp), h b (by simp)⟩
 match i, hx with
 | 0, hx => cases hx; exact .inr (.inl ⟨rfl, h1⟩)
 | 1, hx => cases hx; exact .inr (.inr ⟨rfl, h2 0 a (by omega) rfl, h1⟩)
inductive OptTo (args : List (List UInt8)) : Nat → List UInt8 → List UInt8 → Bool → Bool → Prop where
 | zero : OptTo args 0 [] [] false false
 | m {i : Nat} {t0 t1 a v : List UInt8} {b1 : Bool} : OptTo args i t0 t1 false b1 → args[i]? = some a → args[i + 1]? = some v → SameC wMATCH a → OptTo args (i + 2) v t1 true b1
 | c {i : Nat} {t0 t1 a v : List UInt8} {b0 : Bool} : OptTo args i t0 t1 b0 false → args[i]? = some a → args[i + 1]? = some v → ¬ SameC wMATCH a → SameC wCOUNT a → OptTo args (i + 2) t0 v b0 true
def OptBad (args : List (List UInt8)) : Prop := args.length % 2 ≠ 0 ∨ ∃ i t0 t1 b0 b1 a, OptTo args i t0 t1 b0 b1 ∧ args[i]? = some a ∧ ((¬ SameC wMATCH a ∧ ¬ SameC wCOUNT a) ∨ (SameC wMATCH a ∧ b0 = true) ∨ (¬ SameC wMATCH a ∧ SameC wCOUNT a ∧ b1 = true))
def OptR (args : List (List UInt8)) (t0 t1 : List UInt8) (b0 b1 : Bool) (ec : Int) : Prop := (ec = 42 ∧ OptBad args) ∨ (ec = 0 ∧ args.length % 2 = 0 ∧ OptTo args args.length t0 t1 b0 b1)
theorem optTo_even {args : List (List UInt8)} {i : Nat} {t0 t1 : List UInt8} {b0 b1 : Bool} (h : OptTo args i t0 t1 b0 b1) : i % 2 = 0 := by
 induction h <;> omega
theorem v8al179 : AL Tryz.prog 179 [vS [], vS []] := fun w => by kernel_rfl
theorem v8al180 : AL Tryz.prog 180 [.bool false, .bool false] := fun w => by kernel_rfl
theorem v8wd179 : Wide Tryz.prog 179 2 := wide_of (fun w => by kernel_rfl) (by kernel_rfl)
theorem v8wd180 : Wide Tryz.prog 180 2 := wide_of (fun w => by kernel_rfl) (by kernel_rfl)
theorem v8sz179 : (Tryz.prog.info? 179).map (·.size) = some 2 := by kernel_rfl
theorem v8sz180 : (Tryz.prog.info? 180).map (·.size) = some 2 := by kernel_rfl
theorem v8callable75 : Callable Tryz.prog 75 := cb Tryz.func75 (by kernel_rfl)
theorem v8ea180 (w : World) : (sizeOf 4).run Tryz.prog w = .ok 1 w := by kernel_rfl
theorem v8ua180 : Tryz.prog.underlying 180 = some (.array 2 4) := by kernel_rfl
theorem v8ea179 (w : World) : (sizeOf 9).run Tryz.prog w = .ok 1 w := by kernel_rfl
theorem v8ua179 : Tryz.prog.underlying 179 = some (.array 2 9) := by kernel_rfl
theorem v8sz4 : (Tryz.prog.info? 4).map (·.size) = some 1 := by kernel_rfl
theorem viewOptions (B : Base) (H : List Res) (w : World) (aa : Option Addr) (ac : Nat) (args : List (List UInt8)) (hra : RdV B [] aa (textCells args)) (hma : args.length ≤ 10000) (hxl : ∀ x ∈ args, x.length ≤ 9223372036854775807) (hv : Inv B H w) :
  Calls Tryz.prog 97 #[.slice aa args.length ac] w fun e w' => ∃ t0 t1 b0 b1 ec, e = .returned (.tuple #[.agg #[vS t0, vS t1], .agg #[.bool b0, .bool b1], vI ec]) ∧ OptR args t0 t1 b0 b1 ec ∧ Inv B H w' := by
 refine cW Tryz.func97 rfl Tryz.ntmps97 ?_
 simp only [al]
 refine sK fun _ k1 => rL (sl_alloc tV (wn rfl) rfl hv v8al179 (fun b2 w3 hv => ?_))
 refine sl_alloc tV (wn rfl) rfl hv v8al180 (fun b4 w5 hv => ?_)
 refine uA rfl (uW k1 ?_)
 refine sK fun _ k6 => sK fun _ k7 => rL (uM rfl ?_)
 refine uG (vI (args.length : Int)) rfl (ex_len0 Tryz.underlying22 rfl rfl) ?_
 refine uG (vI ((args.length % 2 : Nat) : Int)) rfl (ex_rem (m := (args.length : Int)) (n := 2) rfl rfl rfl (by decide) rfl) ?_
 by_cases hb8 : ((args.length % 2 : Nat) : Int) ≠ 0
 ·refine uG (.bool true) rfl (ex_neq rfl rfl rfl (qT hb8)) (uW k7 ?_)
  refine cT rfl (sK fun _ k9 => ?_)
  refine rW mixed [2, 3] [0,1,2,3,4] 45 rfl (by kernel_rfl) hv ?_
  simp only [qm, opAt]
  refine dL (.agg #[vS [], vS []]) rfl (fun hv => ex_load rfl rfl (lM 1 v8wd179 hv rfl rfl rfl rfl)) (dF (.agg #[.bool false, .bool false]) rfl (fun hv => ex_load rfl rfl (lM 0 v8wd180 hv rfl rfl rfl rfl)) fun f10 hf10 => ?_)
  refine dS rfl fun w11 hv => mS 1 rfl hv v8sz179 rfl (by exact ⟨rfl, rfl, trivial⟩) (fun w12 hv => ?_)
  simp only [zS, zO, sp] at hv
  refine dV hv (fC (fun ww hv => hf10 ww ?_) fN) ?_
  ·exact ex_load rfl rfl (lM 0 v8wd180 hv rfl rfl rfl rfl)
  simp only [zP, po]
  refine dS rfl fun w13 hv => mS 0 rfl hv v8sz180 rfl (by exact ⟨rfl, rfl, trivial⟩) (fun w14 hv => ?_)
  simp only [zO, sp] at hv
  refine dV hv (fK rfl fN) (dA (vI 42) rfl ?_)
  refine dE fun w15 hv => ?_
  simp only [zP, po]
  refine tK k9 (rR ?_)
  refine tR (bodyPost_ret (res_cct rfl rfl (lM 1 v8wd179 hv rfl rfl rfl rfl) rfl (lM 0 v8wd180 hv rfl rfl rfl rfl)) rfl ?_)
  exact ⟨[], [], false, false, 42, rfl, .inl ⟨rfl, .inl (by omega)⟩, (hv.kp [] 0 2)⟩
 refine uG (.bool false) rfl (ex_neq rfl rfl rfl (qF hb8)) (uW k7 ?_)
 refine cF rfl (kS ?_)
 refine tK k6 (sK fun _ k16 => ?_)
 refine sK fun _ k17 => rL (uA rfl ?_)
 refine uW k17 (bB ?_)
 gi_loopw [5] (fun x5 wr => ∃ (i : Nat) (t0 t1 : List UInt8) (b0 b1 : Bool), x5 = vI i ∧ i ≤ args.length ∧ OptTo args i t0 t1 b0 b1 ∧ Inv B (Res.cell b2 [vS t0, vS t1] 179 :: Res.cell b4 [.bool b0, .bool b1] 180 :: H) wr) (fun x5 _ => args.length - (intOf x5).toNat)
 case atStart => exact ⟨0, [], [], false, false, rfl, Nat.zero_le _, .zero, (hv.front 1 rfl)⟩
 case round =>
  obtain ⟨i, t0, t1, b0, b1, rfl, hi, hot, hv⟩ := hrel
  have hev : i % 2 = 0 := optTo_even hot
  refine sK fun _ k19 => sK fun _ k20 => rL (uM rfl ?_)
  refine uM rfl ?_
  refine uG (vI (args.length : Int)) rfl (ex_len0 Tryz.underlying22 rfl rfl) ?_
  by_cases hb21 : (i : Int) < (args.length : Int)
  ·refine uG (.bool true) rfl (ex_lss rfl rfl rfl (qT hb21)) (uW k20 ?_)
   refine cT rfl (kS ?_)
   refine tK k19 (sK fun _ k22 => ?_)
   refine bB (sK fun _ k23 => ?_)
   obtain ⟨x, hx⟩ : ∃ x, args[i]? = some x := ⟨_, List.getElem?_eq_getElem (show i < args.length by omega)⟩
   obtain ⟨ab, ao, had, hrdx⟩ := text_reads hra hx
   subst had
   refine rL (uM rfl ?_)
   refine uM rfl ?_
   refine uG (.pointer (some ⟨ab, ao + i, none⟩)) rfl (ex_index rfl rfl rfl (run_idx1 (k := i) Tryz.underlying22 s9es22 (by omega))) ?_
   refine uL _ rfl (run_load1 s9na9 (hrdx _ _ _ (Base.Le.refl _) no_res hv 0 _ rfl)) ?_
   refine sl_rowN (pv := #[(0, vS [77, 65, 84, 67, 72]), (1, vS [67, 79, 85, 78, 84])]) (L := [vS [77, 65, 84, 67, 72], vS [67, 79, 85, 78, 84]]) (e := 9) tV (wn rfl) rfl (by simp only [List.map_toArray, List.map_cons, List.map_nil]; rfl) hv (fun w => by kernel_rfl) (fun b24 w25 hv => ?_)
   obtain ⟨D1, hD1, hv, hrk, -, -⟩ := (hv.cellRow (n := 2) (c := 2) (size := 1) rfl (by decide) (by decide)).rowBy
   refine xC v8callable75 rfl ((viewIs D1 _ _ x _ 2 [[77, 65, 84, 67, 72], [67, 79, 85, 78, 84]] hrk (by simp) (hxl x (List.mem_of_getElem? hx)) hv).mono ?_) rfl
   rintro e w26 ⟨r, rfl, his, hv⟩
   refine ⟨_, rfl, ?_⟩
   replace hv := hv.weak hD1
   rcases is2 his with ⟨rfl, hsm⟩ | ⟨rfl, hsm⟩ | ⟨rfl, hsm⟩
   ·refine uA rfl (uW k23 ?_)
    refine sK fun _ k27 => sK fun _ k28 => rL (uM rfl ?_)
    refine uG (.bool true) rfl (ex_lss rfl rfl rfl (by decide)) (uM rfl ?_)
    iterate 3 refine uP rfl ?_
    refine uK rfl (uW k28 ?_)
    refine cT rfl (sK fun _ k29 => ?_)
    refine rW mixed [2, 3] [0,1,2,3,4] 45 rfl (by kernel_rfl) hv ?_
    simp only [qm, opAt]
    refine dL (.agg #[vS t0, vS t1]) rfl (fun hv => ex_load rfl rfl (lM 0 v8wd179 hv rfl rfl rfl rfl)) (dF (.agg #[.bool b0, .bool b1]) rfl (fun hv => ex_load rfl rfl (lM 1 v8wd180 hv rfl rfl rfl rfl)) fun f30 hf30 => ?_)
    refine dS rfl fun w31 hv => mS 0 rfl hv v8sz179 rfl (by exact ⟨rfl, rfl, trivial⟩) (fun w32 hv => ?_)
    simp only [zO, sp] at hv
    refine dV hv (fC (fun ww hv => hf30 ww ?_) fN) ?_
    ·exact ex_load rfl rfl (lM 1 v8wd180 hv rfl rfl rfl rfl)
    simp only [zP, po]
    refine dS rfl fun w33 hv => mS 1 rfl hv v8sz180 rfl (by exact ⟨rfl, rfl, trivial⟩) (fun w34 hv => ?_)
    simp only [zS, zO, sp] at hv
    refine dV hv (fK rfl fN) (dA (vI 42) rfl ?_)
    refine dE fun w35 hv => ?_
    simp only [zP, po]
    refine tK k29 (rR ?_)
    refine tR (bZ ?_)
    refine tR (tR ?_)
    refine bZ (tR ?_)
    refine bodyPost_ret (res_cct rfl rfl (lM 0 v8wd179 hv rfl rfl rfl rfl) rfl (lM 1 v8wd180 hv rfl rfl rfl rfl)) rfl (⟨t0, t1, b0, b1, 42, rfl, .inl ⟨rfl, .inr ⟨i, t0, t1, b0, b1, x, hot, hx, .inl hsm⟩⟩, (hv.kp [] 0 2)⟩)
   ·refine uA rfl (uW k23 ?_)
    refine sK fun _ k36 => sK fun _ k37 => rL (uM rfl ?_)
    refine uG (.bool false) rfl (ex_lss rfl rfl rfl (by decide)) (uM rfl ?_)
    refine uM rfl ?_
    refine uG (vP b4) rfl (ex_index rfl rfl rfl (run_idxA1 (k := 0) v8ua180 v8ea180 (by omega))) ?_
    refine uL _ rfl (run_load1 s2na4 (hv.load 1 0 rfl rfl)) (uK rfl ?_)
    refine uW k37 (wpIn_cond_split (t := b0) rfl (fun hc38 => ?_) (fun hc38 => ?_))
    ·refine sK fun _ k39 => rW mixed [2, 3] [0,1,2,3,4] 45 rfl (by kernel_rfl) hv ?_
     simp only [qm, opAt]
     refine dL (.agg #[vS t0, vS t1]) rfl (fun hv => ex_load rfl rfl (lM 0 v8wd179 hv rfl rfl rfl rfl)) (dF (.agg #[.bool b0, .bool b1]) rfl (fun hv => ex_load rfl rfl (lM 1 v8wd180 hv rfl rfl rfl rfl)) fun f40 hf40 => ?_)
     refine dS rfl fun w41 hv => mS 0 rfl hv v8sz179 rfl (by exact ⟨rfl, rfl, trivial⟩) (fun w42 hv => ?_)
     simp only [zO, sp] at hv
     refine dV hv (fC (fun ww hv => hf40 ww ?_) fN) ?_
     ·exact ex_load rfl rfl (lM 1 v8wd180 hv rfl rfl rfl rfl)
     simp only [zP, po]
     refine dS rfl fun w43 hv => mS 1 rfl hv v8sz180 rfl (by exact ⟨rfl, rfl, trivial⟩) (fun w44 hv => ?_)
     simp only [zS, zO, sp] at hv
     refine dV hv (fK rfl fN) (dA (vI 42) rfl ?_)
     refine dE fun w45 hv => ?_
     simp only [zP, po]
     refine tK k39 (rR ?_)
     refine tR (bZ ?_)
     refine tR (tR ?_)
     refine bZ (tR ?_)
     refine bodyPost_ret (res_cct rfl rfl (lM 0 v8wd179 hv rfl rfl rfl rfl) rfl (lM 1 v8wd180 hv rfl rfl rfl rfl)) rfl (⟨t0, t1, b0, b1, 42, rfl, .inl ⟨rfl, .inr ⟨i, t0, t1, b0, b1, x, hot, hx, .inr (.inl ⟨hsm, hc38⟩)⟩⟩, (hv.kp [] 0 2)⟩)
    refine kS (tK k36 ?_)
    obtain ⟨x2, hx2⟩ : ∃ x, args[(i + 1 : Nat)]? = some x := ⟨_, List.getElem?_eq_getElem (show (i + 1 : Nat) < args.length by omega)⟩
    obtain ⟨b9, o9, had9, hrdx2⟩ := text_reads hra hx2
    cases had9
    refine rL (uM rfl ?_)
    refine uM rfl (uM rfl ?_)
    refine uM rfl ?_
    refine uG (vI ((i + 1 : Nat) : Int)) rfl (ex_add rfl rfl rfl (by rw [i64_in (by omega)]; omega)) ?_
    refine uG (.pointer (some ⟨ab, ao + (i + 1 : Nat), none⟩)) rfl (ex_index rfl rfl rfl (run_idx1 (k := (i + 1 : Nat)) Tryz.underlying22 s9es22 (by omega))) ?_
    refine uL _ rfl (run_load1 s9na9 (hrdx2 _ _ _ (Base.Le.refl _) no_res hv 0 _ rfl)) ?_
    refine uG (vP b2) rfl (ex_index rfl rfl rfl (run_idxA1 (k := 0) v8ua179 v8ea179 (by omega))) ?_
    refine xV 0 (vS x2) rfl hv s12sz9 rfl rfl (fun w46 hv => ?_)
    simp only [zO, sp] at hv
    refine uG (vP b4) rfl (ex_index rfl rfl rfl (run_idxA1 (k := 0) v8ua180 v8ea180 (by omega))) ?_
    refine xV 1 (.bool true) rfl hv v8sz4 rfl rfl (fun w47 hv => ?_)
    simp only [zS, zO, sp] at hv
    refine uZ (bN ?_)
    refine tK k22 (rL ?_)
    refine uM rfl ?_
    refine uG (vI ((i + 2 : Nat) : Int)) rfl (ex_add rfl rfl rfl (by rw [i64_in (by omega)]; omega)) (uA rfl ?_)
    refine uZ (then_normal ?_)
    go_roundw
    case rel => exact ⟨i + 2, x2, t1, true, b1, rfl, by omega, .m (by rw [hc38] at hot; exact hot) hx hx2 hsm, ((hv.front 1 rfl).front 1 rfl)⟩
    case measure => show args.length - (((i + 2 : Nat) : Int)).toNat < args.length - ((i : Int)).toNat; omega
   refine uA rfl (uW k23 ?_)
   refine sK fun _ k48 => sK fun _ k49 => rL (uM rfl ?_)
   refine uG (.bool false) rfl (ex_lss rfl rfl rfl (by decide)) (uM rfl ?_)
   refine uM rfl ?_
   refine uG (.pointer (some ⟨b4, 1, none⟩)) rfl (ex_index rfl rfl rfl (run_idxA1 (k := 1) v8ua180 v8ea180 (by omega))) ?_
   refine uL _ rfl (run_load1 s2na4 (hv.load 1 1 rfl rfl)) (uK rfl ?_)
   refine uW k49 (wpIn_cond_split (t := b1) rfl (fun hc50 => ?_) (fun hc50 => ?_))
   ·refine sK fun _ k51 => rW mixed [2, 3] [0,1,2,3,4] 45 rfl (by kernel_rfl) hv ?_
    simp only [qm, opAt]
    refine dL (.agg #[vS t0, vS t1]) rfl (fun hv => ex_load rfl rfl (lM 0 v8wd179 hv rfl rfl rfl rfl)) (dF (.agg #[.bool b0, .bool b1]) rfl (fun hv => ex_load rfl rfl (lM 1 v8wd180 hv rfl rfl rfl rfl)) fun f52 hf52 => ?_)
    refine dS rfl fun w53 hv => mS 0 rfl hv v8sz179 rfl (by exact ⟨rfl, rfl, trivial⟩) (fun w54 hv => ?_)
    simp only [zO, sp] at hv
    refine dV hv (fC (fun ww hv => hf52 ww ?_) fN) ?_
    ·exact ex_load rfl rfl (lM 1 v8wd180 hv rfl rfl rfl rfl)
    simp only [zP, po]
    refine dS rfl fun w55 hv => mS 1 rfl hv v8sz180 rfl (by exact ⟨rfl, rfl, trivial⟩) (fun w56 hv => ?_)
    simp only [zS, zO, sp] at hv
    refine dV hv (fK rfl fN) (dA (vI 42) rfl ?_)
    refine dE fun w57 hv => ?_
    simp only [zP, po]
    refine tK k51 (rR ?_)
    refine tR (bZ ?_)
    refine tR (tR ?_)
    refine bZ (tR ?_)
    refine bodyPost_ret (res_cct rfl rfl (lM 0 v8wd179 hv rfl rfl rfl rfl) rfl (lM 1 v8wd180 hv rfl rfl rfl rfl)) rfl (⟨t0, t1, b0, b1, 42, rfl, .inl ⟨rfl, .inr ⟨i, t0, t1, b0, b1, x, hot, hx, .inr (.inr ⟨hsm.1, hsm.2, hc50⟩)⟩⟩, (hv.kp [] 0 2)⟩)
   refine kS (tK k48 ?_)
   obtain ⟨x2, hx2⟩ : ∃ x, args[(i + 1 : Nat)]? = some x := ⟨_, List.getElem?_eq_getElem (show (i + 1 : Nat) < args.length by omega)⟩
   obtain ⟨b9, o9, had9, hrdx2⟩ := text_reads hra hx2
   cases had9
   refine rL (uM rfl ?_)
   refine uM rfl (uM rfl ?_)
   refine uM rfl ?_
   refine uG (vI ((i + 1 : Nat) : Int)) rfl (ex_add rfl rfl rfl (by rw [i64_in (by omega)]; omega)) ?_
   refine uG (.pointer (some ⟨ab, ao + (i + 1 : Nat), none⟩)) rfl (ex_index rfl rfl rfl (run_idx1 (k := (i + 1 : Nat)) Tryz.underlying22 s9es22 (by omega))) ?_
   refine uL _ rfl (run_load1 s9na9 (hrdx2 _ _ _ (Base.Le.refl _) no_res hv 0 _ rfl)) ?_
   refine uG (.pointer (some ⟨b2, 1, none⟩)) rfl (ex_index rfl rfl rfl (run_idxA1 (k := 1) v8ua179 v8ea179 (by omega))) ?_
   refine xV 0 (vS x2) rfl hv s12sz9 rfl rfl (fun w58 hv => ?_)
   simp only [zO, sp] at hv
   refine uG (.pointer (some ⟨b4, 1, none⟩)) rfl (ex_index rfl rfl rfl (run_idxA1 (k := 1) v8ua180 v8ea180 (by omega))) ?_
   refine xV 1 (.bool true) rfl hv v8sz4 rfl rfl (fun w59 hv => ?_)
   simp only [zS, zO, sp] at hv
   refine uZ (bN ?_)
   refine tK k22 (rL ?_)
   refine uM rfl ?_
   refine uG (vI ((i + 2 : Nat) : Int)) rfl (ex_add rfl rfl rfl (by rw [i64_in (by omega)]; omega)) (uA rfl ?_)
   refine uZ (then_normal ?_)
   go_roundw
   case rel => exact ⟨i + 2, t0, x2, b0, true, rfl, by omega, .c (by rw [hc50] at hot; exact hot) hx hx2 hsm.1 hsm.2, ((hv.front 1 rfl).front 1 rfl)⟩
   case measure => show args.length - (((i + 2 : Nat) : Int)).toNat < args.length - ((i : Int)).toNat; omega
  refine uG (.bool false) rfl (ex_lss rfl rfl rfl (qF hb21)) (uW k20 ?_)
  refine cF rfl (xE ?_)
  refine tX (tX ?_)
  refine bH (tK k16 ?_)
  refine sK fun _ k60 => rW mixed [2, 3] [0,1,2,3,4] 45 rfl (by kernel_rfl) hv ?_
  simp only [qm, opAt]
  refine dL (.agg #[vS t0, vS t1]) rfl (fun hv => ex_load rfl rfl (lM 0 v8wd179 hv rfl rfl rfl rfl)) (dF (.agg #[.bool b0, .bool b1]) rfl (fun hv => ex_load rfl rfl (lM 1 v8wd180 hv rfl rfl rfl rfl)) fun f61 hf61 => ?_)
  refine dS rfl fun w62 hv => mS 0 rfl hv v8sz179 rfl (by exact ⟨rfl, rfl, trivial⟩) (fun w63 hv => ?_)
  simp only [zO, sp] at hv
  refine dV hv (fC (fun ww hv => hf61 ww ?_) fN) ?_
  ·exact ex_load rfl rfl (lM 1 v8wd180 hv rfl rfl rfl rfl)
  simp only [zP, po]
  refine dS rfl fun w64 hv => mS 1 rfl hv v8sz180 rfl (by exact ⟨rfl, rfl, trivial⟩) (fun w65 hv => ?_)
  simp only [zS, zO, sp] at hv
  refine dV hv (fK rfl fN) (dA (vI 0) rfl ?_)
  refine dE fun w66 hv => ?_
  simp only [zP, po]
  refine tK k60 (rR ?_)
  refine bodyPost_ret (res_cct rfl rfl (lM 0 v8wd179 hv rfl rfl rfl rfl) rfl (lM 1 v8wd180 hv rfl rfl rfl rfl)) rfl ?_
  obtain rfl : i = args.length := by omega
  exact ⟨t0, t1, b0, b1, 0, rfl, .inr ⟨rfl, by omega, hot⟩, (hv.kp [] 0 2)⟩
def cntOf (t1 : List UInt8) (b1 : Bool) : List UInt8 := if b1 then t1 else [49, 48]
def PageR (n : Int) (args : List (List UInt8)) (fr to nx : Int) (mt : List UInt8) (ec : Int) : Prop :=
 (ec = 43 ∧ args = []) ∨
 ∃ a0 rest, args = a0 :: rest ∧ ((ec = 42 ∧ OptBad rest) ∨ ∃ t0 t1 b0 b1, OptR rest t0 t1 b0 b1 0 ∧
  ((ec = 41 ∧ (NumP a0 0 false ∨ NumP (cntOf t1 b1) 0 false)) ∨ ∃ k c : Int, NumP a0 k true ∧ NumP (cntOf t1 b1) c true ∧
   ((ec = 44 ∧ (k < 0 ∨ c < 1)) ∨ (ec = 0 ∧ 0 ≤ k ∧ 1 ≤ c ∧ mt = (if b0 then t0 else [42]) ∧ fr = min k (max n 0) ∧ to = fr + min c (max n 0 - fr) ∧ nx = (if to < max n 0 then to else 0)))))
theorem PageR.bounds {n fr to nx ec : Int} {args : List (List UInt8)} {mt : List UInt8} (h : PageR n args fr to nx mt ec) (h0 : ec = 0) : 0 ≤ fr ∧ fr ≤ to ∧ to ≤ max n 0 := by
 rcases h with ⟨h1, -⟩ | ⟨a0, rest, -, ⟨h1, -⟩ | ⟨t0, t1, b0, b1, -, ⟨h1, -⟩ | ⟨k, c, -, -, ⟨h1, -⟩ | ⟨-, h1, h2, -, h3, h4, -⟩⟩⟩⟩
 all_goals omega
theorem numP_rng {s : List UInt8} {n : Int} (h : NumP s n true) : -9223372036854775808 ≤ n ∧ n ≤ 9223372036854775807 := h.elim (fun h => ⟨h.2.1, h.2.2.1⟩) (fun h => absurd h.1 (by decide))
theorem ints_two {s t : List UInt8} {ns : List Int} {ec : Int} (h : IntsR [s, t] ns ec) : (ec = 0 ∧ ∃ n m, ns = [n, m] ∧ NumP s n true ∧ NumP t m true) ∨ (ec = 41 ∧ ns = [] ∧ (NumP s 0 false ∨ NumP t 0 false)) := by
 rcases h with ⟨h1, h2, h3⟩ | ⟨h1, h2, x, hx, h3⟩
 ·match ns, h2 with
  | [n, m], _ => exact .inl ⟨h1, n, m, rfl, h3 0 s n rfl rfl, h3 1 t m rfl rfl⟩
 rcases List.mem_cons.1 hx with rfl | hx
 ·exact .inr ⟨h1, h2, .inl h3⟩
 rw [List.mem_singleton.1 hx] at h3; exact .inr ⟨h1, h2, .inr h3⟩
theorem v8al155 : AL Tryz.prog 155 [vI 0, vI 0, vI 0, vS []] := fun w => by kernel_rfl
theorem v8sz155 : (Tryz.prog.info? 155).map (·.size) = some 4 := by kernel_rfl
theorem v8wd155 : Wide Tryz.prog 155 4 := wide_of (fun w => by kernel_rfl) (by kernel_rfl)
theorem v8callable97 : Callable Tryz.prog 97 := cb Tryz.func97 (by kernel_rfl)
theorem v8callable74 : Callable Tryz.prog 74 := cb Tryz.func74 (by kernel_rfl)
theorem v8fa155_0 : FA Tryz.prog 155 0 0 := fun w b o => by kernel_rfl
theorem v8fa155_1 : FA Tryz.prog 155 1 1 := fun w b o => by kernel_rfl
theorem v8fa155_2 : FA Tryz.prog 155 2 2 := fun w b o => by kernel_rfl
theorem viewPages (B : Base) (H : List Res) (w : World) (n : Int) (hn0 : -9223372036854775808 ≤ n) (hn1 : n ≤ 9223372036854775807) (aa : Option Addr) (ac : Nat) (args : List (List UInt8)) (hra : RdV B [] aa (textCells args)) (hma : args.length ≤ 10000) (hxl : ∀ x ∈ args, x.length ≤ 9223372036854775807) (hoka : SliceOk aa args.length ac) (hN : NumB B) (hv : Inv B H w) :
  Calls Tryz.prog 77 #[vI n, .slice aa args.length ac] w fun e w' => ∃ fr to nx mt ec, e = .returned (.tuple #[.agg #[vI fr, vI to, vI nx, vS mt], vI ec]) ∧ PageR n args fr to nx mt ec ∧ Inv B H w' := by
 refine cW Tryz.func77 rfl Tryz.ntmps77 ?_
 simp only [al]
 refine sK fun _ k1 => rL (sl_alloc tV (wn rfl) rfl hv v8al155 (fun b2 w3 hv => ?_))
 refine uA rfl (uW k1 ?_)
 refine sK fun _ k4 => sK fun _ k5 => rL (uM rfl ?_)
 refine uG (vI (args.length : Int)) rfl (ex_len0 Tryz.underlying22 rfl rfl) ?_
 by_cases hb6 : (args.length : Int) = 0
 ·refine uG (.bool true) rfl (ex_eql rfl rfl rfl (qT hb6)) (uW k5 ?_)
  refine cT rfl (sK fun _ k7 => ?_)
  refine rL (uG (.agg #[vI 0, vI 0, vI 0, vS []]) rfl (ex_buildN (vs := #[]) rfl (by simp only [List.map_toArray, List.map_nil]) (by kernel_rfl)) ?_)
  refine xS 0 rfl hv v8sz155 rfl (by exact ⟨rfl, rfl, rfl, rfl, trivial⟩) (fun w8 hv => ?_)
  simp only [zO, sp] at hv
  refine uA rfl (uW k7 ?_)
  refine rR (tR ?_)
  refine bodyPost_ret (res_cell2 rfl rfl (lM 0 v8wd155 hv rfl rfl rfl rfl)) rfl (⟨0, 0, 0, [], 43, rfl, .inl ⟨rfl, List.eq_nil_of_length_eq_zero (by omega)⟩, ((hv.kp [] 0 1)).weak (Base.Le.refl _)⟩)
 refine uG (.bool false) rfl (ex_eql rfl rfl rfl (qF hb6)) (uW k5 ?_)
 refine cF rfl (kS ?_)
 refine tK k4 (sK fun _ k9 => ?_)
 have hal : 1 ≤ args.length := by omega
 have hd1 : (args.drop 1).length = args.length - 1 := List.length_drop
 obtain ⟨a3, c3, ha3, ok3, hr3⟩ := sliced_fromV 1 hoka hra (textCells_len args) hal (by decide)
 rw [Nat.mul_one, pg_drop] at hr3
 obtain ⟨a0, rest, hargs⟩ : ∃ a l, args = a :: l := by cases args with | nil => simp at hal | cons a l => exact ⟨a, l, rfl⟩
 have hdr : args.drop 1 = rest := by rw [hargs]; rfl
 refine rL (uM rfl ?_)
 refine uG (.slice a3 ((args.drop 1).length) c3) rfl (ex_slice (lo' := some (vI ((1 : Nat) : Int))) rfl rfl (congrArg some rfl) rfl rfl ((run_fromAny Tryz.underlying22 s9es22 (by omega)).trans (by rw [ha3, hd1]))) ?_
 refine xC v8callable97 rfl ((viewOptions B _ _ a3 c3 (args.drop 1) hr3 (by omega) (fun x hx => hxl x (List.mem_of_mem_drop hx)) hv).mono ?_) rfl
 rintro e w10 ⟨t0, t1, b0, b1, eo, rfl, hopt, hv⟩
 refine ⟨_, rfl, uM rfl ?_⟩
 refine uE rfl (uE rfl ?_)
 refine uE rfl ?_
 refine sl_alloc tV (wn rfl) rfl hv v8al179 (fun b11 w12 hv => ?_)
 refine sl_alloc tV (wn rfl) rfl hv v8al180 (fun b13 w14 hv => ?_)
 simp only [zP, po]
 refine xS 1 rfl hv v8sz179 rfl (by exact ⟨rfl, rfl, trivial⟩) (fun w15 hv => ?_)
 simp only [zS, zO, sp] at hv
 refine xS 0 rfl hv v8sz180 rfl (by exact ⟨rfl, rfl, trivial⟩) (fun w16 hv => ?_)
 simp only [zO, sp] at hv
 refine uA rfl (uW k9 ?_)
 refine sK fun _ k17 => sK fun _ k18 => rL (uM rfl ?_)
 by_cases hb19 : eo ≠ 0
 ·refine uG (.bool true) rfl (ex_neq rfl rfl rfl (qT hb19)) (uW k18 ?_)
  refine cT rfl (sK fun _ k20 => ?_)
  refine rL (uG (.agg #[vI 0, vI 0, vI 0, vS []]) rfl (ex_buildN (vs := #[]) rfl (by simp only [List.map_toArray, List.map_nil]) (by kernel_rfl)) ?_)
  refine uM rfl ?_
  refine xS 2 rfl hv v8sz155 rfl (by exact ⟨rfl, rfl, rfl, rfl, trivial⟩) (fun w21 hv => ?_)
  simp only [zS, zO, sp] at hv
  refine uA rfl (uW k20 ?_)
  refine rR (tR ?_)
  refine bodyPost_ret (res_cell2 rfl rfl (lM 2 v8wd155 hv rfl rfl rfl rfl)) rfl ?_
  rw [hdr] at hopt
  refine ⟨0, 0, 0, [], eo, rfl, .inr ⟨a0, rest, hargs, .inl ?_⟩, ((hv.kp [] 0 3)).weak (Base.Le.refl _)⟩
  rcases hopt with ⟨h1, h2⟩ | ⟨h1, -⟩
  ·exact ⟨h1, h2⟩
  omega
 refine uG (.bool false) rfl (ex_neq rfl rfl rfl (qF hb19)) (uW k18 ?_)
 refine cF rfl (kS ?_)
 refine tK k17 (sK fun _ k22 => ?_)
 refine rL (uA rfl ?_)
 refine uA rfl (uW k22 ?_)
 refine sK fun K23 k23 => ?_
 have hJ23 : ∀ (mt : List UInt8) (j28 j29 j30 j31 : Value) (w24 : World), (mt = (if b0 then t0 else [42])) → Inv B (Res.cell b13 [.bool b0, .bool b1] 180 :: Res.cell b11 [vS t0, vS t1] 179 :: Res.cell b2 [vI 0, vI 0, vI 0, vS []] 155 :: H) w24 → K23 { tmps := List.toArray (vI n :: .slice aa args.length ac :: undef :: undef :: vP b2 :: vI 0 :: vP b11 :: vP b13 :: vI eo :: vS mt :: vS [49, 48] :: undef :: undef :: .slice aa args.length ac :: vI (args.length : Int) :: .bool false :: undef :: .tuple #[.agg #[vS t0, vS t1], .agg #[.bool b0, .bool b1], vI eo] :: .slice aa args.length ac :: .slice a3 ((args.drop 1).length) c3 :: .tuple #[.agg #[vS t0, vS t1], .agg #[.bool b0, .bool b1], vI eo] :: .agg #[vS t0, vS t1] :: .agg #[.bool b0, .bool b1] :: vI eo :: vI eo :: .bool false :: undef :: undef :: j28 :: j29 :: j30 :: j31 :: undef :: undef :: undef :: undef :: undef :: undef :: undef :: undef :: undef :: undef :: undef :: undef :: undef :: undef :: undef :: undef :: undef :: undef :: undef :: undef :: undef :: undef :: undef :: undef :: undef :: undef :: undef :: undef :: undef :: undef :: undef :: undef :: undef :: undef :: undef :: undef :: undef :: undef :: undef :: undef :: undef :: undef :: undef :: undef :: undef :: undef :: undef :: undef :: undef :: undef :: undef :: undef :: undef :: undef :: undef :: undef :: undef :: []), defers := [] } w24 := by
  intro mt j28 j29 j30 j31 w24 hmt hv
  refine k23 _ _ (sK fun K25 k25 => ?_)
  have hJ25 : ∀ (cnt : List UInt8) (j32 j33 j34 j35 : Value) (w26 : World), (cntOf t1 b1 = cnt) → Inv B (Res.cell b13 [.bool b0, .bool b1] 180 :: Res.cell b11 [vS t0, vS t1] 179 :: Res.cell b2 [vI 0, vI 0, vI 0, vS []] 155 :: H) w26 → K25 { tmps := List.toArray (vI n :: .slice aa args.length ac :: undef :: undef :: vP b2 :: vI 0 :: vP b11 :: vP b13 :: vI eo :: vS mt :: vS cnt :: undef :: undef :: .slice aa args.length ac :: vI (args.length : Int) :: .bool false :: undef :: .tuple #[.agg #[vS t0, vS t1], .agg #[.bool b0, .bool b1], vI eo] :: .slice aa args.length ac :: .slice a3 ((args.drop 1).length) c3 :: .tuple #[.agg #[vS t0, vS t1], .agg #[.bool b0, .bool b1], vI eo] :: .agg #[vS t0, vS t1] :: .agg #[.bool b0, .bool b1] :: vI eo :: vI eo :: .bool false :: undef :: undef :: j28 :: j29 :: j30 :: j31 :: j32 :: j33 :: j34 :: j35 :: undef :: undef :: undef :: undef :: undef :: undef :: undef :: undef :: undef :: undef :: undef :: undef :: undef :: undef :: undef :: undef :: undef :: undef :: undef :: undef :: undef :: undef :: undef :: undef :: undef :: undef :: undef :: undef :: undef :: undef :: undef :: undef :: undef :: undef :: undef :: undef :: undef :: undef :: undef :: undef :: undef :: undef :: undef :: undef :: undef :: undef :: undef :: undef :: undef :: undef :: undef :: undef :: undef :: []), defers := [] } w26 := by
   intro cnt j32 j33 j34 j35 w26 hcn hv
   refine k25 _ _ (sK fun _ k27 => ?_)
   obtain ⟨ab, ao, had, hrdx0⟩ := text_reads hra (show args[0]? = some a0 by rw [hargs]; rfl)
   subst had
   refine rL (uM rfl ?_)
   refine uG (.pointer (some ⟨ab, ao + 0, none⟩)) rfl (ex_index rfl rfl rfl (run_idx1 (k := 0) Tryz.underlying22 s9es22 (by omega))) ?_
   refine uL _ rfl (run_load1 s9na9 (hrdx0 _ _ _ (Base.Le.refl _) no_res hv 0 _ rfl)) (uM rfl ?_)
   refine sl_rowN (pv := #[(0, vS a0), (1, vS cnt)]) (L := [vS a0, vS cnt]) (e := 9) tV (wn rfl) rfl (by simp only [List.map_toArray, List.map_cons, List.map_nil]; rfl) hv (fun w => by kernel_rfl) (fun b28 w29 hv => ?_)
   obtain ⟨D1, hD1, hv, hrk, -, -⟩ := (hv.cellRow (n := 2) (c := 2) (size := 1) rfl (by decide) (by decide)).rowBy
   refine xC v8callable74 rfl ((viewInts D1 _ _ _ 2 [a0, cnt] hrk (by simp) (hN.more hD1) hv).mono ?_) rfl
   rintro e w30 ⟨E, ia, ic, ns, ei, hE, rfl, hri, hir, hv⟩
   refine ⟨_, rfl, ?_⟩
   have heo : eo = 0 := by omega
   subst heo
   rcases ints_two hir with ⟨rfl, n0, n1, rfl, hn0, hn1⟩ | ⟨rfl, rfl, hnb⟩
   ·have hr0 := numP_rng hn0
    have hr1 := numP_rng hn1
    obtain ⟨ib, io, had, hrd0⟩ := int_reads hri (show [n0, n1][0]? = some n0 from rfl)
    obtain ⟨ib9, io9, had9, hrd1⟩ := int_reads hri (show [n0, n1][1]? = some n1 from rfl)
    subst had
    cases had9
    refine uG (.tuple #[.slice (some ⟨ib, io, none⟩) 2 ic, vI 0]) rfl (ex_move rfl rfl) ?_
    refine uG (.slice (some ⟨ib, io, none⟩) 2 ic) rfl (ex_extract rfl rfl rfl) (uE rfl ?_)
    refine uA rfl (uA rfl ?_)
    refine uW k27 (sK fun _ k31 => ?_)
    refine sK fun _ k32 => rL (uM rfl ?_)
    refine uG (.bool false) rfl (ex_neq rfl rfl rfl (by decide)) (uW k32 ?_)
    refine cF rfl (kS ?_)
    refine tK k31 (sK fun _ k33 => ?_)
    refine sK fun _ k34 => rL (uG (.slice (some ⟨ib, io, none⟩) 2 ic) rfl (ex_move rfl rfl) ?_)
    refine uG (.pointer (some ⟨ib, io + 0, none⟩)) rfl (ex_index rfl rfl rfl (run_idx1 (k := 0) Tryz.underlying149 s11es149 (by omega))) ?_
    refine uL _ rfl (run_load1 s2na3 (hrd0 _ _ _ (Base.Le.refl _) no_res hv 0 _ rfl)) ?_
    by_cases hb35 : n0 < 0
    ·refine uG (.bool true) rfl (ex_lss rfl rfl rfl (qT hb35)) (uM rfl ?_)
     iterate 4 refine uP rfl ?_
     refine uK rfl (uW k34 ?_)
     refine cT rfl (sK fun _ k36 => ?_)
     refine rL (uG (.agg #[vI 0, vI 0, vI 0, vS []]) rfl (ex_buildN (vs := #[]) rfl (by simp only [List.map_toArray, List.map_nil]) (by kernel_rfl)) ?_)
     refine xS 2 rfl hv v8sz155 rfl (by exact ⟨rfl, rfl, rfl, rfl, trivial⟩) (fun w37 hv => ?_)
     simp only [zS, zO, sp] at hv
     refine uA rfl (uW k36 ?_)
     refine rR (tR ?_)
     refine bodyPost_ret (res_cell2 rfl rfl (lM 2 v8wd155 hv rfl rfl rfl rfl)) rfl ?_
     rw [hdr] at hopt
     have hn1c : NumP (cntOf t1 b1) n1 true := by rw [hcn]; exact hn1
     exact ⟨0, 0, 0, [], 44, rfl, .inr ⟨a0, rest, hargs, .inr ⟨t0, t1, b0, b1, hopt, .inr ⟨n0, n1, hn0, hn1c, .inl ⟨rfl, by omega⟩⟩⟩⟩, ((hv.kp [] 0 3)).weak (hD1.trans hE)⟩
    refine uG (.bool false) rfl (ex_lss rfl rfl rfl (qF hb35)) (uM rfl ?_)
    refine uG (.slice (some ⟨ib, io, none⟩) 2 ic) rfl (ex_move rfl rfl) ?_
    refine uG (.pointer (some ⟨ib, io + 1, none⟩)) rfl (ex_index rfl rfl rfl (run_idx1 (k := 1) Tryz.underlying149 s11es149 (by omega))) ?_
    refine uL _ rfl (run_load1 s2na3 (hrd1 _ _ _ (Base.Le.refl _) no_res hv 0 _ rfl)) ?_
    by_cases hb38 : n1 < 1
    ·refine uG (.bool true) rfl (ex_lss rfl rfl rfl (qT hb38)) (uK rfl ?_)
     refine uW k34 (cT rfl ?_)
     refine sK fun _ k39 => rL (uG (.agg #[vI 0, vI 0, vI 0, vS []]) rfl (ex_buildN (vs := #[]) rfl (by simp only [List.map_toArray, List.map_nil]) (by kernel_rfl)) ?_)
     refine xS 2 rfl hv v8sz155 rfl (by exact ⟨rfl, rfl, rfl, rfl, trivial⟩) (fun w40 hv => ?_)
     simp only [zS, zO, sp] at hv
     refine uA rfl (uW k39 ?_)
     refine rR (tR ?_)
     refine bodyPost_ret (res_cell2 rfl rfl (lM 2 v8wd155 hv rfl rfl rfl rfl)) rfl ?_
     rw [hdr] at hopt
     have hn1c : NumP (cntOf t1 b1) n1 true := by rw [hcn]; exact hn1
     exact ⟨0, 0, 0, [], 44, rfl, .inr ⟨a0, rest, hargs, .inr ⟨t0, t1, b0, b1, hopt, .inr ⟨n0, n1, hn0, hn1c, .inl ⟨rfl, by omega⟩⟩⟩⟩, ((hv.kp [] 0 3)).weak (hD1.trans hE)⟩
    refine uG (.bool false) rfl (ex_lss rfl rfl rfl (qF hb38)) (uK rfl ?_)
    refine uW k34 (cF rfl ?_)
    refine kS (tK k33 ?_)
    refine sK fun _ k41 => rL (uM rfl ?_)
    refine uG (vI (max n 0)) rfl (ex_max2 (m := n) (n := 0) rfl rfl rfl (by split <;> omega)) (uA rfl ?_)
    refine uW k41 (sK fun _ k42 => ?_)
    have hk0 : 0 ≤ n0 := by omega
    have hk1 : 1 ≤ n1 := by omega
    refine rL (uG (.slice (some ⟨ib, io, none⟩) 2 ic) rfl (ex_move rfl rfl) ?_)
    refine uG (.pointer (some ⟨ib, io + 0, none⟩)) rfl (ex_index rfl rfl rfl (run_idx1 (k := 0) Tryz.underlying149 s11es149 (by omega))) ?_
    refine uL _ rfl (run_load1 s2na3 (hrd0 _ _ _ (Base.Le.refl _) no_res hv 0 _ rfl)) (uM rfl ?_)
    refine uG (vI (min n0 (max n 0))) rfl (ex_min2 (m := n0) (n := (max n 0)) rfl rfl rfl (by split <;> omega)) (uM rfl ?_)
    refine uG (.agg #[vI (min n0 (max n 0)), vI 0, vI 0, vS mt]) rfl (ex_buildN (vs := #[(0, vI (min n0 (max n 0))), (3, vS mt)]) rfl (by simp only [List.map_toArray, List.map_cons, List.map_nil]; rfl) (by kernel_rfl)) ?_
    refine sl_alloc tV (wn rfl) rfl hv v8al155 (fun b43 w44 hv => ?_)
    refine xS 0 rfl hv v8sz155 rfl (by exact ⟨rfl, rfl, rfl, rfl, trivial⟩) (fun w45 hv => ?_)
    simp only [zO, sp] at hv
    refine uW k42 (sK fun _ k46 => ?_)
    refine rW mixed [12] [0,1,2,3,4,5,6,7,8,9,10,11,12] 89 rfl (by kernel_rfl) hv ?_
    simp only [qm, opAt]
    refine dG (vP b43) rfl (ex_field rfl rfl (v8fa155_0 _ _ _)) (dL _ rfl (fun hv => ex_load rfl rfl (run_load1 s2na3 (hv.load 0 0 rfl rfl))) ?_)
    refine dM (.slice (some ⟨ib, io, none⟩) 2 ic) rfl ?_
    simp only [zP, po]
    refine dG (.pointer (some ⟨ib, io + 1, none⟩)) rfl (ex_index rfl rfl rfl (run_idx1 (k := 1) Tryz.underlying149 s11es149 (by omega))) (dL _ rfl (fun hv => ex_load rfl rfl (run_load1 s2na3 (hrd1 _ _ _ (Base.Le.refl _) no_res hv 0 _ rfl))) ?_)
    refine dM (vI (max n 0)) rfl ?_
    simp only [zP, po]
    refine dG (vP b43) rfl (ex_field rfl rfl (v8fa155_0 _ _ _)) (dL _ rfl (fun hv => ex_load rfl rfl (run_load1 s2na3 (hv.load 0 0 rfl rfl))) ?_)
    refine dG (vI (max n 0 - (min n0 (max n 0)))) rfl (ex_sub rfl rfl rfl (by rw [i64_in (by omega)])) ?_
    simp only [zP, po]
    refine dG (vI (min n1 (max n 0 - (min n0 (max n 0))))) rfl (ex_min2 (m := n1) (n := (max n 0 - (min n0 (max n 0)))) rfl rfl rfl (by split <;> omega)) (dG (vI ((min n0 (max n 0)) + min n1 (max n 0 - (min n0 (max n 0))))) rfl (ex_add rfl rfl rfl (by rw [i64_in (by omega)])) ?_)
    refine dG (.pointer (some ⟨b43, 1, none⟩)) rfl (ex_field rfl rfl (v8fa155_1 _ _ _)) ?_
    simp only [zP, po]
    refine dS rfl fun w47 hv => mV 0 (vI ((min n0 (max n 0)) + min n1 (max n 0 - (min n0 (max n 0))))) rfl hv x3sz3 rfl rfl (fun w48 hv => ?_)
    simp only [zO, sp] at hv
    refine dW hv (dE fun w49 hv => ?_)
    simp only [zP, po]
    refine tK k46 (sK fun _ k50 => ?_)
    refine sK fun _ k51 => rL (uF (.pointer (some ⟨b43, 1, none⟩)) rfl (v8fa155_1 _ _ _) ?_)
    refine uL _ rfl (run_load1 s2na3 (hv.load 0 1 rfl rfl)) (uM rfl ?_)
    by_cases hb52 : ((min n0 (max n 0)) + min n1 (max n 0 - (min n0 (max n 0)))) < (max n 0)
    ·refine uG (.bool true) rfl (ex_lss rfl rfl rfl (qT hb52)) (uW k51 ?_)
     refine cT rfl (rL ?_)
     refine uF (.pointer (some ⟨b43, 1, none⟩)) rfl (v8fa155_1 _ _ _) ?_
     refine uL _ rfl (run_load1 s2na3 (hv.load 0 1 rfl rfl)) ?_
     refine uF (.pointer (some ⟨b43, 2, none⟩)) rfl (v8fa155_2 _ _ _) ?_
     refine xV 0 (vI ((min n0 (max n 0)) + min n1 (max n 0 - (min n0 (max n 0))))) rfl hv x3sz3 rfl rfl (fun w53 hv => ?_)
     simp only [zO, sp] at hv
     refine uW k50 (sK fun _ k54 => ?_)
     refine rL (uL (.agg #[vI (min n0 (max n 0)), vI ((min n0 (max n 0)) + min n1 (max n 0 - (min n0 (max n 0)))), vI ((min n0 (max n 0)) + min n1 (max n 0 - (min n0 (max n 0)))), vS mt]) rfl (lM 0 v8wd155 hv rfl rfl rfl rfl) ?_)
     refine xS 3 rfl hv v8sz155 rfl (by exact ⟨rfl, rfl, rfl, rfl, trivial⟩) (fun w55 hv => ?_)
     simp only [zS, zO, sp] at hv
     refine uA rfl (uW k54 ?_)
     refine rR (bodyPost_ret (res_cell2 rfl rfl (lM 3 v8wd155 hv rfl rfl rfl rfl)) rfl ?_)
     rw [hdr] at hopt
     have hn1c : NumP (cntOf t1 b1) n1 true := by rw [hcn]; exact hn1
     exact ⟨(min n0 (max n 0)), ((min n0 (max n 0)) + min n1 (max n 0 - (min n0 (max n 0)))), ((min n0 (max n 0)) + min n1 (max n 0 - (min n0 (max n 0)))), mt, 0, rfl, .inr ⟨a0, rest, hargs, .inr ⟨t0, t1, b0, b1, hopt, .inr ⟨n0, n1, hn0, hn1c, .inr ⟨rfl, hk0, hk1, hmt, rfl, rfl, by rw [if_pos (by omega)]⟩⟩⟩⟩, ((hv.kp [] 0 4)).weak (hD1.trans hE)⟩
    refine uG (.bool false) rfl (ex_lss rfl rfl rfl (qF hb52)) (uW k51 ?_)
    refine cF rfl (kS ?_)
    refine tK k50 (sK fun _ k56 => ?_)
    refine rL (uL (.agg #[vI (min n0 (max n 0)), vI ((min n0 (max n 0)) + min n1 (max n 0 - (min n0 (max n 0)))), vI 0, vS mt]) rfl (lM 0 v8wd155 hv rfl rfl rfl rfl) ?_)
    refine xS 3 rfl hv v8sz155 rfl (by exact ⟨rfl, rfl, rfl, rfl, trivial⟩) (fun w57 hv => ?_)
    simp only [zS, zO, sp] at hv
    refine uA rfl (uW k56 ?_)
    refine rR (bodyPost_ret (res_cell2 rfl rfl (lM 3 v8wd155 hv rfl rfl rfl rfl)) rfl ?_)
    rw [hdr] at hopt
    have hn1c : NumP (cntOf t1 b1) n1 true := by rw [hcn]; exact hn1
    exact ⟨(min n0 (max n 0)), ((min n0 (max n 0)) + min n1 (max n 0 - (min n0 (max n 0)))), 0, mt, 0, rfl, .inr ⟨a0, rest, hargs, .inr ⟨t0, t1, b0, b1, hopt, .inr ⟨n0, n1, hn0, hn1c, .inr ⟨rfl, hk0, hk1, hmt, rfl, rfl, by rw [if_neg (by omega)]⟩⟩⟩⟩, ((hv.kp [] 0 4)).weak (hD1.trans hE)⟩
   refine uM rfl (uE rfl ?_)
   refine uE rfl (uA rfl ?_)
   refine uA rfl (uW k27 ?_)
   refine sK fun _ k58 => sK fun _ k59 => rL (uM rfl ?_)
   refine uG (.bool true) rfl (ex_neq rfl rfl rfl (by decide)) (uW k59 ?_)
   refine cT rfl (sK fun _ k60 => ?_)
   refine rL (uG (.agg #[vI 0, vI 0, vI 0, vS []]) rfl (ex_buildN (vs := #[]) rfl (by simp only [List.map_toArray, List.map_nil]) (by kernel_rfl)) ?_)
   refine uM rfl ?_
   refine xS 2 rfl hv v8sz155 rfl (by exact ⟨rfl, rfl, rfl, rfl, trivial⟩) (fun w61 hv => ?_)
   simp only [zS, zO, sp] at hv
   refine uA rfl (uW k60 ?_)
   refine rR (tR ?_)
   refine bodyPost_ret (res_cell2 rfl rfl (lM 2 v8wd155 hv rfl rfl rfl rfl)) rfl ?_
   rw [hdr] at hopt
   exact ⟨0, 0, 0, [], 41, rfl, .inr ⟨a0, rest, hargs, .inr ⟨t0, t1, b0, b1, hopt, .inl ⟨rfl, by rw [hcn]; exact hnb⟩⟩⟩, ((hv.kp [] 0 3)).weak (hD1.trans hE)⟩
  refine sK fun _ k62 => rL (uG (.pointer (some ⟨b13, 1, none⟩)) rfl (ex_index rfl rfl rfl (run_idxA1 (k := 1) v8ua180 v8ea180 (by omega))) ?_)
  refine uL _ rfl (run_load1 s2na4 (hv.load 0 1 rfl rfl)) (uW k62 ?_)
  refine wpIn_cond_split (t := b1) rfl (fun hc63 => ?_) (fun hc63 => ?_)
  ·refine rL (uG (.pointer (some ⟨b11, 1, none⟩)) rfl (ex_index rfl rfl rfl (run_idxA1 (k := 1) v8ua179 v8ea179 (by omega))) ?_)
   refine uL _ rfl (run_load1 s9na9 (hv.load 1 1 rfl rfl)) (uA rfl ?_)
   refine uZ (then_normal (hJ25 t1 _ _ _ _ _ (by rw [hc63]; rfl) hv))
  refine kS (then_normal (hJ25 ([49, 48] : List UInt8) _ _ _ _ _ (by rw [hc63]; rfl) hv))
 refine sK fun _ k64 => rL (uG (vP b13) rfl (ex_index rfl rfl rfl (run_idxA1 (k := 0) v8ua180 v8ea180 (by omega))) ?_)
 refine uL _ rfl (run_load1 s2na4 (hv.load 0 0 rfl rfl)) (uW k64 ?_)
 refine wpIn_cond_split (t := b0) rfl (fun hc65 => ?_) (fun hc65 => ?_)
 ·refine rL (uG (vP b11) rfl (ex_index rfl rfl rfl (run_idxA1 (k := 0) v8ua179 v8ea179 (by omega))) ?_)
  refine uL _ rfl (run_load1 s9na9 (hv.load 1 0 rfl rfl)) (uA rfl ?_)
  refine uZ (then_normal (hJ23 t0 _ _ _ _ _ (by rw [hc65]; rfl) hv))
 refine kS (then_normal (hJ23 ([42] : List UInt8) _ _ _ _ _ (by rw [hc65]; rfl) hv))
theorem v8fa155_3 : FA Tryz.prog 155 3 3 := fun w b o => by kernel_rfl
theorem v8callable98 : Callable Tryz.prog 98 := cb Tryz.func98 (by kernel_rfl)
theorem pageFits (B : Base) (H : List Res) (w : World) (fr to nx : Int) (mt s : List UInt8) (hm : mt.length ≤ 1000000) (hs : s.length ≤ 1000000) (hv : Inv B H w) :
  Calls Tryz.prog 78 #[.agg #[vI fr, vI to, vI nx, vS mt], vS s] w fun e w' => ∃ b, e = .returned (.bool b) ∧ (b = true ↔ MatchP (divS mt true 0) s) ∧ Inv B H w' := by
 refine cW Tryz.func78 rfl Tryz.ntmps78 ?_
 simp only [al]
 refine sK fun _ k1 => rL (sl_box (L := [vI fr, vI to, vI nx, vS mt]) tV (wn rfl) rfl rfl hv (fun w => by kernel_rfl) (fun b2 w3 hv => ?_))
 refine uA rfl (uW k1 ?_)
 refine sK fun _ k4 => rL (uF (.pointer (some ⟨b2, 3, none⟩)) rfl (v8fa155_3 _ _ _) ?_)
 refine uL _ rfl (run_load1 s9na9 (hv.load 0 3 rfl rfl)) (uM rfl ?_)
 refine xC v8callable98 rfl ((globMatch B _ _ mt hm s hs hv).mono ?_) rfl
 rintro e w5 ⟨b, rfl, hb, hv⟩
 refine ⟨_, rfl, uA rfl ?_⟩
 refine uW k4 (rR ?_)
 refine bR rfl rfl (⟨b, rfl, hb, (hv.kp [] 0 1)⟩)
theorem valAt_open {C : Base} {v : Val} {p t z : Value} (h : ValAt C v p t z) : ∃ pa pc sa sc za zc, p = .slice pa v.pairs.length pc ∧ t = .slice sa v.texts.length sc ∧ z = .slice za v.zset.length zc ∧ SliceOk pa v.pairs.length pc ∧ RdV C [] pa (pairCells v.pairs) ∧ SliceOk sa v.texts.length sc ∧ RdV C [] sa (textCells v.texts) ∧ SliceOk za v.zset.length zc ∧ RdV C [] za (memCells v.zset) := by
 obtain ⟨⟨a1, c1, h1, h2, h3⟩, ⟨a2, c2, h4, h5, h6⟩, ⟨a3, c3, h7, h8, h9⟩, -⟩ := h
 exact ⟨a1, c1, a2, c2, a3, c3, h1, h4, h7, h2, h3, h5, h6, h8, h9⟩
theorem tx_take (l : List (List UInt8)) (i : Nat) : (textCells l).take i = textCells (l.take i) := by simp [textCells]
theorem tx_drop (l : List (List UInt8)) (i : Nat) : (textCells l).drop i = textCells (l.drop i) := by simp [textCells]
theorem sliced_midV {B : Base} {ad : Option Addr} {n c l h : Nat} {xs : List Value} (size : Nat) (hok : SliceOk ad n c) (hr : RdV B [] ad xs) (hl : xs.length = n * size) (hlh : l ≤ h) (hh : h ≤ n) (hz : 0 < size) : ∃ a2 c2, sliced ad l h c size = .slice a2 (h - l) c2 ∧ SliceOk a2 (h - l) c2 ∧ RdV B [] a2 ((xs.drop (l * size)).take ((h - l) * size)) := by
 obtain ⟨a2, c2, h1, h2, h3⟩ := sliced_fromV size hok hr hl (show l ≤ n by omega) hz
 have e : sliced ad l h c size = .slice a2 (h - l) c2 := by
  unfold sliced at h1 ⊢
  split at h1 <;> rename_i hc <;> simp only [hc, if_true, if_false] at h1 ⊢ <;> (injection h1 with e1 e2 e3; subst e1 e3; rfl)
 refine ⟨a2, c2, e, ⟨by have := h2.le; omega, h2.max, h2.nil⟩, fun i hi => ?_⟩
 rw [List.length_take] at hi
 obtain ⟨b, off, h5, h6⟩ := h3 i (by omega)
 refine ⟨b, off, h5, ?_⟩
 rw [List.getElem_take]
 exact h6
section
variable {P : Program} {t : TypeId} {w : World}
theorem run_lhAny {ad : Option Addr} {n c l h size : Nat} (ht : P.underlying t = some (.slice (P.elem t))) (hs : ∀ w, (sizeOf (P.elem t)).run P w = .ok size w) (h1 : l ≤ h) (h2 : h ≤ c) :
  (Instr.sliceAt t (.slice ad n c) (some (vI l)) (some (vI h)) none).run P w = .ok (sliced ad l h c size) w := by
 rw [run_sliceAt_slice w t _ _ _ _ ht, run_slice_lh w t _ n c ht .i64 .i64 l h (by omega) (by omega) (by omega), hs]
 simp only [Result.andThen, Int.toNat_natCast]
theorem run_lhAnyI {ad : Option Addr} {n c l h size : Nat} {x y : Int} (hx : x = (l : Int)) (hy : y = (h : Int)) (ht : P.underlying t = some (.slice (P.elem t))) (hs : ∀ w, (sizeOf (P.elem t)).run P w = .ok size w) (h1 : l ≤ h) (h2 : h ≤ c) :
  (Instr.sliceAt t (.slice ad n c) (some (vI x)) (some (vI y)) none).run P w = .ok (sliced ad l h c size) w := by
 subst hx hy; exact run_lhAny ht hs h1 h2
end
theorem keep_zero {M M' : List (List UInt8 × Ver)} {clk exp ec : Int} {key : List UInt8} {x : Val} (hk : key.length ≤ 256) (hp : FullV x → PutOk key x exp) (h : KeepI M clk key x exp ec M') : ec = 0 := by
 rcases h with ⟨-, -, h2, -⟩ | ⟨h1, h2, -⟩ | ⟨-, -, h3, -⟩ | ⟨-, -, ⟨-, h4, -⟩ | ⟨h4, -⟩⟩
 ·exact h2
 ·exact absurd (hp h1) h2
 ·exact h3
 ·exact h4
 omega
theorem of_put {M : List (List UInt8 × Ver)} {clk ec kind : Int} {key : List UInt8} {y : Ver} (hO : OkM M) (h : OfI M clk key kind y ec) (hy : y ≠ zver0) : PutOk key y.val y.expire ∧ y.val.kind = kind := by
 rcases h with ⟨-, h, -⟩ | ⟨-, h, -⟩ | ⟨-, h1, h2, h3⟩
 ·exact absurd h hy
 ·exact absurd h hy
 exact ⟨hO.alive h1 h2, h3⟩
def tleaf (s : List UInt8) : Leaf := ⟨3, s, 0⟩
theorem strs_leaf (l : List (List UInt8)) : strsCells l = lvC (l.map tleaf) none := by
 show l.flatMap _ = (l.map tleaf).flatMap leafN
 rw [List.flatMap_map]; rfl
theorem listIn_two {B : Base} {s : List UInt8} {l : List (List UInt8)} {a : Option Addr} {c : Nat} (hok : SliceOk a l.length c) (hr : RdV B [] a (strsCells l)) (hm : l.length ≤ 1000000) :
  ListIn B 2 (rpCells 3 s 0 (vN) ++ rpCells 5 [] 0 (.slice a l.length c)) (rList [rStr s, rStrs l]) := by
 refine .inr ⟨[⟨3, s, 0⟩], l.map tleaf, ⟨5, [], 0⟩, a, c, rfl, ?_, ?_, ?_, ?_, ?_⟩
 ·rw [List.length_map]; rfl
 ·rw [List.length_map]; exact hok
 ·rw [← strs_leaf]; exact hr
 ·rw [List.length_map]; exact hm
 rw [List.map_map]; rfl
end Go.Proofs.YtoljdfjnannakaaGreatDoor
