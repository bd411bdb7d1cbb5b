/- view: options, Pages, Fits. -/
import Derived.Test.YtngpmolbphinnaaGreatDoorCkNamB
import Derived.Test.YtngpmolbphinnaaGreatDoorCkNamF
import Derived.Test.YtngpmolbphinnaaGreatDoorCkNamE
import Derived.Test.YtngpmolbphinnaaGreatDoorCkNamG
import Derived.Test.YtngpmolbphinnaaGreatDoorRows
import Derived.Test.YtngpmolbphinnaaGreatDoorCkNamD
set_option maxRecDepth 100000
set_option maxHeartbeats 16000000
set_option synthInstance.maxSize 4096
set_option synthInstance.maxHeartbeats 400000
namespace Go.Proofs.YtngpmolbphinnaaGreatDoor
open Go.RowKit Go.Pm
theorem res_cct {P : Program} {fn : Func} {w : World} {t u : TypeId} {v v' : Value} {r i j : Nat} (h : fn.results = #[.cell r t, .cell i u, .tmp j]) {tmps : Array Value} {ad ad' : Addr} (hr : tmps.getD r undef = .pointer (some ad)) (hl : (Instr.loadAt t (.pointer (some ad))).run P w = .ok v w)
  (hr2 : tmps.getD i undef = .pointer (some ad')) (hl2 : (Instr.loadAt u (.pointer (some ad'))).run P w = .ok v' w) : (results fn tmps).run P w = .ok (.tuple #[v, v', tmps.getD j undef]) w := by
 have hl' : (loadVar t ad).run P w = .ok v w := by simpa [Instr.loadAt, Instr.sureAddr] using hl
 have hr' : tmps[r]?.getD undef = .pointer (some ad) := by rw [← hr, Array.getD_eq_getD_getElem?]
 have hl2' : (loadVar u ad').run P w = .ok v' w := by simpa [Instr.loadAt, Instr.sureAddr] using hl2
 have hr2' : tmps[i]?.getD undef = .pointer (some ad') := by rw [← hr2, Array.getD_eq_getD_getElem?]
 simp [results, h, hr', hr2', asAddr, hl', hl2']
theorem pg_drop (l : List (List UInt8)) (i : Nat) : (textCells l).drop i = textCells (l.drop i) := by simp [textCells]
abbrev wMATCH : List UInt8 := [77, 65, 84, 67, 72]
abbrev wCOUNT : List UInt8 := [67, 79, 85, 78, 84]
theorem is2 {arg a b : List UInt8} {r : Int} (h : IsI arg [a, b] r) : (r = -1 ∧ ¬ SameC a arg ∧ ¬ SameC b arg) ∨ (r = 0 ∧ SameC a arg) ∨ (r = 1 ∧ ¬ SameC a arg ∧ SameC b arg) := by
 rcases h with ⟨rfl, h⟩ | ⟨i, x, rfl, hx, h1, h2⟩
 ·exact .inl ⟨rfl, h a (by simp), h b (by simp)⟩
 match i, hx with
 | 0, hx => cases hx; exact .inr (.inl ⟨rfl, h1⟩)
 | 1, hx => cases hx; exact .inr (.inr ⟨rfl, h2 0 a (by omega) rfl, h1⟩)
inductive OptTo (args : List (List UInt8)) : Nat → List UInt8 → List UInt8 → Bool → Bool → Prop where
 | zero : OptTo args 0 [] [] false false
 | m {i : Nat} {t0 t1 a v : List UInt8} {b1 : Bool} : OptTo args i t0 t1 false b1 → args[i]? = some a → args[i + 1]? = some v → SameC wMATCH a → OptTo args (i + 2) v t1 true b1
 | c {i : Nat} {t0 t1 a v : List UInt8} {b0 : Bool} : OptTo args i t0 t1 b0 false → args[i]? = some a → args[i + 1]? = some v → ¬ SameC wMATCH a → SameC wCOUNT a → OptTo args (i + 2) t0 v b0 true
def OptBad (args : List (List UInt8)) : Prop := args.length % 2 ≠ 0 ∨ ∃ i t0 t1 b0 b1 a, OptTo args i t0 t1 b0 b1 ∧ args[i]? = some a ∧ ((¬ SameC wMATCH a ∧ ¬ SameC wCOUNT a) ∨ (SameC wMATCH a ∧ b0 = true) ∨ (¬ SameC wMATCH a ∧ SameC wCOUNT a ∧ b1 = true))
def OptR (args : List (List UInt8)) (t0 t1 : List UInt8) (b0 b1 : Bool) (ec : Int) : Prop := (ec = 42 ∧ OptBad args) ∨ (ec = 0 ∧ args.length % 2 = 0 ∧ OptTo args args.length t0 t1 b0 b1)
theorem optTo_even {args : List (List UInt8)} {i : Nat} {t0 t1 : List UInt8} {b0 b1 : Bool} (h : OptTo args i t0 t1 b0 b1) : i % 2 = 0 := by
 induction h <;> omega
theorem v8al180 : AL Tryz.prog 180 [vS [], vS []] := fun w => by kernel_rfl
theorem v8al181 : AL Tryz.prog 181 [.bool false, .bool false] := fun w => by kernel_rfl
theorem v8wd180 : Wide Tryz.prog 180 2 := wide_of (fun w => by kernel_rfl) (by kernel_rfl)
theorem v8wd181 : Wide Tryz.prog 181 2 := wide_of (fun w => by kernel_rfl) (by kernel_rfl)
theorem v8sz180 : (Tryz.prog.info? 180).map (·.size) = some 2 := by kernel_rfl
theorem v8sz181 : (Tryz.prog.info? 181).map (·.size) = some 2 := by kernel_rfl
theorem v8callable75 : Callable Tryz.prog 75 := cb Tryz.func75 (by kernel_rfl)
theorem v8ea181 (w : World) : (sizeOf 4).run Tryz.prog w = .ok 1 w := by kernel_rfl
theorem v8ua181 : Tryz.prog.underlying 181 = some (.array 2 4) := by kernel_rfl
theorem v8ea180 (w : World) : (sizeOf 9).run Tryz.prog w = .ok 1 w := by kernel_rfl
theorem v8ua180 : Tryz.prog.underlying 180 = some (.array 2 9) := by kernel_rfl
theorem v8sz4 : (Tryz.prog.info? 4).map (·.size) = some 1 := by kernel_rfl
theorem viewOptions (B : Base) (H : List Res) (w : World) (aa : Option Addr) (ac : Nat) (args : List (List UInt8)) (hra : RdV B [] aa (textCells args)) (hma : args.length ≤ 10000) (hxl : ∀ x ∈ args, x.length ≤ 9223372036854775807) (hv : Inv B H w) :
  Calls Tryz.prog 99 #[.slice aa args.length ac] w fun e w' => ∃ t0 t1 b0 b1 ec, e = .returned (.tuple #[.agg #[vS t0, vS t1], .agg #[.bool b0, .bool b1], vI ec]) ∧ OptR args t0 t1 b0 b1 ec ∧ Inv B H w' := by
 refine cW Tryz.func99 rfl Tryz.ntmps99 ?_
 simp only [al]
 refine sK fun _ k1 => rL (sl_alloc tV (wn rfl) rfl hv v8al180 (fun b2 w3 hv => ?_))
 refine sl_alloc tV (wn rfl) rfl hv v8al181 (fun b4 w5 hv => ?_)
 refine uA rfl (uW k1 ?_)
 refine sK fun _ k6 => sK fun _ k7 => rL (uM rfl ?_)
 refine uG (vI (args.length : Int)) rfl (ex_len0 Tryz.underlying26 rfl rfl) ?_
 refine uG (vI ((args.length % 2 : Nat) : Int)) rfl (ex_rem (m := (args.length : Int)) (n := 2) rfl rfl rfl (by decide) rfl) ?_
 by_cases hb8 : ((args.length % 2 : Nat) : Int) ≠ 0
 ·refine uG (.bool true) rfl (ex_neq rfl rfl rfl (qT hb8)) (uW k7 ?_)
  refine cT rfl (sK fun _ k9 => ?_)
  refine rW mixed [2, 3] [0,1,2,3,4] 45 rfl (by kernel_rfl) hv ?_
  simp only [qm, opAt]
  refine dL (.agg #[vS [], vS []]) rfl (fun hv => ex_load rfl rfl (lM 1 v8wd180 hv rfl rfl rfl rfl)) (dF (.agg #[.bool false, .bool false]) rfl (fun hv => ex_load rfl rfl (lM 0 v8wd181 hv rfl rfl rfl rfl)) fun f10 hf10 => ?_)
  refine dS rfl fun w11 hv => mS 1 rfl hv v8sz180 rfl (by exact ⟨rfl, rfl, trivial⟩) (fun w12 hv => ?_)
  simp only [zS, zO, sp] at hv
  refine dV hv (fC (fun ww hv => hf10 ww ?_) fN) ?_
  ·exact ex_load rfl rfl (lM 0 v8wd181 hv rfl rfl rfl rfl)
  simp only [zP, po]
  refine dS rfl fun w13 hv => mS 0 rfl hv v8sz181 rfl (by exact ⟨rfl, rfl, trivial⟩) (fun w14 hv => ?_)
  simp only [zO, sp] at hv
  refine dV hv (fK rfl fN) (dA (vI 42) rfl ?_)
  refine dE fun w15 hv => ?_
  simp only [zP, po]
  refine tK k9 (rR ?_)
  refine tR (bodyPost_ret (res_cct rfl rfl (lM 1 v8wd180 hv rfl rfl rfl rfl) rfl (lM 0 v8wd181 hv rfl rfl rfl rfl)) rfl ?_)
  exact ⟨[], [], false, false, 42, rfl, .inl ⟨rfl, .inl (by omega)⟩, (hv.kp [] 0 2)⟩
 refine uG (.bool false) rfl (ex_neq rfl rfl rfl (qF hb8)) (uW k7 ?_)
 refine cF rfl (kS ?_)
 refine tK k6 (sK fun _ k16 => ?_)
 refine sK fun _ k17 => rL (uA rfl ?_)
 refine uW k17 (bB ?_)
 gi_loopw [5] (fun x5 wr => ∃ (i : Nat) (t0 t1 : List UInt8) (b0 b1 : Bool), x5 = vI i ∧ i ≤ args.length ∧ OptTo args i t0 t1 b0 b1 ∧ Inv B (Res.cell b2 [vS t0, vS t1] 180 :: Res.cell b4 [.bool b0, .bool b1] 181 :: H) wr) (fun x5 _ => args.length - (intOf x5).toNat)
 case atStart => exact ⟨0, [], [], false, false, rfl, Nat.zero_le _, .zero, (hv.front 1 rfl)⟩
 case round =>
  obtain ⟨i, t0, t1, b0, b1, rfl, hi, hot, hv⟩ := hrel
  have hev : i % 2 = 0 := optTo_even hot
  refine sK fun _ k19 => sK fun _ k20 => rL (uM rfl ?_)
  refine uM rfl ?_
  refine uG (vI (args.length : Int)) rfl (ex_len0 Tryz.underlying26 rfl rfl) ?_
  by_cases hb21 : (i : Int) < (args.length : Int)
  ·refine uG (.bool true) rfl (ex_lss rfl rfl rfl (qT hb21)) (uW k20 ?_)
   refine cT rfl (kS ?_)
   refine tK k19 (sK fun _ k22 => ?_)
   refine bB (sK fun _ k23 => ?_)
   obtain ⟨x, hx⟩ : ∃ x, args[i]? = some x := ⟨_, List.getElem?_eq_getElem (show i < args.length by omega)⟩
   obtain ⟨ab, ao, had, hrdx⟩ := text_reads hra hx
   subst had
   refine rL (uM rfl ?_)
   refine uM rfl ?_
   refine uG (.pointer (some ⟨ab, ao + i, none⟩)) rfl (ex_index rfl rfl rfl (run_idx1 (k := i) Tryz.underlying26 s9es26 (by omega))) ?_
   refine uL _ rfl (run_load1 s9na9 (hrdx _ _ _ (Base.Le.refl _) no_res hv 0 _ rfl)) ?_
   refine sl_rowN (pv := #[(0, vS [77, 65, 84, 67, 72]), (1, vS [67, 79, 85, 78, 84])]) (L := [vS [77, 65, 84, 67, 72], vS [67, 79, 85, 78, 84]]) (e := 9) tV (wn rfl) rfl (by simp only [List.map_toArray, List.map_cons, List.map_nil]; rfl) hv (fun w => by kernel_rfl) (fun b24 w25 hv => ?_)
   obtain ⟨D1, hD1, hv, hrk, -, -⟩ := (hv.cellRow (n := 2) (c := 2) (size := 1) rfl (by decide) (by decide)).rowBy
   refine xC v8callable75 rfl ((viewIs D1 _ _ x _ 2 [[77, 65, 84, 67, 72], [67, 79, 85, 78, 84]] hrk (by simp) (hxl x (List.mem_of_getElem? hx)) hv).mono ?_) rfl
   rintro e w26 ⟨r, rfl, his, hv⟩
   refine ⟨_, rfl, ?_⟩
   replace hv := hv.weak hD1
   rcases is2 his with ⟨rfl, hsm⟩ | ⟨rfl, hsm⟩ | ⟨rfl, hsm⟩
   ·refine uA rfl (uW k23 ?_)
    refine sK fun _ k27 => sK fun _ k28 => rL (uM rfl ?_)
    refine uG (.bool true) rfl (ex_lss rfl rfl rfl (by decide)) (uM rfl ?_)
    iterate 3 refine uP rfl ?_
    refine uK rfl (uW k28 ?_)
    refine cT rfl (sK fun _ k29 => ?_)
    refine rW mixed [2, 3] [0,1,2,3,4] 45 rfl (by kernel_rfl) hv ?_
    simp only [qm, opAt]
    refine dL (.agg #[vS t0, vS t1]) rfl (fun hv => ex_load rfl rfl (lM 0 v8wd180 hv rfl rfl rfl rfl)) (dF (.agg #[.bool b0, .bool b1]) rfl (fun hv => ex_load rfl rfl (lM 1 v8wd181 hv rfl rfl rfl rfl)) fun f30 hf30 => ?_)
    refine dS rfl fun w31 hv => mS 0 rfl hv v8sz180 rfl (by exact ⟨rfl, rfl, trivial⟩) (fun w32 hv => ?_)
    simp only [zO, sp] at hv
    refine dV hv (fC (fun ww hv => hf30 ww ?_) fN) ?_
    ·exact ex_load rfl rfl (lM 1 v8wd181 hv rfl rfl rfl rfl)
    simp only [zP, po]
    refine dS rfl fun w33 hv => mS 1 rfl hv v8sz181 rfl (by exact ⟨rfl, rfl, trivial⟩) (fun w34 hv => ?_)
    simp only [zS, zO, sp] at hv
    refine dV hv (fK rfl fN) (dA (vI 42) rfl ?_)
    refine dE fun w35 hv => ?_
    simp only [zP, po]
    refine tK k29 (rR ?_)
    refine tR (bZ ?_)
    refine tR (tR ?_)
    refine bZ (tR ?_)
    refine bodyPost_ret (res_cct rfl rfl (lM 0 v8wd180 hv rfl rfl rfl rfl) rfl (lM 1 v8wd181 hv rfl rfl rfl rfl)) rfl (⟨t0, t1, b0, b1, 42, rfl, .inl ⟨rfl, .inr ⟨i, t0, t1, b0, b1, x, hot, hx, .inl hsm⟩⟩, (hv.kp [] 0 2)⟩)
   ·refine uA rfl (uW k23 ?_)
    refine sK fun _ k36 => sK fun _ k37 => rL (uM rfl ?_)
    refine uG (.bool false) rfl (ex_lss rfl rfl rfl (by decide)) (uM rfl ?_)
    refine uM rfl ?_
    refine uG (vP b4) rfl (ex_index rfl rfl rfl (run_idxA1 (k := 0) v8ua181 v8ea181 (by omega))) ?_
    refine uL _ rfl (run_load1 s2na4 (hv.load 1 0 rfl rfl)) (uK rfl ?_)
    refine uW k37 (wpIn_cond_split (t := b0) rfl (fun hc38 => ?_) (fun hc38 => ?_))
    ·refine sK fun _ k39 => rW mixed [2, 3] [0,1,2,3,4] 45 rfl (by kernel_rfl) hv ?_
     simp only [qm, opAt]
     refine dL (.agg #[vS t0, vS t1]) rfl (fun hv => ex_load rfl rfl (lM 0 v8wd180 hv rfl rfl rfl rfl)) (dF (.agg #[.bool b0, .bool b1]) rfl (fun hv => ex_load rfl rfl (lM 1 v8wd181 hv rfl rfl rfl rfl)) fun f40 hf40 => ?_)
     refine dS rfl fun w41 hv => mS 0 rfl hv v8sz180 rfl (by exact ⟨rfl, rfl, trivial⟩) (fun w42 hv => ?_)
     simp only [zO, sp] at hv
     refine dV hv (fC (fun ww hv => hf40 ww ?_) fN) ?_
     ·exact ex_load rfl rfl (lM 1 v8wd181 hv rfl rfl rfl rfl)
     simp only [zP, po]
     refine dS rfl fun w43 hv => mS 1 rfl hv v8sz181 rfl (by exact ⟨rfl, rfl, trivial⟩) (fun w44 hv => ?_)
     simp only [zS, zO, sp] at hv
     refine dV hv (fK rfl fN) (dA (vI 42) rfl ?_)
     refine dE fun w45 hv => ?_
     simp only [zP, po]
     refine tK k39 (rR ?_)
     refine tR (bZ ?_)
     refine tR (tR ?_)
     refine bZ (tR ?_)
     refine bodyPost_ret (res_cct rfl rfl (lM 0 v8wd180 hv rfl rfl rfl rfl) rfl (lM 1 v8wd181 hv rfl rfl rfl rfl)) rfl (⟨t0, t1, b0, b1, 42, rfl, .inl ⟨rfl, .inr ⟨i, t0, t1, b0, b1, x, hot, hx, .inr (.inl ⟨hsm, hc38⟩)⟩⟩, (hv.kp [] 0 2)⟩)
    refine kS (tK k36 ?_)
    obtain ⟨x2, hx2⟩ : ∃ x, args[(i + 1 : Nat)]? = some x := ⟨_, List.getElem?_eq_getElem (show (i + 1 : Nat) < args.length by omega)⟩
    obtain ⟨b9, o9, had9, hrdx2⟩ := text_reads hra hx2
    cases had9
    refine rL (uM rfl ?_)
    refine uM rfl (uM rfl ?_)
    refine uM rfl ?_
    refine uG (vI ((i + 1 : Nat) : Int)) rfl (ex_add rfl rfl rfl (by rw [i64_in (by omega)]; omega)) ?_
    refine uG (.pointer (some ⟨ab, ao + (i + 1 : Nat), none⟩)) rfl (ex_index rfl rfl rfl (run_idx1 (k := (i + 1 : Nat)) Tryz.underlying26 s9es26 (by omega))) ?_
    refine uL _ rfl (run_load1 s9na9 (hrdx2 _ _ _ (Base.Le.refl _) no_res hv 0 _ rfl)) ?_
    refine uG (vP b2) rfl (ex_index rfl rfl rfl (run_idxA1 (k := 0) v8ua180 v8ea180 (by omega))) ?_
    refine xV 0 (vS x2) rfl hv s12sz9 rfl rfl (fun w46 hv => ?_)
    simp only [zO, sp] at hv
    refine uG (vP b4) rfl (ex_index rfl rfl rfl (run_idxA1 (k := 0) v8ua181 v8ea181 (by omega))) ?_
    refine xV 1 (.bool true) rfl hv v8sz4 rfl rfl (fun w47 hv => ?_)
    simp only [zS, zO, sp] at hv
    refine uZ (bN ?_)
    refine tK k22 (rL ?_)
    refine uM rfl ?_
    refine uG (vI ((i + 2 : Nat) : Int)) rfl (ex_add rfl rfl rfl (by rw [i64_in (by omega)]; omega)) (uA rfl ?_)
    refine uZ (then_normal ?_)
    go_roundw
    case rel => exact ⟨i + 2, x2, t1, true, b1, rfl, by omega, .m (by rw [hc38] at hot; exact hot) hx hx2 hsm, ((hv.front 1 rfl).front 1 rfl)⟩
    case measure => show args.length - (((i + 2 : Nat) : Int)).toNat < args.length - ((i : Int)).toNat; omega
   refine uA rfl (uW k23 ?_)
   refine sK fun _ k48 => sK fun _ k49 => rL (uM rfl ?_)
   refine uG (.bool false) rfl (ex_lss rfl rfl rfl (by decide)) (uM rfl ?_)
   refine uM rfl ?_
   refine uG (.pointer (some ⟨b4, 1, none⟩)) rfl (ex_index rfl rfl rfl (run_idxA1 (k := 1) v8ua181 v8ea181 (by omega))) ?_
   refine uL _ rfl (run_load1 s2na4 (hv.load 1 1 rfl rfl)) (uK rfl ?_)
   refine uW k49 (wpIn_cond_split (t := b1) rfl (fun hc50 => ?_) (fun hc50 => ?_))
   ·refine sK fun _ k51 => rW mixed [2, 3] [0,1,2,3,4] 45 rfl (by kernel_rfl) hv ?_
    simp only [qm, opAt]
    refine dL (.agg #[vS t0, vS t1]) rfl (fun hv => ex_load rfl rfl (lM 0 v8wd180 hv rfl rfl rfl rfl)) (dF (.agg #[.bool b0, .bool b1]) rfl (fun hv => ex_load rfl rfl (lM 1 v8wd181 hv rfl rfl rfl rfl)) fun f52 hf52 => ?_)
    refine dS rfl fun w53 hv => mS 0 rfl hv v8sz180 rfl (by exact ⟨rfl, rfl, trivial⟩) (fun w54 hv => ?_)
    simp only [zO, sp] at hv
    refine dV hv (fC (fun ww hv => hf52 ww ?_) fN) ?_
    ·exact ex_load rfl rfl (lM 1 v8wd181 hv rfl rfl rfl rfl)
    simp only [zP, po]
    refine dS rfl fun w55 hv => mS 1 rfl hv v8sz181 rfl (by exact ⟨rfl, rfl, trivial⟩) (fun w56 hv => ?_)
    simp only [zS, zO, sp] at hv
    refine dV hv (fK rfl fN) (dA (vI 42) rfl ?_)
    refine dE fun w57 hv => ?_
    simp only [zP, po]
    refine tK k51 (rR ?_)
    refine tR (bZ ?_)
    refine tR (tR ?_)
    refine bZ (tR ?_)
    refine bodyPost_ret (res_cct rfl rfl (lM 0 v8wd180 hv rfl rfl rfl rfl) rfl (lM 1 v8wd181 hv rfl rfl rfl rfl)) rfl (⟨t0, t1, b0, b1, 42, rfl, .inl ⟨rfl, .inr ⟨i, t0, t1, b0, b1, x, hot, hx, .inr (.inr ⟨hsm.1, hsm.2, hc50⟩)⟩⟩, (hv.kp [] 0 2)⟩)
   refine kS (tK k48 ?_)
   obtain ⟨x2, hx2⟩ : ∃ x, args[(i + 1 : Nat)]? = some x := ⟨_, List.getElem?_eq_getElem (show (i + 1 : Nat) < args.length by omega)⟩
   obtain ⟨b9, o9, had9, hrdx2⟩ := text_reads hra hx2
   cases had9
   refine rL (uM rfl ?_)
   refine uM rfl (uM rfl ?_)
   refine uM rfl ?_
   refine uG (vI ((i + 1 : Nat) : Int)) rfl (ex_add rfl rfl rfl (by rw [i64_in (by omega)]; omega)) ?_
   refine uG (.pointer (some ⟨ab, ao + (i + 1 : Nat), none⟩)) rfl (ex_index rfl rfl rfl (run_idx1 (k := (i + 1 : Nat)) Tryz.underlying26 s9es26 (by omega))) ?_
   refine uL _ rfl (run_load1 s9na9 (hrdx2 _ _ _ (Base.Le.refl _) no_res hv 0 _ rfl)) ?_
   refine uG (.pointer (some ⟨b2, 1, none⟩)) rfl (ex_index rfl rfl rfl (run_idxA1 (k := 1) v8ua180 v8ea180 (by omega))) ?_
   refine xV 0 (vS x2) rfl hv s12sz9 rfl rfl (fun w58 hv => ?_)
   simp only [zO, sp] at hv
   refine uG (.pointer (some ⟨b4, 1, none⟩)) rfl (ex_index rfl rfl rfl (run_idxA1 (k := 1) v8ua181 v8ea181 (by omega))) ?_
   refine xV 1 (.bool true) rfl hv v8sz4 rfl rfl (fun w59 hv => ?_)
   simp only [zS, zO, sp] at hv
   refine uZ (bN ?_)
   refine tK k22 (rL ?_)
   refine uM rfl ?_
   refine uG (vI ((i + 2 : Nat) : Int)) rfl (ex_add rfl rfl rfl (by rw [i64_in (by omega)]; omega)) (uA rfl ?_)
   refine uZ (then_normal ?_)
   go_roundw
   case rel => exact ⟨i + 2, t0, x2, b0, true, rfl, by omega, .c (by rw [hc50] at hot; exact hot) hx hx2 hsm.1 hsm.2, ((hv.front 1 rfl).front 1 rfl)⟩
   case measure => show args.length - (((i + 2 : Nat) : Int)).toNat < args.length - ((i : Int)).toNat; omega
  refine uG (.bool false) rfl (ex_lss rfl rfl rfl (qF hb21)) (uW k20 ?_)
  refine cF rfl (xE ?_)
  refine tX (tX ?_)
  refine bH (tK k16 ?_)
  refine sK fun _ k60 => rW mixed [2, 3] [0,1,2,3,4] 45 rfl (by kernel_rfl) hv ?_
  simp only [qm, opAt]
  refine dL (.agg #[vS t0, vS t1]) rfl (fun hv => ex_load rfl rfl (lM 0 v8wd180 hv rfl rfl rfl rfl)) (dF (.agg #[.bool b0, .bool b1]) rfl (fun hv => ex_load rfl rfl (lM 1 v8wd181 hv rfl rfl rfl rfl)) fun f61 hf61 => ?_)
  refine dS rfl fun w62 hv => mS 0 rfl hv v8sz180 rfl (by exact ⟨rfl, rfl, trivial⟩) (fun w63 hv => ?_)
  simp only [zO, sp] at hv
  refine dV hv (fC (fun ww hv => hf61 ww ?_) fN) ?_
  ·exact ex_load rfl rfl (lM 1 v8wd181 hv rfl rfl rfl rfl)
  simp only [zP, po]
  refine dS rfl fun w64 hv => mS 1 rfl hv v8sz181 rfl (by exact ⟨rfl, rfl, trivial⟩) (fun w65 hv => ?_)
  simp only [zS, zO, sp] at hv
  refine dV hv (fK rfl fN) (dA (vI 0) rfl ?_)
  refine dE fun w66 hv => ?_
  simp only [zP, po]
  refine tK k60 (rR ?_)
  refine bodyPost_ret (res_cct rfl rfl (lM 0 v8wd180 hv rfl rfl rfl rfl) rfl (lM 1 v8wd181 hv rfl rfl rfl rfl)) rfl ?_
  obtain rfl : i = args.length := by omega
  exact ⟨t0, t1, b0, b1, 0, rfl, .inr ⟨rfl, by omega, hot⟩, (hv.kp [] 0 2)⟩
def cntOf (t1 : List UInt8) (b1 : Bool) : List UInt8 := if b1 then t1 else [49, 48]
def PageR (n : Int) (args : List (List UInt8)) (fr to nx : Int) (mt : List UInt8) (ec : Int) : Prop :=
 (ec = 43 ∧ args = []) ∨
 ∃ a0 rest, args = a0 :: rest ∧ ((ec = 42 ∧ OptBad rest) ∨ ∃ t0 t1 b0 b1, OptR rest t0 t1 b0 b1 0 ∧
  ((ec = 41 ∧ (NumP a0 0 false ∨ NumP (cntOf t1 b1) 0 false)) ∨ ∃ k c : Int, NumP a0 k true ∧ NumP (cntOf t1 b1) c true ∧
   ((ec = 44 ∧ (k < 0 ∨ c < 1)) ∨ (ec = 0 ∧ 0 ≤ k ∧ 1 ≤ c ∧ mt = (if b0 then t0 else [42]) ∧ fr = min k (max n 0) ∧ to = fr + min c (max n 0 - fr) ∧ nx = (if to < max n 0 then to else 0)))))
def PgZ (fr to nx : Int) (mt : List UInt8) (ec : Int) : Prop := ec ≠ 0 → fr = 0 ∧ to = 0 ∧ nx = 0 ∧ mt = []
theorem PageR.bounds {n fr to nx ec : Int} {args : List (List UInt8)} {mt : List UInt8} (h : PageR n args fr to nx mt ec) (h0 : ec = 0) : 0 ≤ fr ∧ fr ≤ to ∧ to ≤ max n 0 := by
 rcases h with ⟨h1, -⟩ | ⟨a0, rest, -, ⟨h1, -⟩ | ⟨t0, t1, b0, b1, -, ⟨h1, -⟩ | ⟨k, c, -, -, ⟨h1, -⟩ | ⟨-, h1, h2, -, h3, h4, -⟩⟩⟩⟩
 all_goals omega
theorem numP_rng {s : List UInt8} {n : Int} (h : NumP s n true) : -9223372036854775808 ≤ n ∧ n ≤ 9223372036854775807 := h.elim (fun h => ⟨h.2.1, h.2.2.1⟩) (fun h => absurd h.1 (by decide))
theorem ints_two {s t : List UInt8} {ns : List Int} {ec : Int} (h : IntsR [s, t] ns ec) : (ec = 0 ∧ ∃ n m, ns = [n, m] ∧ NumP s n true ∧ NumP t m true) ∨ (ec = 41 ∧ ns = [] ∧ (NumP s 0 false ∨ NumP t 0 false)) := by
 rcases h with ⟨h1, h2, h3⟩ | ⟨h1, h2, x, hx, h3⟩
 ·match ns, h2 with
  | [n, m], _ => exact .inl ⟨h1, n, m, rfl, h3 0 s n rfl rfl, h3 1 t m rfl rfl⟩
 rcases List.mem_cons.1 hx with rfl | hx
 ·exact .inr ⟨h1, h2, .inl h3⟩
 rw [List.mem_singleton.1 hx] at h3; exact .inr ⟨h1, h2, .inr h3⟩
theorem v8al151 : AL Tryz.prog 151 [vI 0, vI 0, vI 0, vS []] := fun w => by kernel_rfl
theorem v8sz151 : (Tryz.prog.info? 151).map (·.size) = some 4 := by kernel_rfl
theorem v8wd151 : Wide Tryz.prog 151 4 := wide_of (fun w => by kernel_rfl) (by kernel_rfl)
theorem v8callable99 : Callable Tryz.prog 99 := cb Tryz.func99 (by kernel_rfl)
theorem v8callable82 : Callable Tryz.prog 82 := cb Tryz.func82 (by kernel_rfl)
theorem v8fa151_0 : FA Tryz.prog 151 0 0 := fun w b o => by kernel_rfl
theorem v8fa151_1 : FA Tryz.prog 151 1 1 := fun w b o => by kernel_rfl
theorem v8fa151_2 : FA Tryz.prog 151 2 2 := fun w b o => by kernel_rfl
theorem viewPagesZ (B : Base) (H : List Res) (w : World) (n : Int) (hn0 : -9223372036854775808 ≤ n) (hn1 : n ≤ 9223372036854775807) (aa : Option Addr) (ac : Nat) (args : List (List UInt8)) (hra : RdV B [] aa (textCells args)) (hma : args.length ≤ 10000) (hxl : ∀ x ∈ args, x.length ≤ 9223372036854775807) (hoka : SliceOk aa args.length ac) (hN : NumB B) (hv : Inv B H w) :
  Calls Tryz.prog 86 #[vI n, .slice aa args.length ac] w fun e w' => ∃ fr to nx mt ec, e = .returned (.tuple #[.agg #[vI fr, vI to, vI nx, vS mt], vI ec]) ∧ PgZ fr to nx mt ec ∧ PageR n args fr to nx mt ec ∧ Inv B H w' := by
 refine cW Tryz.func86 rfl Tryz.ntmps86 ?_
 simp only [al]
 refine sK fun _ k1 => rL (sl_alloc tV (wn rfl) rfl hv v8al151 (fun b2 w3 hv => ?_))
 refine uA rfl (uW k1 ?_)
 refine sK fun _ k4 => sK fun _ k5 => rL (uM rfl ?_)
 refine uG (vI (args.length : Int)) rfl (ex_len0 Tryz.underlying26 rfl rfl) ?_
 by_cases hb6 : (args.length : Int) = 0
 ·refine uG (.bool true) rfl (ex_eql rfl rfl rfl (qT hb6)) (uW k5 ?_)
  refine cT rfl (sK fun _ k7 => ?_)
  refine rL (uG (.agg #[vI 0, vI 0, vI 0, vS []]) rfl (ex_buildN (vs := #[]) rfl (by simp only [List.map_toArray, List.map_nil]) (by kernel_rfl)) ?_)
  refine xS 0 rfl hv v8sz151 rfl (by exact ⟨rfl, rfl, rfl, rfl, trivial⟩) (fun w8 hv => ?_)
  simp only [zO, sp] at hv
  refine uA rfl (uW k7 ?_)
  refine rR (tR ?_)
  refine bodyPost_ret (res_cell2 rfl rfl (lM 0 v8wd151 hv rfl rfl rfl rfl)) rfl (⟨0, 0, 0, [], 43, rfl, fun _ => ⟨rfl, rfl, rfl, rfl⟩, .inl ⟨rfl, List.eq_nil_of_length_eq_zero (by omega)⟩, ((hv.kp [] 0 1)).weak (Base.Le.refl _)⟩)
 refine uG (.bool false) rfl (ex_eql rfl rfl rfl (qF hb6)) (uW k5 ?_)
 refine cF rfl (kS ?_)
 refine tK k4 (sK fun _ k9 => ?_)
 have hal : 1 ≤ args.length := by omega
 have hd1 : (args.drop 1).length = args.length - 1 := List.length_drop
 obtain ⟨a3, c3, ha3, ok3, hr3⟩ := sliced_fromV 1 hoka hra (textCells_len args) hal (by decide)
 rw [Nat.mul_one, pg_drop] at hr3
 obtain ⟨a0, rest, hargs⟩ : ∃ a l, args = a :: l := by cases args with | nil => simp at hal | cons a l => exact ⟨a, l, rfl⟩
 have hdr : args.drop 1 = rest := by rw [hargs]; rfl
 refine rL (uM rfl ?_)
 refine uG (.slice a3 ((args.drop 1).length) c3) rfl (ex_slice (lo' := some (vI ((1 : Nat) : Int))) rfl rfl (congrArg some rfl) rfl rfl ((run_fromAny Tryz.underlying26 s9es26 (by omega)).trans (by rw [ha3, hd1]))) ?_
 refine xC v8callable99 rfl ((viewOptions B _ _ a3 c3 (args.drop 1) hr3 (by omega) (fun x hx => hxl x (List.mem_of_mem_drop hx)) hv).mono ?_) rfl
 rintro e w10 ⟨t0, t1, b0, b1, eo, rfl, hopt, hv⟩
 refine ⟨_, rfl, uM rfl ?_⟩
 refine uE rfl (uE rfl ?_)
 refine uE rfl ?_
 refine sl_alloc tV (wn rfl) rfl hv v8al180 (fun b11 w12 hv => ?_)
 simp only [zP, po]
 refine sl_alloc tV (wn rfl) rfl hv v8al181 (fun b13 w14 hv => ?_)
 simp only [zP, po]
 refine xS 1 rfl hv v8sz180 rfl (by exact ⟨rfl, rfl, trivial⟩) (fun w15 hv => ?_)
 simp only [zS, zO, sp] at hv
 simp only [zP, po]
 refine xS 0 rfl hv v8sz181 rfl (by exact ⟨rfl, rfl, trivial⟩) (fun w16 hv => ?_)
 simp only [zO, sp] at hv
 refine uA rfl (uW k9 ?_)
 refine sK fun _ k17 => sK fun _ k18 => rL (uM rfl ?_)
 by_cases hb19 : eo ≠ 0
 ·refine uG (.bool true) rfl (ex_neq rfl rfl rfl (qT hb19)) (uW k18 ?_)
  refine cT rfl (sK fun _ k20 => ?_)
  refine rL (uG (.agg #[vI 0, vI 0, vI 0, vS []]) rfl (ex_buildN (vs := #[]) rfl (by simp only [List.map_toArray, List.map_nil]) (by kernel_rfl)) ?_)
  refine uM rfl ?_
  refine xS 2 rfl hv v8sz151 rfl (by exact ⟨rfl, rfl, rfl, rfl, trivial⟩) (fun w21 hv => ?_)
  simp only [zS, zO, sp] at hv
  refine uA rfl (uW k20 ?_)
  refine rR (tR ?_)
  refine bodyPost_ret (res_cell2 rfl rfl (lM 2 v8wd151 hv rfl rfl rfl rfl)) rfl ?_
  rw [hdr] at hopt
  refine ⟨0, 0, 0, [], eo, rfl, fun _ => ⟨rfl, rfl, rfl, rfl⟩, .inr ⟨a0, rest, hargs, .inl ?_⟩, ((hv.kp [] 0 3)).weak (Base.Le.refl _)⟩
  rcases hopt with ⟨h1, h2⟩ | ⟨h1, -⟩
  ·exact ⟨h1, h2⟩
  omega
 refine uG (.bool false) rfl (ex_neq rfl rfl rfl (qF hb19)) (uW k18 ?_)
 refine cF rfl (kS ?_)
 refine tK k17 (sK fun _ k22 => ?_)
 refine rL (uA rfl ?_)
 refine uA rfl (uW k22 ?_)
 refine sK fun K23 k23 => ?_
 have hJ23 : ∀ (mt : List UInt8) (j28 j29 j30 j31 : Value) (w24 : World), (mt = (if b0 then t0 else [42])) → Inv B (Res.cell b13 [.bool b0, .bool b1] 181 :: Res.cell b11 [vS t0, vS t1] 180 :: Res.cell b2 [vI 0, vI 0, vI 0, vS []] 151 :: H) w24 → K23 { tmps := List.toArray (vI n :: .slice aa args.length ac :: undef :: undef :: vP b2 :: vI 0 :: vP b11 :: vP b13 :: vI eo :: vS mt :: vS [49, 48] :: undef :: undef :: .slice aa args.length ac :: vI (args.length : Int) :: .bool false :: undef :: .tuple #[.agg #[vS t0, vS t1], .agg #[.bool b0, .bool b1], vI eo] :: .slice aa args.length ac :: .slice a3 ((args.drop 1).length) c3 :: .tuple #[.agg #[vS t0, vS t1], .agg #[.bool b0, .bool b1], vI eo] :: .agg #[vS t0, vS t1] :: .agg #[.bool b0, .bool b1] :: vI eo :: vI eo :: .bool false :: undef :: undef :: j28 :: j29 :: j30 :: j31 :: undef :: undef :: undef :: undef :: undef :: undef :: undef :: undef :: undef :: undef :: undef :: undef :: undef :: undef :: undef :: undef :: undef :: undef :: undef :: undef :: undef :: undef :: undef :: undef :: undef :: undef :: undef :: undef :: undef :: undef :: undef :: undef :: undef :: undef :: undef :: undef :: undef :: undef :: undef :: undef :: undef :: undef :: undef :: undef :: undef :: undef :: undef :: undef :: undef :: undef :: undef :: undef :: undef :: undef :: undef :: undef :: undef :: []), defers := [] } w24 := by
  intro mt j28 j29 j30 j31 w24 hmt hv
  refine k23 _ _ (sK fun K25 k25 => ?_)
  have hJ25 : ∀ (cnt : List UInt8) (j32 j33 j34 j35 : Value) (w26 : World), (cntOf t1 b1 = cnt) → Inv B (Res.cell b13 [.bool b0, .bool b1] 181 :: Res.cell b11 [vS t0, vS t1] 180 :: Res.cell b2 [vI 0, vI 0, vI 0, vS []] 151 :: H) w26 → K25 { tmps := List.toArray (vI n :: .slice aa args.length ac :: undef :: undef :: vP b2 :: vI 0 :: vP b11 :: vP b13 :: vI eo :: vS mt :: vS cnt :: undef :: undef :: .slice aa args.length ac :: vI (args.length : Int) :: .bool false :: undef :: .tuple #[.agg #[vS t0, vS t1], .agg #[.bool b0, .bool b1], vI eo] :: .slice aa args.length ac :: .slice a3 ((args.drop 1).length) c3 :: .tuple #[.agg #[vS t0, vS t1], .agg #[.bool b0, .bool b1], vI eo] :: .agg #[vS t0, vS t1] :: .agg #[.bool b0, .bool b1] :: vI eo :: vI eo :: .bool false :: undef :: undef :: j28 :: j29 :: j30 :: j31 :: j32 :: j33 :: j34 :: j35 :: undef :: undef :: undef :: undef :: undef :: undef :: undef :: undef :: undef :: undef :: undef :: undef :: undef :: undef :: undef :: undef :: undef :: undef :: undef :: undef :: undef :: undef :: undef :: undef :: undef :: undef :: undef :: undef :: undef :: undef :: undef :: undef :: undef :: undef :: undef :: undef :: undef :: undef :: undef :: undef :: undef :: undef :: undef :: undef :: undef :: undef :: undef :: undef :: undef :: undef :: undef :: undef :: undef :: []), defers := [] } w26 := by
   intro cnt j32 j33 j34 j35 w26 hcn hv
   refine k25 _ _ (sK fun _ k27 => ?_)
   obtain ⟨ab, ao, had, hrdx0⟩ := text_reads hra (show args[0]? = some a0 by rw [hargs]; rfl)
   subst had
   refine rL (uM rfl ?_)
   refine uG (.pointer (some ⟨ab, ao + 0, none⟩)) rfl (ex_index rfl rfl rfl (run_idx1 (k := 0) Tryz.underlying26 s9es26 (by omega))) ?_
   refine uL _ rfl (run_load1 s9na9 (hrdx0 _ _ _ (Base.Le.refl _) no_res hv 0 _ rfl)) (uM rfl ?_)
   refine sl_rowN (pv := #[(0, vS a0), (1, vS cnt)]) (L := [vS a0, vS cnt]) (e := 9) tV (wn rfl) rfl (by simp only [List.map_toArray, List.map_cons, List.map_nil]; rfl) hv (fun w => by kernel_rfl) (fun b28 w29 hv => ?_)
   simp only [zP, po]
   obtain ⟨D1, hD1, hv, hrk, -, -⟩ := (hv.cellRow (n := 2) (c := 2) (size := 1) rfl (by decide) (by decide)).rowBy
   refine xC v8callable82 rfl ((viewInts D1 _ _ _ 2 [a0, cnt] hrk (by simp) (hN.more hD1) hv).mono ?_) rfl
   rintro e w30 ⟨E, ia, ic, ns, ei, hE, rfl, hri, hir, hv⟩
   refine ⟨_, rfl, ?_⟩
   have heo : eo = 0 := by omega
   subst heo
   rcases ints_two hir with ⟨rfl, n0, n1, rfl, hn0, hn1⟩ | ⟨rfl, rfl, hnb⟩
   ·have hr0 := numP_rng hn0
    have hr1 := numP_rng hn1
    obtain ⟨ib, io, had, hrd0⟩ := int_reads hri (show [n0, n1][0]? = some n0 from rfl)
    obtain ⟨ib9, io9, had9, hrd1⟩ := int_reads hri (show [n0, n1][1]? = some n1 from rfl)
    subst had
    cases had9
    refine uG (.tuple #[.slice (some ⟨ib, io, none⟩) 2 ic, vI 0]) rfl (ex_move rfl rfl) ?_
    refine uG (.slice (some ⟨ib, io, none⟩) 2 ic) rfl (ex_extract rfl rfl rfl) (uE rfl ?_)
    refine uA rfl (uA rfl ?_)
    refine uW k27 (sK fun _ k31 => ?_)
    refine sK fun _ k32 => rL (uM rfl ?_)
    refine uG (.bool false) rfl (ex_neq rfl rfl rfl (by decide)) (uW k32 ?_)
    refine cF rfl (kS ?_)
    refine tK k31 (sK fun _ k33 => ?_)
    refine sK fun _ k34 => rL (uG (.slice (some ⟨ib, io, none⟩) 2 ic) rfl (ex_move rfl rfl) ?_)
    refine uG (.pointer (some ⟨ib, io + 0, none⟩)) rfl (ex_index rfl rfl rfl (run_idx1 (k := 0) Tryz.underlying145 s11es145 (by omega))) ?_
    refine uL _ rfl (run_load1 s2na3 (hrd0 _ _ _ (Base.Le.refl _) no_res hv 0 _ rfl)) ?_
    by_cases hb35 : n0 < 0
    ·refine uG (.bool true) rfl (ex_lss rfl rfl rfl (qT hb35)) (uM rfl ?_)
     iterate 4 refine uP rfl ?_
     refine uK rfl (uW k34 ?_)
     refine cT rfl (sK fun _ k36 => ?_)
     refine rL (uG (.agg #[vI 0, vI 0, vI 0, vS []]) rfl (ex_buildN (vs := #[]) rfl (by simp only [List.map_toArray, List.map_nil]) (by kernel_rfl)) ?_)
     refine xS 2 rfl hv v8sz151 rfl (by exact ⟨rfl, rfl, rfl, rfl, trivial⟩) (fun w37 hv => ?_)
     simp only [zS, zO, sp] at hv
     refine uA rfl (uW k36 ?_)
     refine rR (tR ?_)
     refine bodyPost_ret (res_cell2 rfl rfl (lM 2 v8wd151 hv rfl rfl rfl rfl)) rfl ?_
     rw [hdr] at hopt
     have hn1c : NumP (cntOf t1 b1) n1 true := by rw [hcn]; exact hn1
     exact ⟨0, 0, 0, [], 44, rfl, fun _ => ⟨rfl, rfl, rfl, rfl⟩, .inr ⟨a0, rest, hargs, .inr ⟨t0, t1, b0, b1, hopt, .inr ⟨n0, n1, hn0, hn1c, .inl ⟨rfl, by omega⟩⟩⟩⟩, ((hv.kp [] 0 3)).weak (hD1.trans hE)⟩
    refine uG (.bool false) rfl (ex_lss rfl rfl rfl (qF hb35)) (uM rfl ?_)
    refine uG (.slice (some ⟨ib, io, none⟩) 2 ic) rfl (ex_move rfl rfl) ?_
    refine uG (.pointer (some ⟨ib, io + 1, none⟩)) rfl (ex_index rfl rfl rfl (run_idx1 (k := 1) Tryz.underlying145 s11es145 (by omega))) ?_
    refine uL _ rfl (run_load1 s2na3 (hrd1 _ _ _ (Base.Le.refl _) no_res hv 0 _ rfl)) ?_
    by_cases hb38 : n1 < 1
    ·refine uG (.bool true) rfl (ex_lss rfl rfl rfl (qT hb38)) (uK rfl ?_)
     refine uW k34 (cT rfl ?_)
     refine sK fun _ k39 => rL (uG (.agg #[vI 0, vI 0, vI 0, vS []]) rfl (ex_buildN (vs := #[]) rfl (by simp only [List.map_toArray, List.map_nil]) (by kernel_rfl)) ?_)
     refine xS 2 rfl hv v8sz151 rfl (by exact ⟨rfl, rfl, rfl, rfl, trivial⟩) (fun w40 hv => ?_)
     simp only [zS, zO, sp] at hv
     refine uA rfl (uW k39 ?_)
     refine rR (tR ?_)
     refine bodyPost_ret (res_cell2 rfl rfl (lM 2 v8wd151 hv rfl rfl rfl rfl)) rfl ?_
     rw [hdr] at hopt
     have hn1c : NumP (cntOf t1 b1) n1 true := by rw [hcn]; exact hn1
     exact ⟨0, 0, 0, [], 44, rfl, fun _ => ⟨rfl, rfl, rfl, rfl⟩, .inr ⟨a0, rest, hargs, .inr ⟨t0, t1, b0, b1, hopt, .inr ⟨n0, n1, hn0, hn1c, .inl ⟨rfl, by omega⟩⟩⟩⟩, ((hv.kp [] 0 3)).weak (hD1.trans hE)⟩
    refine uG (.bool false) rfl (ex_lss rfl rfl rfl (qF hb38)) (uK rfl ?_)
    refine uW k34 (cF rfl ?_)
    refine kS (tK k33 ?_)
    refine sK fun _ k41 => rL (uM rfl ?_)
    refine uG (vI (max n 0)) rfl (ex_max2 (m := n) (n := 0) rfl rfl rfl (by split <;> omega)) (uA rfl ?_)
    refine uW k41 (sK fun _ k42 => ?_)
    have hk0 : 0 ≤ n0 := by omega
    have hk1 : 1 ≤ n1 := by omega
    refine rL (uG (.slice (some ⟨ib, io, none⟩) 2 ic) rfl (ex_move rfl rfl) ?_)
    refine uG (.pointer (some ⟨ib, io + 0, none⟩)) rfl (ex_index rfl rfl rfl (run_idx1 (k := 0) Tryz.underlying145 s11es145 (by omega))) ?_
    refine uL _ rfl (run_load1 s2na3 (hrd0 _ _ _ (Base.Le.refl _) no_res hv 0 _ rfl)) (uM rfl ?_)
    refine uG (vI (min n0 (max n 0))) rfl (ex_min2 (m := n0) (n := (max n 0)) rfl rfl rfl (by split <;> omega)) (uM rfl ?_)
    refine uG (.agg #[vI (min n0 (max n 0)), vI 0, vI 0, vS mt]) rfl (ex_buildN (vs := #[(0, vI (min n0 (max n 0))), (3, vS mt)]) rfl (by simp only [List.map_toArray, List.map_cons, List.map_nil]; rfl) (by kernel_rfl)) ?_
    refine sl_alloc tV (wn rfl) rfl hv v8al151 (fun b43 w44 hv => ?_)
    simp only [zP, po]
    refine xS 0 rfl hv v8sz151 rfl (by exact ⟨rfl, rfl, rfl, rfl, trivial⟩) (fun w45 hv => ?_)
    simp only [zO, sp] at hv
    refine uW k42 (sK fun _ k46 => ?_)
    refine rW mixed [12] [0,1,2,3,4,5,6,7,8,9,10,11,12] 89 rfl (by kernel_rfl) hv ?_
    simp only [qm, opAt]
    refine dG (vP b43) rfl (ex_field rfl rfl (v8fa151_0 _ _ _)) (dL _ rfl (fun hv => ex_load rfl rfl (run_load1 s2na3 (hv.load 0 0 rfl rfl))) ?_)
    refine dM (.slice (some ⟨ib, io, none⟩) 2 ic) rfl ?_
    simp only [zP, po]
    refine dG (.pointer (some ⟨ib, io + 1, none⟩)) rfl (ex_index rfl rfl rfl (run_idx1 (k := 1) Tryz.underlying145 s11es145 (by omega))) (dL _ rfl (fun hv => ex_load rfl rfl (run_load1 s2na3 (hrd1 _ _ _ (Base.Le.refl _) no_res hv 0 _ rfl))) ?_)
    refine dM (vI (max n 0)) rfl ?_
    simp only [zP, po]
    refine dG (vP b43) rfl (ex_field rfl rfl (v8fa151_0 _ _ _)) (dL _ rfl (fun hv => ex_load rfl rfl (run_load1 s2na3 (hv.load 0 0 rfl rfl))) ?_)
    refine dG (vI (max n 0 - (min n0 (max n 0)))) rfl (ex_sub rfl rfl rfl (by rw [i64_in (by omega)])) ?_
    simp only [zP, po]
    refine dG (vI (min n1 (max n 0 - (min n0 (max n 0))))) rfl (ex_min2 (m := n1) (n := (max n 0 - (min n0 (max n 0)))) rfl rfl rfl (by split <;> omega)) (dG (vI ((min n0 (max n 0)) + min n1 (max n 0 - (min n0 (max n 0))))) rfl (ex_add rfl rfl rfl (by rw [i64_in (by omega)])) ?_)
    refine dG (.pointer (some ⟨b43, 1, none⟩)) rfl (ex_field rfl rfl (v8fa151_1 _ _ _)) ?_
    simp only [zP, po]
    refine dS rfl fun w47 hv => mV 0 (vI ((min n0 (max n 0)) + min n1 (max n 0 - (min n0 (max n 0))))) rfl hv x3sz3 rfl rfl (fun w48 hv => ?_)
    simp only [zO, sp] at hv
    refine dW hv (dE fun w49 hv => ?_)
    simp only [zP, po]
    refine tK k46 (sK fun _ k50 => ?_)
    refine sK fun _ k51 => rL (uF (.pointer (some ⟨b43, 1, none⟩)) rfl (v8fa151_1 _ _ _) ?_)
    refine uL _ rfl (run_load1 s2na3 (hv.load 0 1 rfl rfl)) (uM rfl ?_)
    by_cases hb52 : ((min n0 (max n 0)) + min n1 (max n 0 - (min n0 (max n 0)))) < (max n 0)
    ·refine uG (.bool true) rfl (ex_lss rfl rfl rfl (qT hb52)) (uW k51 ?_)
     refine cT rfl (rL ?_)
     refine uF (.pointer (some ⟨b43, 1, none⟩)) rfl (v8fa151_1 _ _ _) ?_
     refine uL _ rfl (run_load1 s2na3 (hv.load 0 1 rfl rfl)) ?_
     refine uF (.pointer (some ⟨b43, 2, none⟩)) rfl (v8fa151_2 _ _ _) ?_
     refine xV 0 (vI ((min n0 (max n 0)) + min n1 (max n 0 - (min n0 (max n 0))))) rfl hv x3sz3 rfl rfl (fun w53 hv => ?_)
     simp only [zO, sp] at hv
     refine uW k50 (sK fun _ k54 => ?_)
     refine rL (uL (.agg #[vI (min n0 (max n 0)), vI ((min n0 (max n 0)) + min n1 (max n 0 - (min n0 (max n 0)))), vI ((min n0 (max n 0)) + min n1 (max n 0 - (min n0 (max n 0)))), vS mt]) rfl (lM 0 v8wd151 hv rfl rfl rfl rfl) ?_)
     refine xS 3 rfl hv v8sz151 rfl (by exact ⟨rfl, rfl, rfl, rfl, trivial⟩) (fun w55 hv => ?_)
     simp only [zS, zO, sp] at hv
     refine uA rfl (uW k54 ?_)
     refine rR (bodyPost_ret (res_cell2 rfl rfl (lM 3 v8wd151 hv rfl rfl rfl rfl)) rfl ?_)
     rw [hdr] at hopt
     have hn1c : NumP (cntOf t1 b1) n1 true := by rw [hcn]; exact hn1
     exact ⟨(min n0 (max n 0)), ((min n0 (max n 0)) + min n1 (max n 0 - (min n0 (max n 0)))), ((min n0 (max n 0)) + min n1 (max n 0 - (min n0 (max n 0)))), mt, 0, rfl, fun h9 => absurd rfl h9, .inr ⟨a0, rest, hargs, .inr ⟨t0, t1, b0, b1, hopt, .inr ⟨n0, n1, hn0, hn1c, .inr ⟨rfl, hk0, hk1, hmt, rfl, rfl, by rw [if_pos (by omega)]⟩⟩⟩⟩, ((hv.kp [] 0 4)).weak (hD1.trans hE)⟩
    refine uG (.bool false) rfl (ex_lss rfl rfl rfl (qF hb52)) (uW k51 ?_)
    refine cF rfl (kS ?_)
    refine tK k50 (sK fun _ k56 => ?_)
    refine rL (uL (.agg #[vI (min n0 (max n 0)), vI ((min n0 (max n 0)) + min n1 (max n 0 - (min n0 (max n 0)))), vI 0, vS mt]) rfl (lM 0 v8wd151 hv rfl rfl rfl rfl) ?_)
    refine xS 3 rfl hv v8sz151 rfl (by exact ⟨rfl, rfl, rfl, rfl, trivial⟩) (fun w57 hv => ?_)
    simp only [zS, zO, sp] at hv
    refine uA rfl (uW k56 ?_)
    refine rR (bodyPost_ret (res_cell2 rfl rfl (lM 3 v8wd151 hv rfl rfl rfl rfl)) rfl ?_)
    rw [hdr] at hopt
    have hn1c : NumP (cntOf t1 b1) n1 true := by rw [hcn]; exact hn1
    exact ⟨(min n0 (max n 0)), ((min n0 (max n 0)) + min n1 (max n 0 - (min n0 (max n 0)))), 0, mt, 0, rfl, fun h9 => absurd rfl h9, .inr ⟨a0, rest, hargs, .inr ⟨t0, t1, b0, b1, hopt, .inr ⟨n0, n1, hn0, hn1c, .inr ⟨rfl, hk0, hk1, hmt, rfl, rfl, by rw [if_neg (by omega)]⟩⟩⟩⟩, ((hv.kp [] 0 4)).weak (hD1.trans hE)⟩
   refine uM rfl (uE rfl ?_)
   refine uE rfl (uA rfl ?_)
   refine uA rfl (uW k27 ?_)
   refine sK fun _ k58 => sK fun _ k59 => rL (uM rfl ?_)
   refine uG (.bool true) rfl (ex_neq rfl rfl rfl (by decide)) (uW k59 ?_)
   refine cT rfl (sK fun _ k60 => ?_)
   refine rL (uG (.agg #[vI 0, vI 0, vI 0, vS []]) rfl (ex_buildN (vs := #[]) rfl (by simp only [List.map_toArray, List.map_nil]) (by kernel_rfl)) ?_)
   refine uM rfl ?_
   refine xS 2 rfl hv v8sz151 rfl (by exact ⟨rfl, rfl, rfl, rfl, trivial⟩) (fun w61 hv => ?_)
   simp only [zS, zO, sp] at hv
   refine uA rfl (uW k60 ?_)
   refine rR (tR ?_)
   refine bodyPost_ret (res_cell2 rfl rfl (lM 2 v8wd151 hv rfl rfl rfl rfl)) rfl ?_
   rw [hdr] at hopt
   exact ⟨0, 0, 0, [], 41, rfl, fun _ => ⟨rfl, rfl, rfl, rfl⟩, .inr ⟨a0, rest, hargs, .inr ⟨t0, t1, b0, b1, hopt, .inl ⟨rfl, by rw [hcn]; exact hnb⟩⟩⟩, ((hv.kp [] 0 3)).weak (hD1.trans hE)⟩
  refine sK fun _ k62 => rL (uG (.pointer (some ⟨b13, 1, none⟩)) rfl (ex_index rfl rfl rfl (run_idxA1 (k := 1) v8ua181 v8ea181 (by omega))) ?_)
  refine uL _ rfl (run_load1 s2na4 (hv.load 0 1 rfl rfl)) (uW k62 ?_)
  refine wpIn_cond_split (t := b1) rfl (fun hc63 => ?_) (fun hc63 => ?_)
  ·refine rL (uG (.pointer (some ⟨b11, 1, none⟩)) rfl (ex_index rfl rfl rfl (run_idxA1 (k := 1) v8ua180 v8ea180 (by omega))) ?_)
   refine uL _ rfl (run_load1 s9na9 (hv.load 1 1 rfl rfl)) (uA rfl ?_)
   refine uZ (then_normal (hJ25 t1 _ _ _ _ _ (by rw [hc63]; rfl) hv))
  refine kS (then_normal (hJ25 ([49, 48] : List UInt8) _ _ _ _ _ (by rw [hc63]; rfl) hv))
 refine sK fun _ k64 => rL (uG (vP b13) rfl (ex_index rfl rfl rfl (run_idxA1 (k := 0) v8ua181 v8ea181 (by omega))) ?_)
 refine uL _ rfl (run_load1 s2na4 (hv.load 0 0 rfl rfl)) (uW k64 ?_)
 refine wpIn_cond_split (t := b0) rfl (fun hc65 => ?_) (fun hc65 => ?_)
 ·refine rL (uG (vP b11) rfl (ex_index rfl rfl rfl (run_idxA1 (k := 0) v8ua180 v8ea180 (by omega))) ?_)
  refine uL _ rfl (run_load1 s9na9 (hv.load 1 0 rfl rfl)) (uA rfl ?_)
  refine uZ (then_normal (hJ23 t0 _ _ _ _ _ (by rw [hc65]; rfl) hv))
 refine kS (then_normal (hJ23 ([42] : List UInt8) _ _ _ _ _ (by rw [hc65]; rfl) hv))
theorem viewPages (B : Base) (H : List Res) (w : World) (n : Int) (hn0 : -9223372036854775808 ≤ n) (hn1 : n ≤ 9223372036854775807) (aa : Option Addr) (ac : Nat) (args : List (List UInt8)) (hra : RdV B [] aa (textCells args)) (hma : args.length ≤ 10000) (hxl : ∀ x ∈ args, x.length ≤ 9223372036854775807) (hoka : SliceOk aa args.length ac) (hN : NumB B) (hv : Inv B H w) : Calls Tryz.prog 86 #[vI n, .slice aa args.length ac] w fun e w' => ∃ fr to nx mt ec, e = .returned (.tuple #[.agg #[vI fr, vI to, vI nx, vS mt], vI ec]) ∧ PageR n args fr to nx mt ec ∧ Inv B H w' := by
 refine (viewPagesZ B H w n hn0 hn1 aa ac args hra hma hxl hoka hN hv).mono ?_
 rintro e w' ⟨fr, to, nx, mt, ec, h1, -, h2, h3⟩
 exact ⟨fr, to, nx, mt, ec, h1, h2, h3⟩
theorem v8fa151_3 : FA Tryz.prog 151 3 3 := fun w b o => by kernel_rfl
theorem v8callable85 : Callable Tryz.prog 85 := cb Tryz.func85 (by kernel_rfl)
theorem pageFits (B : Base) (H : List Res) (w : World) (fr to nx : Int) (mt s : List UInt8) (hm : mt.length ≤ 1000000) (hs : s.length ≤ 1000000) (hv : Inv B H w) :
  Calls Tryz.prog 87 #[.agg #[vI fr, vI to, vI nx, vS mt], vS s] w fun e w' => ∃ b, e = .returned (.bool b) ∧ (b = true ↔ MatchP (divS mt true 0) s) ∧ Inv B H w' := by
 refine cW Tryz.func87 rfl Tryz.ntmps87 ?_
 simp only [al]
 refine sK fun _ k1 => rL (sl_box (L := [vI fr, vI to, vI nx, vS mt]) tV (wn rfl) rfl rfl hv (fun w => by kernel_rfl) (fun b2 w3 hv => ?_))
 refine uA rfl (uW k1 ?_)
 refine sK fun _ k4 => rL (uF (.pointer (some ⟨b2, 3, none⟩)) rfl (v8fa151_3 _ _ _) ?_)
 refine uL _ rfl (run_load1 s9na9 (hv.load 0 3 rfl rfl)) (uM rfl ?_)
 refine xC v8callable85 rfl ((globMatch B _ _ mt hm s hs hv).mono ?_) rfl
 rintro e w5 ⟨b, rfl, hb, hv⟩
 refine ⟨_, rfl, uA rfl ?_⟩
 refine uW k4 (rR ?_)
 refine bR rfl rfl (⟨b, rfl, hb, (hv.kp [] 0 1)⟩)
theorem valAt_open {C : Base} {v : Val} {p t z : Value} (h : ValAt C v p t z) : ∃ pa pc sa sc za zc, p = .slice pa v.pairs.length pc ∧ t = .slice sa v.texts.length sc ∧ z = .slice za v.zset.length zc ∧ SliceOk pa v.pairs.length pc ∧ RdV C [] pa (pairCells v.pairs) ∧ SliceOk sa v.texts.length sc ∧ RdV C [] sa (textCells v.texts) ∧ SliceOk za v.zset.length zc ∧ RdV C [] za (memCells v.zset) := by
 obtain ⟨⟨a1, c1, h1, h2, h3⟩, ⟨a2, c2, h4, h5, h6⟩, ⟨a3, c3, h7, h8, h9⟩, -⟩ := h
 exact ⟨a1, c1, a2, c2, a3, c3, h1, h4, h7, h2, h3, h5, h6, h8, h9⟩
theorem tx_take (l : List (List UInt8)) (i : Nat) : (textCells l).take i = textCells (l.take i) := by simp [textCells]
theorem tx_drop (l : List (List UInt8)) (i : Nat) : (textCells l).drop i = textCells (l.drop i) := by simp [textCells]
theorem sliced_midV {B : Base} {ad : Option Addr} {n c l h : Nat} {xs : List Value} (size : Nat) (hok : SliceOk ad n c) (hr : RdV B [] ad xs) (hl : xs.length = n * size) (hlh : l ≤ h) (hh : h ≤ n) (hz : 0 < size) : ∃ a2 c2, sliced ad l h c size = .slice a2 (h - l) c2 ∧ SliceOk a2 (h - l) c2 ∧ RdV B [] a2 ((xs.drop (l * size)).take ((h - l) * size)) := by
 obtain ⟨a2, c2, h1, h2, h3⟩ := sliced_fromV size hok hr hl (show l ≤ n by omega) hz
 have e : sliced ad l h c size = .slice a2 (h - l) c2 := by
  unfold sliced at h1 ⊢
  split at h1 <;> rename_i hc <;> simp only [hc, if_true, if_false] at h1 ⊢ <;> (injection h1 with e1 e2 e3; subst e1 e3; rfl)
 refine ⟨a2, c2, e, ⟨by have := h2.le; omega, h2.max, h2.nil⟩, fun i hi => ?_⟩
 rw [List.length_take] at hi
 obtain ⟨b, off, h5, h6⟩ := h3 i (by omega)
 refine ⟨b, off, h5, ?_⟩
 rw [List.getElem_take]
 exact h6
section
variable {P : Program} {t : TypeId} {w : World}
theorem run_lhAny {ad : Option Addr} {n c l h size : Nat} (ht : P.underlying t = some (.slice (P.elem t))) (hs : ∀ w, (sizeOf (P.elem t)).run P w = .ok size w) (h1 : l ≤ h) (h2 : h ≤ c) :
  (Instr.sliceAt t (.slice ad n c) (some (vI l)) (some (vI h)) none).run P w = .ok (sliced ad l h c size) w := by
 rw [run_sliceAt_slice w t _ _ _ _ ht, run_slice_lh w t _ n c ht .i64 .i64 l h (by omega) (by omega) (by omega), hs]
 simp only [Result.andThen, Int.toNat_natCast]
theorem run_lhAnyI {ad : Option Addr} {n c l h size : Nat} {x y : Int} (hx : x = (l : Int)) (hy : y = (h : Int)) (ht : P.underlying t = some (.slice (P.elem t))) (hs : ∀ w, (sizeOf (P.elem t)).run P w = .ok size w) (h1 : l ≤ h) (h2 : h ≤ c) :
  (Instr.sliceAt t (.slice ad n c) (some (vI x)) (some (vI y)) none).run P w = .ok (sliced ad l h c size) w := by
 subst hx hy; exact run_lhAny ht hs h1 h2
end
def tleaf (s : List UInt8) : Leaf := ⟨3, s, 0⟩
theorem strs_leaf (l : List (List UInt8)) : strsCells l = lvC (l.map tleaf) none := by
 show l.flatMap _ = (l.map tleaf).flatMap leafN
 rw [List.flatMap_map]; rfl
theorem listIn_two {B : Base} {s : List UInt8} {l : List (List UInt8)} {a : Option Addr} {c : Nat} (hok : SliceOk a l.length c) (hr : RdV B [] a (strsCells l)) (hm : l.length ≤ 1000000) :
  ListIn B 2 (rpCells 3 s 0 (vN) ++ rpCells 5 [] 0 (.slice a l.length c)) (rList [rStr s, rStrs l]) := by
 refine .inr ⟨[⟨3, s, 0⟩], l.map tleaf, ⟨5, [], 0⟩, a, c, rfl, ?_, ?_, ?_, ?_, ?_⟩
 ·rw [List.length_map]; rfl
 ·rw [List.length_map]; exact hok
 ·rw [← strs_leaf]; exact hr
 ·rw [List.length_map]; exact hm
 rw [List.map_map]; rfl
theorem NumP.uniq {s : List UInt8} {n m : Int} {b c : Bool} (h : NumP s n b) (h2 : NumP s m c) : n = m ∧ b = c := by
 rcases h with ⟨rfl, h0, h1, rfl⟩ | ⟨rfl, rfl, h⟩
 ·rcases h2 with ⟨rfl, k0, k1, e⟩ | ⟨rfl, rfl, h2⟩
  ·have := parse_itoa n h0 h1
   rw [e, parse_itoa m k0 k1] at this
   cases this; exact ⟨rfl, rfl⟩
  exact absurd rfl (h2 n h0 h1)
 rcases h2 with ⟨rfl, k0, k1, e⟩ | ⟨rfl, rfl, h2⟩
 ·exact absurd e (h m k0 k1)
 exact ⟨rfl, rfl⟩
theorem OptTo.det {args : List (List UInt8)} {i : Nat} {t0 t1 : List UInt8} {b0 b1 : Bool} (h : OptTo args i t0 t1 b0 b1) : ∀ {u0 u1 : List UInt8} {c0 c1 : Bool}, OptTo args i u0 u1 c0 c1 → t0 = u0 ∧ t1 = u1 ∧ b0 = c0 ∧ b1 = c1 := by
 induction h with
 | zero => intro u0 u1 c0 c1 h2; cases h2; exact ⟨rfl, rfl, rfl, rfl⟩
 | m h1 ha hv hs ih =>
  intro u0 u1 c0 c1 h2
  cases h2 with
  | m k1 ka kv ks =>
   obtain ⟨e1, e2, e3, e4⟩ := ih k1
   rw [hv] at kv; cases kv
   exact ⟨rfl, e2, rfl, e4⟩
  | c k1 ka kv ks ks2 => rw [ha] at ka; cases ka; exact absurd hs ks
 | c h1 ha hv hs hs2 ih =>
  intro u0 u1 c0 c1 h2
  cases h2 with
  | m k1 ka kv ks => rw [ha] at ka; cases ka; exact absurd ks hs
  | c k1 ka kv ks ks2 =>
   obtain ⟨e1, e2, e3, e4⟩ := ih k1
   rw [hv] at kv; cases kv
   exact ⟨e1, rfl, e3, rfl⟩
theorem OptTo.good {args : List (List UInt8)} {n : Nat} {t0 t1 : List UInt8} {b0 b1 : Bool} (h : OptTo args n t0 t1 b0 b1) : ∀ {i : Nat} {u0 u1 : List UInt8} {c0 c1 : Bool} {a : List UInt8}, OptTo args i u0 u1 c0 c1 → i < n → args[i]? = some a → (SameC wMATCH a ∧ c0 = false) ∨ (¬ SameC wMATCH a ∧ SameC wCOUNT a ∧ c1 = false) := by
 induction h with
 | zero => intro i u0 u1 c0 c1 a h2 hi; omega
 | @m i0 t0 t1 a0 v b1 h1 ha hv hs ih =>
  intro i u0 u1 c0 c1 a h2 hi hx
  have e1 := optTo_even h1
  have e2 := optTo_even h2
  by_cases hlt : i < i0
  ·exact ih h2 hlt hx
  obtain rfl : i = i0 := by omega
  obtain ⟨-, -, rfl, -⟩ := h1.det h2
  rw [ha] at hx; cases hx; exact .inl ⟨hs, rfl⟩
 | @c i0 t0 t1 a0 v b0 h1 ha hv hs hs2 ih =>
  intro i u0 u1 c0 c1 a h2 hi hx
  have e1 := optTo_even h1
  have e2 := optTo_even h2
  by_cases hlt : i < i0
  ·exact ih h2 hlt hx
  obtain rfl : i = i0 := by omega
  obtain ⟨-, -, -, rfl⟩ := h1.det h2
  rw [ha] at hx; cases hx; exact .inr ⟨hs, hs2, rfl⟩
theorem opt_no {args : List (List UInt8)} {t0 t1 : List UInt8} {b0 b1 : Bool} (hb : OptBad args) (he : args.length % 2 = 0) (h : OptTo args args.length t0 t1 b0 b1) : False := by
 rcases hb with hb | ⟨i, u0, u1, c0, c1, a, h2, hx, hw⟩
 ·exact hb he
 have hi := (List.getElem?_eq_some_iff.1 hx).1
 rcases h.good h2 hi hx with ⟨k1, k2⟩ | ⟨k1, k2, k3⟩ <;> rcases hw with ⟨w1, w2⟩ | ⟨w1, w2⟩ | ⟨w1, w2, w3⟩
 ·exact w1 k1
 ·rw [k2] at w2; cases w2
 ·exact w1 k1
 ·exact w2 k2
 ·exact k1 w1
 rw [k3] at w3; cases w3
theorem optR_full {args : List (List UInt8)} {t0 t1 : List UInt8} {b0 b1 : Bool} (h : OptR args t0 t1 b0 b1 0) : args.length % 2 = 0 ∧ OptTo args args.length t0 t1 b0 b1 := by
 rcases h with ⟨h, -⟩ | ⟨-, h⟩
 ·exact absurd h (by decide)
 exact h
theorem itoa_small (n : Nat) (h : n ≤ 9) : Lib.itoa (n : Int) = [UInt8.ofNat (48 + n)] := by
 unfold Lib.itoa
 rw [if_neg (by omega), Lib.decDigits, dif_pos (by omega), Int.toNat_natCast]
theorem not_same_MC : ¬ SameC wMATCH wCOUNT := fun h => by
 have := h.2 0 77 67 rfl rfl
 exact absurd this (by decide)
theorem same_refl (s : List UInt8) : SameC s s := ⟨rfl, fun k a b ha hb => by rw [ha] at hb; cases hb; rfl⟩
theorem page_count {n a c : Nat} {fr to nx ec : Int} {mt : List UInt8} (hn : n ≤ 1000000) (hc : 1 ≤ c) (hc9 : c ≤ 9) (ha : a ≤ n) (h : PageR (n : Int) [Lib.itoa (a : Int), wCOUNT, Lib.itoa (c : Int)] fr to nx mt ec) :
  ec = 0 ∧ mt = [42] ∧ fr = (a : Int) ∧ to = ((min (a + c) n : Nat) : Int) ∧ nx = if min (a + c) n < n then ((min (a + c) n : Nat) : Int) else 0 := by
 have full : OptTo [wCOUNT, Lib.itoa (c : Int)] [wCOUNT, Lib.itoa (c : Int)].length [] (Lib.itoa (c : Int)) false true := OptTo.c (i := 0) .zero rfl rfl not_same_MC (same_refl _)
 have na : NumP (Lib.itoa (a : Int)) (a : Int) true := .inl ⟨rfl, by omega, by omega, rfl⟩
 have nc : NumP (Lib.itoa (c : Int)) (c : Int) true := .inl ⟨rfl, by omega, by omega, rfl⟩
 rcases h with ⟨-, h1⟩ | ⟨a0, rest, h1, h⟩
 ·cases h1
 cases h1
 rcases h with ⟨-, h1⟩ | ⟨t0, t1, b0, b1, ho, h⟩
 ·exact (opt_no h1 (by simp) full).elim
 obtain ⟨rfl, rfl, rfl, rfl⟩ := (optR_full ho).2.det full
 rcases h with ⟨-, h1⟩ | ⟨k, d, hk, hd, h⟩
 ·rcases h1 with h1 | h1
  ·exact absurd (na.uniq h1).2 (by decide)
  exact absurd (nc.uniq h1).2 (by decide)
 obtain ⟨rfl, -⟩ := na.uniq hk
 obtain ⟨rfl, -⟩ := nc.uniq hd
 rcases h with ⟨-, h1⟩ | ⟨h0, h1, h2, h3, h4, h5, h6⟩
 ·omega
 refine ⟨h0, by rw [h3]; rfl, by omega, by omega, ?_⟩
 rw [h6, h5]
 split <;> split <;> omega
def FitR (mt : List UInt8) (l ft : List (List UInt8)) : Prop := ∃ f : List UInt8 → Bool, (∀ x, f x = true ↔ MatchP (divS mt true 0) x) ∧ ft = l.filter f
theorem fitR_all {l ft : List (List UInt8)} (h : FitR [42] l ft) : ft = l := by
 obtain ⟨f, hf, rfl⟩ := h
 exact List.filter_eq_self.2 fun x _ => (hf x).2 (match_star x)
theorem fit_fun (mt : List UInt8) : ∃ f : List UInt8 → Bool, ∀ x, f x = true ↔ MatchP (divS mt true 0) x := by
 classical
 exact ⟨fun x => decide (MatchP (divS mt true 0) x), fun x => decide_eq_true_iff⟩
theorem keepf_yes {l : List (List UInt8)} {i : Nat} {x : List UInt8} {f : List UInt8 → Bool} (hx : l[i]? = some x) (h : f x = true) : (l.take (i + 1)).filter f = (l.take i).filter f ++ [x] := by
 rw [take_next hx, List.filter_append]; simp [h]
theorem keepf_no {l : List (List UInt8)} {i : Nat} {x : List UInt8} {f : List UInt8 → Bool} (hx : l[i]? = some x) (h : ¬ f x = true) : (l.take (i + 1)).filter f = (l.take i).filter f := by
 rw [take_next hx, List.filter_append]; simp [h]
def ScanR (names xs : List (List UInt8)) (r : Rp) : Prop := ∃ fr to nx mt ec, PageR (names.length : Int) xs fr to nx mt ec ∧ ((ec ≠ 0 ∧ r.kind = 1) ∨ (ec = 0 ∧ ∃ ft, FitR mt ((names.drop fr.toNat).take (to.toNat - fr.toNat)) ft ∧ r = rList [rStr (Lib.itoa nx), rStrs ft]))
theorem scan_count {names : List (List UInt8)} {a c : Nat} {r : Rp} (hn : names.length ≤ 1000000) (hc : 1 ≤ c) (hc9 : c ≤ 9) (ha : a ≤ names.length) (h : ScanR names [Lib.itoa (a : Int), wCOUNT, Lib.itoa (c : Int)] r) :
  ∃ b : Nat, b = min (a + c) names.length ∧ r = rList [rStr (Lib.itoa (((if b < names.length then b else 0) : Nat) : Int)), rStrs ((names.drop a).take (b - a))] := by
 obtain ⟨fr, to, nx, mt, ec, hp, h⟩ := h
 obtain ⟨rfl, rfl, rfl, rfl, rfl⟩ := page_count hn hc hc9 ha hp
 rcases h with ⟨h, -⟩ | ⟨-, ft, hf, rfl⟩
 ·exact absurd rfl h
 refine ⟨_, rfl, ?_⟩
 rw [fitR_all hf, Int.toNat_natCast, Int.toNat_natCast]
 congr 3
 split <;> rfl
theorem PageR.next {n fr to nx ec : Int} {args : List (List UInt8)} {mt : List UInt8} (h : PageR n args fr to nx mt ec) (h0 : ec = 0) : 0 ≤ nx ∧ nx ≤ max n 0 := by
 have hb := h.bounds h0
 rcases h with ⟨h1, -⟩ | ⟨a0, rest, -, ⟨h1, -⟩ | ⟨t0, t1, b0, b1, -, ⟨h1, -⟩ | ⟨k, c, -, -, ⟨h1, -⟩ | ⟨-, h1, h2, -, h3, h4, h5⟩⟩⟩⟩
 all_goals first | omega | (rw [h5]; split <;> omega)
theorem optTo_mem {args : List (List UInt8)} {i : Nat} {t0 t1 : List UInt8} {b0 b1 : Bool} (h : OptTo args i t0 t1 b0 b1) : (t0 = [] ∨ t0 ∈ args) ∧ (t1 = [] ∨ t1 ∈ args) := by
 induction h with
 | zero => exact ⟨.inl rfl, .inl rfl⟩
 | m h1 h2 h3 h4 ih => exact ⟨.inr (List.mem_of_getElem? h3), ih.2⟩
 | c h1 h2 h3 h4 h5 ih => exact ⟨ih.1, .inr (List.mem_of_getElem? h3)⟩
theorem PageR.short {n fr to nx ec : Int} {args : List (List UInt8)} {mt : List UInt8} (h : PageR n args fr to nx mt ec) (h0 : ec = 0) (ha : ∀ x ∈ args, x.length ≤ 1000000) : mt.length ≤ 1000000 := by
 rcases h with ⟨h1, -⟩ | ⟨a0, rest, he, ⟨h1, -⟩ | ⟨t0, t1, b0, b1, ho, ⟨h1, -⟩ | ⟨k, c, -, -, ⟨h1, -⟩ | ⟨-, -, -, rfl, -⟩⟩⟩⟩
 ·omega
 ·omega
 ·omega
 ·omega
 rcases ho with ⟨h1, -⟩ | ⟨-, -, ho⟩
 ·omega
 split
 ·rcases (optTo_mem ho).1 with rfl | h
  ·simp
  exact ha _ (by rw [he]; exact List.mem_cons_of_mem _ h)
 simp
theorem namesT_short {M : List (List UInt8 × Ver)} {clk : Int} (h : ∀ k ∈ M.map (·.1), k.length ≤ 256) : ∀ x ∈ namesT M clk, x.length ≤ 256 := fun x hx => h x (List.mem_mergeSort.1 (List.mem_filter.1 hx).1)
theorem text_snoc (l : List (List UInt8)) (x : List UInt8) : textCells l ++ [strV x] = textCells (l ++ [x]) := by simp [textCells]
theorem names_empty {clk : Int} {lo k i : Nat} {mid : List (List UInt8)} (hi : i < mid.length) (hmid : mid = ((namesT [] clk).drop lo).take k) : False := by
 rw [hmid] at hi
 simp [namesT] at hi
theorem k1al34 : AL Tryz.prog 34 [vI 0, vS [], vI 0, vN] := fun w => by kernel_rfl
theorem k1fa80_0 : FA Tryz.prog 80 0 0 := fun w b o => by kernel_rfl
theorem k1na24 (w : World) : (isAgg 24).run Tryz.prog w = .ok false w := by kernel_rfl
theorem k1callable216 : Callable Tryz.prog 216 := cb Tryz.func216 (by kernel_rfl)
theorem k1callable86 : Callable Tryz.prog 86 := cb Tryz.func86 (by kernel_rfl)
theorem k1al151 : AL Tryz.prog 151 [vI 0, vI 0, vI 0, vS []] := fun w => by kernel_rfl
theorem k1callable87 : Callable Tryz.prog 87 := cb Tryz.func87 (by kernel_rfl)
theorem k1mk9 : (Tryz.prog.info? 9).map (fun i => (i.zero, i.size, i.bytes)) = some (some (vS []), 1, 16) := by kernel_rfl
theorem k1el26 : Elem Tryz.prog 26 9 (vS []) 1 16 := elem_of Tryz.underlying26 k1mk9 (by rfl) (by decide)
theorem k1callable59 : Callable Tryz.prog 59 := cb Tryz.func59 (by kernel_rfl)
theorem k1callable88 : Callable Tryz.prog 88 := cb Tryz.func88 (by kernel_rfl)
theorem ckScan (B : Base) (H : List Res) (w : World) (v t m s p wb : Nat) (va : Option Addr) (vc : Nat) (sv : Value) (clk : Int) (es : List (List UInt8 × Value)) (M : List (List UInt8 × Ver)) (hM : VM B es M) (aa : Option Addr) (an ac : Nat) (xa : Option Addr) (xc : Nat) (xs : List (List UInt8)) (hokx : SliceOk xa xs.length xc) (hrx : RdV B [] xa (textCells xs)) (hmx : xs.length ≤ 10000) (hkl : ∀ k ∈ M.map (·.1), k.length ≤ 256) (hMl : M.length ≤ 1000000) (hxl : ∀ x ∈ xs, x.length ≤ 9223372036854775807) (hsm : (∀ x ∈ xs, x.length ≤ 1000000) ∨ M = []) (hN : NumB B) (hv : Inv B (Res.cell v [.iface 100 (vP t)] 56 :: txR t m s p wb va vc sv clk es :: H) w) :
  Calls Tryz.prog 63 #[.agg #[vP v, .slice aa an ac], .slice xa xs.length xc] w fun e w' => ∃ C r cs, B.Le C ∧ e = .returned (.agg cs.toArray) ∧ RpAt C r cs ∧ ScanR (namesT M clk) xs r ∧ Inv C (Res.cell v [.iface 100 (vP t)] 56 :: txR t m s p wb va vc sv clk es :: H) w' := by
 refine cW Tryz.func63 rfl Tryz.ntmps63 ?_
 simp only [al]
 refine sK fun _ k1 => rL (sl_box (L := [vP v, .slice aa an ac]) tV (wn rfl) rfl rfl hv (fun w => by kernel_rfl) (fun b2 w3 hv => ?_))
 refine sl_alloc tV (wn rfl) rfl hv k1al34 (fun b4 w5 hv => ?_)
 refine uW k1 (sK fun _ k6 => ?_)
 refine rL (uF (vP b2) rfl (k1fa80_0 _ _ _) ?_)
 refine uL _ rfl (run_load1 k1na24 (hv.load 1 0 rfl rfl)) ?_
 refine uG (vP v) rfl (ex_nil rfl rfl) ?_
 refine uF (vP v) rfl (v1fa56_0 _ _ _) ?_
 refine uL _ rfl (run_load1 v1na54 (hv.load 2 0 rfl rfl)) ?_
 replace hv := hv.front 3 rfl
 simp only [eS, eZ] at hv
 refine wpi_callI k1callable216 tV wideC rfl (wn rfl) rfl rfl (r := vP t) (fun w => by kernel_rfl) (args := #[]) (by simp only [List.map_toArray, List.map_nil]) ((txnNamesC B _ _ t m s p wb va vc sv clk es M (hM.more (Base.Le.refl _)) hkl (by omega) hv).mono ?_)
 rintro e w7 ⟨C, na, nc, hC, rfl, hnr, hokn, hv⟩
 refine ⟨_, rfl, ?_⟩
 have hnl := namesT_le M clk
 refine uA rfl (uW k6 ?_)
 refine sK fun _ k8 => rL (uM rfl ?_)
 refine uG (vI (((namesT M clk).length) : Int)) rfl (ex_len0 Tryz.underlying26 rfl rfl) (uM rfl ?_)
 refine xC k1callable86 rfl ((viewPages C _ _ (namesT M clk).length (by omega) (by omega) xa xc xs (hrx.more hC (fun _ h => h)) (by omega) hxl hokx (hN.more hC) hv).mono ?_) rfl
 rintro e w9 ⟨pf, pt, pn, mt, pe, rfl, hpg, hv⟩
 refine ⟨_, rfl, uM rfl ?_⟩
 refine uE rfl (uE rfl ?_)
 refine sl_alloc tV (wn rfl) rfl hv k1al151 (fun b10 w11 hv => ?_)
 refine xS 0 rfl hv v8sz151 rfl (by exact ⟨rfl, rfl, rfl, rfl, trivial⟩) (fun w12 hv => ?_)
 simp only [zO, sp] at hv
 refine uA rfl (uW k8 ?_)
 refine sK fun _ k13 => sK fun _ k14 => rL (uM rfl ?_)
 by_cases hb15 : pe ≠ 0
 ·refine uG (.bool true) rfl (ex_neq rfl rfl rfl (qT hb15)) (uW k14 ?_)
  refine cT rfl (sK fun _ k16 => ?_)
  refine rL (uM rfl ?_)
  refine xC rscallable29 rfl ((viewWrong C _ _ pe hv).mono ?_) rfl
  rintro e w18 ⟨s17, rfl, hv⟩
  refine ⟨_, rfl, ?_⟩
  refine xS 2 rfl hv rssz34 rfl (by exact ⟨rfl, rfl, rfl, rfl, trivial⟩) (fun w19 hv => ?_)
  simp only [zS, zO, sp] at hv
  refine uW k16 (rR ?_)
  refine tR (bC 2 rswd34 hv rfl rfl rfl rfl ?_)
  exact ⟨C, (.mk 1 s17 0 []), _, hC, rfl, rpAt_leaf, ⟨pf, pt, pn, mt, pe, hpg, .inl ⟨by omega, rfl⟩⟩, (hv.kp [1, 4] 2 3)⟩
 refine uG (.bool false) rfl (ex_neq rfl rfl rfl (qF hb15)) (uW k14 ?_)
 refine cF rfl (kS ?_)
 refine tK k13 (sK fun _ k20 => ?_)
 refine rL (uA rfl ?_)
 refine uW k20 (sK fun _ k21 => ?_)
 refine sK fun _ k22 => ?_
 obtain ⟨hpf0, hpft, hptn⟩ := hpg.bounds (by omega)
 obtain ⟨lo, hlo⟩ : ∃ n : Nat, pf = (n : Int) := ⟨pf.toNat, by omega⟩
 obtain ⟨hi, hhi⟩ : ∃ n : Nat, pt = (n : Int) := ⟨pt.toNat, by omega⟩
 obtain ⟨a5, c5, ha5, ok5, hr5⟩ := sliced_midV 1 hokn hnr (textCells_len _) (show lo ≤ hi by omega) (show hi ≤ (namesT M clk).length by omega) (by decide)
 rw [Nat.mul_one, Nat.mul_one, tx_drop, tx_take] at hr5
 obtain ⟨mid, hmid⟩ : ∃ l, l = ((namesT M clk).drop lo).take (hi - lo) := ⟨_, rfl⟩
 rw [← hmid] at hr5
 have hml : mid.length = hi - lo := by rw [hmid, List.length_take, List.length_drop]; omega
 rw [← hml] at ok5 ha5
 have hml2 : mid.length ≤ 1000000 := by omega
 have hpn := hpg.next (by omega)
 obtain ⟨f, hf⟩ := fit_fun mt
 refine rL (uM rfl ?_)
 refine uF (vP b10) rfl (v8fa151_0 _ _ _) ?_
 refine uL _ rfl (run_load1 s2na3 (hv.load 0 0 rfl rfl)) ?_
 refine uF (.pointer (some ⟨b10, 1, none⟩)) rfl (v8fa151_1 _ _ _) ?_
 refine uL _ rfl (run_load1 s2na3 (hv.load 0 1 rfl rfl)) ?_
 refine uG (.slice a5 mid.length c5) rfl (ex_slice (lo' := some (vI pf)) (hi' := some (vI pt)) rfl rfl (congrArg some rfl) (congrArg some rfl) rfl ((run_lhAnyI hlo hhi Tryz.underlying26 s9es26 (by omega) (by have := hokn.le; omega)).trans (by rw [ha5]))) ?_
 refine uG (vI (mid.length : Int)) rfl (ex_len0 Tryz.underlying26 rfl rfl) (uM rfl ?_)
 refine uW k22 (bB ?_)
 gi_loopw [35, 8] (fun x35 x8 wr => ∃ (i : Nat) (ft : List (List UInt8)) (fa : Option Addr) (fc : Nat), x35 = vI i ∧ x8 = .slice fa ft.length fc ∧ i ≤ mid.length ∧ ft.length ≤ i ∧ ft = (mid.take i).filter f ∧ Inv C (Res.row 9 1 (.slice fa ft.length fc) ft.length (textCells ft) :: Res.cell b10 [vI pf, vI pt, vI pn, vS mt] 151 :: txR t m s p wb va vc sv clk es :: Res.cell b4 [vI 0, vS [], vI 0, vN] 34 :: Res.cell b2 [vP v, .slice aa an ac] 80 :: Res.cell v [.iface 100 (vP t)] 56 :: H) wr) (fun x35 x8 _ => mid.length - (intOf x35).toNat)
 case atStart => exact ⟨0, [], none, 0, rfl, rfl, Nat.zero_le _, Nat.zero_le _, rfl, ((((((hv.front 4 rfl).front 4 rfl).front 4 rfl).front 4 rfl).front 4 rfl)).rowNil 9 1⟩
 case round =>
  obtain ⟨i, ft, fa, fc, rfl, rfl, hi9, hfl, hft, hv⟩ := hrel
  refine sK fun _ k24 => rL ?_
  by_cases hb25 : (i : Int) < (mid.length : Int)
  ·refine uG (.bool true) rfl (ex_lss rfl rfl rfl (qT hb25)) (uW k24 ?_)
   refine sK fun _ k26 => cT rfl (kS ?_)
   refine tK k26 (sK fun _ k27 => ?_)
   refine bB (sK fun _ k28 => ?_)
   obtain ⟨x, hx⟩ : ∃ x, mid[i]? = some x := ⟨_, List.getElem?_eq_getElem (show i < mid.length by omega)⟩
   obtain ⟨mb, mo, had, hrdx⟩ := text_reads hr5 hx
   subst had
   refine rL (uG (.pointer (some ⟨mb, mo + i, none⟩)) rfl (ex_index rfl rfl rfl (run_idx1 (k := i) Tryz.underlying26 s9es26 (by omega))) ?_)
   refine uL _ rfl (run_load1 s9na9 (hrdx _ _ _ (Base.Le.refl _) no_res hv 0 _ rfl)) (uA rfl ?_)
   refine uW k28 (sK fun _ k29 => ?_)
   refine rL (uL (.agg #[vI pf, vI pt, vI pn, vS mt]) rfl (lM 1 v8wd151 hv rfl rfl rfl rfl) ?_)
   refine uM rfl ?_
   refine xC k1callable87 rfl ((pageFits C _ _ pf pt pn mt x (hpg.short (by omega) (hsm.resolve_right (fun h9 => by rw [h9] at hmid; exact names_empty (List.getElem?_eq_some_iff.1 hx).1 hmid))) (by have := namesT_short hkl x (List.mem_of_mem_drop (List.mem_of_mem_take (hmid ▸ List.mem_of_getElem? hx))); omega) hv).mono ?_) rfl
   rintro e w30 ⟨b, rfl, hb, hv⟩
   refine ⟨_, rfl, ?_⟩
   cases b
   ·refine uW k29 (cF rfl ?_)
    refine kS (bN ?_)
    refine tK k27 (rL ?_)
    refine uG (vI ((i + 1 : Nat) : Int)) rfl (ex_add rfl rfl rfl (by rw [i64_in (by omega)]; omega)) (uM rfl ?_)
    refine uZ (then_normal ?_)
    go_roundw
    case rel => exact ⟨i + 1, ft, fa, fc, rfl, rfl, by omega, by omega, by rw [keepf_no hx (fun h9 => absurd (hb.2 ((hf x).1 h9)) (by decide))]; exact hft, ((((((hv.front 5 rfl).front 5 rfl).front 5 rfl).front 5 rfl).front 5 rfl).front 5 rfl)⟩
    case measure => show mid.length - (((i + 1 : Nat) : Int)).toNat < mid.length - ((i : Int)).toNat; omega
   refine uW k29 (cT rfl ?_)
   refine rL (uM rfl ?_)
   refine uM rfl ?_
   refine sl_rowOne (v := vS x) tV (wn rfl) rfl rfl hv k1el26 rfl (fun b31 w32 hv => ?_)
   simp only [zP, po]
   replace hv := hv.front 1 rfl
   simp only [eS, eZ] at hv
   refine sl_append (news := [vS x]) tV (wn rfl) rfl rfl rfl k1el26 hv (ok_full (by omega)) rfl (rd_all (hv.get 1 rfl)) (by intro u hu; simp only [List.mem_cons, List.not_mem_nil, or_false] at hu; rcases hu with rfl <;> rfl) (by unfold maxLen; omega) (by omega) (fun rv33 w36 hv => ?_)
   obtain ⟨ra34, rc35, rfl⟩ := row_slice hv.head
   refine uA rfl (uZ ?_)
   refine bN (tK k27 ?_)
   refine rL (uG (vI ((i + 1 : Nat) : Int)) rfl (ex_add rfl rfl rfl (by rw [i64_in (by omega)]; omega)) ?_)
   refine uM rfl (uZ ?_)
   refine then_normal ?_
   go_roundw
   case rel => exact ⟨i + 1, ft ++ [x], _, _, rfl, by rw [List.length_append, List.length_singleton], by omega, by rw [List.length_append, List.length_singleton]; omega, by rw [keepf_yes hx ((hf x).2 (hb.1 rfl)), hft], by rw [List.length_append, List.length_singleton, ← text_snoc]; exact (hv.kp [6, 6, 6, 6, 6, 5] 6 1)⟩
   case measure => show mid.length - (((i + 1 : Nat) : Int)).toNat < mid.length - ((i : Int)).toNat; omega
  refine uG (.bool false) rfl (ex_lss rfl rfl rfl (qF hb25)) (uW k24 ?_)
  refine sK fun _ k37 => cF rfl (xE ?_)
  refine tX (tX ?_)
  refine bH (tK k21 ?_)
  refine sK fun _ k38 => ?_
  obtain ⟨E, hE, hv, hrf, hokf, -⟩ := hv.rowBy
  refine rL (uF (.pointer (some ⟨b10, 2, none⟩)) rfl (v8fa151_2 _ _ _) ?_)
  refine uL _ rfl (run_load1 s2na3 (hv.load 0 2 rfl rfl)) ?_
  refine xC pzcallable89 rfl ((numPrint E _ (hN E _ (hC.trans hE)).1 _ pn (by omega) (by omega) hv).mono ?_) rfl
  rintro e w39 ⟨rfl, hv⟩
  refine ⟨_, rfl, ?_⟩
  simp only [zP, po]
  refine xC rtcallable84 rfl ((respStr E _ _ (Lib.itoa pn) hv).mono ?_) rfl
  rintro e w40 ⟨rfl, hv⟩
  refine ⟨_, rfl, uM rfl ?_⟩
  refine xC k1callable59 rfl ((respStrsR E _ _ fa fc ft (hrf.more (Base.Le.refl _) (fun _ h => h)) (by omega) hv).mono ?_) rfl
  rintro e w45 ⟨D41, da42, dc43, hD41, rfl, hrp44o, hrp44, hv⟩
  refine ⟨_, rfl, ?_⟩
  simp only [zP, po]
  refine sl_rowN (pv := #[(0, .agg #[vI 3, vS (Lib.itoa pn), vI 0, vN]), (1, .agg #[vI 5, vS [], vI 0, .slice da42 ft.length dc43])]) (L := [vI 3, vS (Lib.itoa pn), vI 0, vN, vI 5, vS [], vI 0, .slice da42 ft.length dc43]) (e := 34) tV (wn rfl) rfl (by simp only [List.map_toArray, List.map_cons, List.map_nil]; rfl) hv (fun w => by kernel_rfl) (fun b46 w47 hv => ?_)
  obtain ⟨K48, hK48, hv, hrK48, hokK48, -⟩ := (hv.cellRow (n := 2) (c := 2) (size := 4) rfl (by decide) (by decide)).rowBy
  refine xC k1callable88 rfl ((respList K48 _ _ _ 2 2 _ (rList [rStr (Lib.itoa pn), rStrs ft]) hokK48 hrK48 (listIn_two hrp44o (hrp44.more hK48 (fun _ h => h)) (by omega)) (by decide) hv).mono ?_) rfl
  rintro e w52 ⟨J49, lw50, hJ49, rfl, hrw51, hv⟩
  refine ⟨_, rfl, ?_⟩
  refine xS 2 rfl hv rssz34 rfl (by exact ⟨rfl, rfl, rfl, hrw51.lv.2, trivial⟩) (fun w53 hv => ?_)
  simp only [zS, zO, sp] at hv
  refine uW k38 (rR ?_)
  refine bC 2 rswd34 hv rfl rfl rfl rfl (⟨J49, rList [rStr (Lib.itoa pn), rStrs ft], _, ((((hC.trans hE).trans hD41).trans hK48).trans hJ49), rfl, (hrw51.more (Base.Le.refl _)), ⟨pf, pt, pn, mt, pe, hpg, .inr ⟨by omega, ft, ⟨f, hf, (by obtain rfl : i = mid.length := (by omega); rw [hft, List.take_length, hmid, show pf.toNat = lo by omega, show pt.toNat = hi by omega])⟩, rfl⟩⟩, (hv.kp [1, 4] 2 3)⟩)
abbrev GRow := List UInt8 × Int × Int
def gRows : List GRow := [([67, 79, 80, 89], 2, (-1)), ([68, 66, 83, 73, 90, 69], 0, 0), ([68, 69, 76], 1, (-1)), ([69, 88, 73, 83, 84, 83], 1, (-1)), ([69, 88, 80, 73, 82, 69], 2, 3), ([69, 88, 80, 73, 82, 69, 65, 84], 2, 3), ([69, 88, 80, 73, 82, 69, 84, 73, 77, 69], 1, 1), ([70, 76, 85, 83, 72, 65, 76, 76], 0, 0), ([75, 69, 89, 83], 1, 1), ([80, 69, 82, 83, 73, 83, 84], 1, 1), ([82, 69, 78, 65, 77, 69], 2, 2), ([82, 69, 78, 65, 77, 69, 78, 88], 2, 2), ([83, 67, 65, 78], 1, (-1)), ([83, 79, 82, 84], 1, (-1)), ([84, 84, 76], 1, 1), ([84, 89, 80, 69], 1, 1)]
def gNames : List (List UInt8) := gRows.map (·.1)
abbrev gRowF (x : GRow) : List Value := [strV x.1, vI x.2.1, vI x.2.2]
theorem gRow_reads {B : Base} {l : List GRow} {ad : Option Addr} {i : Nat} {x : GRow} (hr : RdV B [] ad (l.flatMap gRowF)) (hx : l[i]? = some x) : ∃ b off, ad = some ⟨b, off, none⟩ ∧ Reads B [] b (off + i * 3) (gRowF x) := rowk_reads (k := 3) (fun _ => rfl) (by decide) hr hx
theorem gRows_len : gRows.length = 16 := rfl
theorem gNames_len : gNames.length = 16 := rfl
theorem gRows_inj : ∀ x ∈ gRows, ∀ y ∈ gRows, x.1 = y.1 → x = y := by decide
theorem gRowsC (B : Base) (H : List Res) (w : World) (hv : Inv B H w) :
  Calls Tryz.prog 30 #[] w fun e w' => ∃ C ra rc, B.Le C ∧ e = .returned (.slice ra gRows.length rc) ∧ RdV C [] ra (gRows.flatMap gRowF) ∧ Inv C H w' := by
 refine cW Tryz.func30 rfl Tryz.ntmps30 ?_
 simp only [al]
 refine sK fun _ k1 => rL (uA rfl ?_)
 refine uW k1 (sK fun _ k2 => ?_)
 refine rL (uG (.agg #[vS [67, 79, 80, 89], vI 2, vI (-1)]) rfl (ex_buildN (vs := #[(0, vS [67, 79, 80, 89]), (1, vI 2), (2, vI (-1))]) rfl (by simp only [List.map_toArray, List.map_cons, List.map_nil]; rfl) (by kernel_rfl)) ?_)
 refine uG (.agg #[vS [68, 66, 83, 73, 90, 69], vI 0, vI 0]) rfl (ex_buildN (vs := #[(0, vS [68, 66, 83, 73, 90, 69]), (1, vI 0), (2, vI 0)]) rfl (by simp only [List.map_toArray, List.map_cons, List.map_nil]; rfl) (by kernel_rfl)) ?_
 refine uG (.agg #[vS [68, 69, 76], vI 1, vI (-1)]) rfl (ex_buildN (vs := #[(0, vS [68, 69, 76]), (1, vI 1), (2, vI (-1))]) rfl (by simp only [List.map_toArray, List.map_cons, List.map_nil]; rfl) (by kernel_rfl)) ?_
 refine uG (.agg #[vS [69, 88, 73, 83, 84, 83], vI 1, vI (-1)]) rfl (ex_buildN (vs := #[(0, vS [69, 88, 73, 83, 84, 83]), (1, vI 1), (2, vI (-1))]) rfl (by simp only [List.map_toArray, List.map_cons, List.map_nil]; rfl) (by kernel_rfl)) ?_
 refine uG (.agg #[vS [69, 88, 80, 73, 82, 69], vI 2, vI 3]) rfl (ex_buildN (vs := #[(0, vS [69, 88, 80, 73, 82, 69]), (1, vI 2), (2, vI 3)]) rfl (by simp only [List.map_toArray, List.map_cons, List.map_nil]; rfl) (by kernel_rfl)) ?_
 refine uG (.agg #[vS [69, 88, 80, 73, 82, 69, 65, 84], vI 2, vI 3]) rfl (ex_buildN (vs := #[(0, vS [69, 88, 80, 73, 82, 69, 65, 84]), (1, vI 2), (2, vI 3)]) rfl (by simp only [List.map_toArray, List.map_cons, List.map_nil]; rfl) (by kernel_rfl)) ?_
 refine uG (.agg #[vS [69, 88, 80, 73, 82, 69, 84, 73, 77, 69], vI 1, vI 1]) rfl (ex_buildN (vs := #[(0, vS [69, 88, 80, 73, 82, 69, 84, 73, 77, 69]), (1, vI 1), (2, vI 1)]) rfl (by simp only [List.map_toArray, List.map_cons, List.map_nil]; rfl) (by kernel_rfl)) ?_
 refine uG (.agg #[vS [70, 76, 85, 83, 72, 65, 76, 76], vI 0, vI 0]) rfl (ex_buildN (vs := #[(0, vS [70, 76, 85, 83, 72, 65, 76, 76]), (1, vI 0), (2, vI 0)]) rfl (by simp only [List.map_toArray, List.map_cons, List.map_nil]; rfl) (by kernel_rfl)) ?_
 refine uG (.agg #[vS [75, 69, 89, 83], vI 1, vI 1]) rfl (ex_buildN (vs := #[(0, vS [75, 69, 89, 83]), (1, vI 1), (2, vI 1)]) rfl (by simp only [List.map_toArray, List.map_cons, List.map_nil]; rfl) (by kernel_rfl)) ?_
 refine uG (.agg #[vS [80, 69, 82, 83, 73, 83, 84], vI 1, vI 1]) rfl (ex_buildN (vs := #[(0, vS [80, 69, 82, 83, 73, 83, 84]), (1, vI 1), (2, vI 1)]) rfl (by simp only [List.map_toArray, List.map_cons, List.map_nil]; rfl) (by kernel_rfl)) ?_
 refine uG (.agg #[vS [82, 69, 78, 65, 77, 69], vI 2, vI 2]) rfl (ex_buildN (vs := #[(0, vS [82, 69, 78, 65, 77, 69]), (1, vI 2), (2, vI 2)]) rfl (by simp only [List.map_toArray, List.map_cons, List.map_nil]; rfl) (by kernel_rfl)) ?_
 refine uG (.agg #[vS [82, 69, 78, 65, 77, 69, 78, 88], vI 2, vI 2]) rfl (ex_buildN (vs := #[(0, vS [82, 69, 78, 65, 77, 69, 78, 88]), (1, vI 2), (2, vI 2)]) rfl (by simp only [List.map_toArray, List.map_cons, List.map_nil]; rfl) (by kernel_rfl)) ?_
 refine uG (.agg #[vS [83, 67, 65, 78], vI 1, vI (-1)]) rfl (ex_buildN (vs := #[(0, vS [83, 67, 65, 78]), (1, vI 1), (2, vI (-1))]) rfl (by simp only [List.map_toArray, List.map_cons, List.map_nil]; rfl) (by kernel_rfl)) ?_
 refine uG (.agg #[vS [83, 79, 82, 84], vI 1, vI (-1)]) rfl (ex_buildN (vs := #[(0, vS [83, 79, 82, 84]), (1, vI 1), (2, vI (-1))]) rfl (by simp only [List.map_toArray, List.map_cons, List.map_nil]; rfl) (by kernel_rfl)) ?_
 refine uG (.agg #[vS [84, 84, 76], vI 1, vI 1]) rfl (ex_buildN (vs := #[(0, vS [84, 84, 76]), (1, vI 1), (2, vI 1)]) rfl (by simp only [List.map_toArray, List.map_cons, List.map_nil]; rfl) (by kernel_rfl)) ?_
 refine uG (.agg #[vS [84, 89, 80, 69], vI 1, vI 1]) rfl (ex_buildN (vs := #[(0, vS [84, 89, 80, 69]), (1, vI 1), (2, vI 1)]) rfl (by simp only [List.map_toArray, List.map_cons, List.map_nil]; rfl) (by kernel_rfl)) ?_
 refine sl_rowN (pv := #[(0, .agg #[vS [67, 79, 80, 89], vI 2, vI (-1)]), (1, .agg #[vS [68, 66, 83, 73, 90, 69], vI 0, vI 0]), (2, .agg #[vS [68, 69, 76], vI 1, vI (-1)]), (3, .agg #[vS [69, 88, 73, 83, 84, 83], vI 1, vI (-1)]), (4, .agg #[vS [69, 88, 80, 73, 82, 69], vI 2, vI 3]), (5, .agg #[vS [69, 88, 80, 73, 82, 69, 65, 84], vI 2, vI 3]), (6, .agg #[vS [69, 88, 80, 73, 82, 69, 84, 73, 77, 69], vI 1, vI 1]), (7, .agg #[vS [70, 76, 85, 83, 72, 65, 76, 76], vI 0, vI 0]), (8, .agg #[vS [75, 69, 89, 83], vI 1, vI 1]), (9, .agg #[vS [80, 69, 82, 83, 73, 83, 84], vI 1, vI 1]), (10, .agg #[vS [82, 69, 78, 65, 77, 69], vI 2, vI 2]), (11, .agg #[vS [82, 69, 78, 65, 77, 69, 78, 88], vI 2, vI 2]), (12, .agg #[vS [83, 67, 65, 78], vI 1, vI (-1)]), (13, .agg #[vS [83, 79, 82, 84], vI 1, vI (-1)]), (14, .agg #[vS [84, 84, 76], vI 1, vI 1]), (15, .agg #[vS [84, 89, 80, 69], vI 1, vI 1])]) (L := [vS [67, 79, 80, 89], vI 2, vI (-1), vS [68, 66, 83, 73, 90, 69], vI 0, vI 0, vS [68, 69, 76], vI 1, vI (-1), vS [69, 88, 73, 83, 84, 83], vI 1, vI (-1), vS [69, 88, 80, 73, 82, 69], vI 2, vI 3, vS [69, 88, 80, 73, 82, 69, 65, 84], vI 2, vI 3, vS [69, 88, 80, 73, 82, 69, 84, 73, 77, 69], vI 1, vI 1, vS [70, 76, 85, 83, 72, 65, 76, 76], vI 0, vI 0, vS [75, 69, 89, 83], vI 1, vI 1, vS [80, 69, 82, 83, 73, 83, 84], vI 1, vI 1, vS [82, 69, 78, 65, 77, 69], vI 2, vI 2, vS [82, 69, 78, 65, 77, 69, 78, 88], vI 2, vI 2, vS [83, 67, 65, 78], vI 1, vI (-1), vS [83, 79, 82, 84], vI 1, vI (-1), vS [84, 84, 76], vI 1, vI 1, vS [84, 89, 80, 69], vI 1, vI 1]) (e := 78) tV (wn rfl) rfl (by simp only [List.map_toArray, List.map_cons, List.map_nil]; rfl) hv (fun w => by kernel_rfl) (fun b3 w4 hv => ?_)
 refine uA rfl (uW k2 ?_)
 refine rR (bR rfl rfl ?_)
 obtain ⟨C, hC, hv, hr, -, -⟩ := (hv.cellRow (n := 16) (c := 16) (size := 3) rfl (by decide) (by decide)).rowBy
 exact ⟨C, _, _, hC, rfl, hr, hv⟩
theorem k2callable30 : Callable Tryz.prog 30 := cb Tryz.func30 (by kernel_rfl)
theorem k2mk9 : (Tryz.prog.info? 9).map (fun i => (i.zero, i.size, i.bytes)) = some (some (vS []), 1, 16) := by kernel_rfl
theorem k2el26 : Elem Tryz.prog 26 9 (vS []) 1 16 := elem_of Tryz.underlying26 k2mk9 (by rfl) (by decide)
theorem k2es75 (w : World) : (sizeOf (Tryz.prog.elem 75)).run Tryz.prog w = .ok 3 w := by kernel_rfl
theorem k2wd78 : Wide Tryz.prog 78 3 := wide_of (fun w => by kernel_rfl) (by kernel_rfl)
theorem k2al78 : AL Tryz.prog 78 [vS [], vI 0, vI 0] := fun w => by kernel_rfl
theorem k2sz78 : (Tryz.prog.info? 78).map (·.size) = some 3 := by kernel_rfl
theorem k2fa78_0 : FA Tryz.prog 78 0 0 := fun w b o => by kernel_rfl
theorem gNamesC (B : Base) (H : List Res) (w : World) (hv : Inv B H w) :
  Calls Tryz.prog 21 #[] w fun e w' => ∃ C na nc, B.Le C ∧ e = .returned (.slice na gNames.length nc) ∧ RdV C [] na (textCells gNames) ∧ SliceOk na gNames.length nc ∧ Inv C H w' := by
 refine cW Tryz.func21 rfl Tryz.ntmps21 ?_
 simp only [al]
 refine sK fun _ k1 => rL (uA rfl ?_)
 refine uW k1 (sK fun _ k2 => ?_)
 refine rL (xC k2callable30 rfl ((gRowsC B _ _ hv).mono ?_) rfl)
 rintro e w3 ⟨C, ra, rc, hC, rfl, hrr, hv⟩
 refine ⟨_, rfl, uA rfl ?_⟩
 refine uW k2 (sK fun _ k4 => ?_)
 have hrl := gRows_len
 refine rL (uM rfl ?_)
 refine uG (vI (gRows.length : Int)) rfl (ex_len0 Tryz.underlying75 rfl rfl) ?_
 refine sl_makeRow (cap := gRows.length) tV (wn rfl) rfl rfl rfl k2el26 (by unfold maxLen; omega) (by omega) hv (fun b5 w6 hv => ?_)
 refine uA rfl (uW k4 ?_)
 refine sK fun _ k7 => sK fun _ k8 => rL (uM rfl ?_)
 refine uG (vI (gRows.length : Int)) rfl (ex_len0 Tryz.underlying75 rfl rfl) (uM rfl ?_)
 refine uW k8 (bB ?_)
 gi_loopw [2, 11] (fun x2 x11 wr => ∃ (i : Nat) (na : Option Addr) (nc : Nat), x2 = .slice na i nc ∧ x11 = vI i ∧ i ≤ gRows.length ∧ Inv C (Res.row 9 1 (.slice na i nc) i (textCells (gNames.take i)) :: H) wr) (fun x2 x11 _ => gRows.length - (intOf x11).toNat)
 case atStart => exact ⟨0, _, _, rfl, rfl, Nat.zero_le _, hv⟩
 case round =>
  obtain ⟨i, na, nc, rfl, rfl, hi, hv⟩ := hrel
  refine sK fun _ k10 => rL ?_
  by_cases hb11 : (i : Int) < (gRows.length : Int)
  ·refine uG (.bool true) rfl (ex_lss rfl rfl rfl (qT hb11)) (uW k10 ?_)
   refine sK fun _ k12 => cT rfl (kS ?_)
   refine tK k12 (sK fun _ k13 => ?_)
   refine bB (sK fun _ k14 => ?_)
   have hrl := gRows_len
   obtain ⟨x, hx⟩ : ∃ x, gRows[i]? = some x := ⟨_, List.getElem?_eq_getElem (show i < gRows.length by omega)⟩
   have hxm := List.mem_of_getElem? hx
   obtain ⟨rb, ro, had, hrdx⟩ := gRow_reads hrr hx
   subst had
   refine rL (uG (.pointer (some ⟨rb, ro + i * 3, none⟩)) rfl (ex_index rfl rfl rfl (run_idx (k := i) Tryz.underlying75 k2es75 (by omega))) ?_)
   refine uL (.agg #[vS x.1, vI x.2.1, vI x.2.2]) rfl (run_loadR (cs := [vS x.1, vI x.2.1, vI x.2.2]) k2wd78 (Reads.mid (pre := []) (mid := [vS x.1, vI x.2.1, vI x.2.2]) (post := []) hrdx _ _ _ (Base.Le.refl _) no_res hv)) ?_
   refine sl_alloc tV (wn rfl) rfl hv k2al78 (fun b15 w16 hv => ?_)
   simp only [zP, po]
   refine xS 0 rfl hv k2sz78 rfl (by exact ⟨rfl, rfl, rfl, trivial⟩) (fun w17 hv => ?_)
   simp only [zO, sp] at hv
   refine uW k14 (rL ?_)
   refine uM rfl ?_
   refine uF (vP b15) rfl (k2fa78_0 _ _ _) ?_
   refine uL _ rfl (run_load1 s9na9 (hv.load 0 0 rfl rfl)) ?_
   refine sl_rowOne (v := vS x.1) tV (wn rfl) rfl rfl hv k2el26 rfl (fun b18 w19 hv => ?_)
   replace hv := hv.front 2 rfl
   simp only [eS, eZ] at hv
   refine sl_append (news := [vS x.1]) tV (wn rfl) rfl rfl rfl k2el26 hv (ok_full (by omega)) rfl (rd_all (hv.get 1 rfl)) (by intro u hu; simp only [List.mem_cons, List.not_mem_nil, or_false] at hu; rcases hu with rfl <;> rfl) (by unfold maxLen; omega) (by omega) (fun rv20 w23 hv => ?_)
   obtain ⟨ra21, rc22, rfl⟩ := row_slice hv.head
   refine uA rfl (uZ ?_)
   refine bN (tK k13 ?_)
   refine rL (uG (vI ((i + 1 : Nat) : Int)) rfl (ex_add rfl rfl rfl (by rw [i64_in (by omega)]; omega)) ?_)
   refine uM rfl (uZ ?_)
   refine then_normal ?_
   go_roundw
   case rel => exact ⟨i + 1, _, _, rfl, rfl, by omega, by rw [take_next (show gNames[i]? = some x.1 by unfold gNames; rw [List.getElem?_map, hx]; rfl), ← text_snoc]; exact (hv.kp [] 1 2)⟩
   case measure => show gRows.length - (((i + 1 : Nat) : Int)).toNat < gRows.length - ((i : Int)).toNat; omega
  refine uG (.bool false) rfl (ex_lss rfl rfl rfl (qF hb11)) (uW k10 ?_)
  refine sK fun _ k24 => cF rfl (xE ?_)
  refine tX (tX ?_)
  refine bH (tK k7 ?_)
  refine sK fun _ k25 => rL (uM rfl ?_)
  refine uA rfl (uW k25 ?_)
  refine rR (bR rfl rfl ?_)
  obtain rfl : i = gRows.length := by omega
  obtain ⟨D, hD, hv, hro, hoko, -⟩ := (hv).rowBy
  rw [show gNames.take gRows.length = gNames from rfl] at hro
  exact ⟨D, na, nc, hC.trans hD, rfl, hro, hoko, hv⟩
section
variable {M M' : List (List UInt8 × Ver)} {clk : Int} {k l : List UInt8} {y : Ver} {ok : Bool} {r : Rp} {ec : Int}
def gotM (M : List (List UInt8 × Ver)) (clk : Int) (k : List UInt8) : Option Ver := match lookA M k with
 | some y => if aliveB y clk = true then some y else none
 | none => none
theorem got_of (h : (ok = true ∧ lookA M k = some y ∧ aliveB y clk = true) ∨ (ok = false ∧ y = zver0 ∧ ∀ y9, lookA M k = some y9 → aliveB y9 clk = false)) : (ok = true ∧ gotM M clk k = some y) ∨ (ok = false ∧ y = zver0 ∧ gotM M clk k = none) := by
 rcases h with ⟨h1, h2, h3⟩ | ⟨h1, h2, h3⟩
 ·exact .inl ⟨h1, by unfold gotM; rw [h2]; exact if_pos h3⟩
 refine .inr ⟨h1, h2, ?_⟩
 unfold gotM
 cases hl : lookA M k with
 | none => rfl
 | some y9 => exact if_neg (by rw [h3 y9 hl]; decide)
theorem got_some (h : gotM M clk k = some y) : lookA M k = some y ∧ aliveB y clk = true := by
 unfold gotM at h
 cases hl : lookA M k with
 | none => rw [hl] at h; cases h
 | some y9 =>
  rw [hl] at h
  by_cases h9 : aliveB y9 clk = true
  ·simp only [h9, if_true] at h; cases h; exact ⟨rfl, h9⟩
  simp only [h9] at h; cases h
def DelI (M : List (List UInt8 × Ver)) (ks : List (List UInt8)) (ec : Int) (M' : List (List UInt8 × Ver)) : Prop := (ec = 0 ∧ (∀ k ∈ ks, k.length ≤ 256) ∧ M' = delM M ks) ∨ (ec ≠ 0 ∧ (∃ k ∈ ks, 256 < k.length) ∧ M' = M)
theorem delI_of {ks : List (List UInt8)} {B : Base} {es es' : List (List UInt8 × Value)} (hM : VM B es M) (h : (ec = 0 ∧ ks.any (fun s : List UInt8 => decide (s.length > 256)) = false ∧ VM B es' (delM M ks)) ∨ (ec = 2 ∧ ks.any (fun s : List UInt8 => decide (s.length > 256)) = true ∧ es' = es)) : ∃ M', VM B es' M' ∧ DelI M ks ec M' := by
 rcases h with ⟨h1, h2, h3⟩ | ⟨h1, h2, rfl⟩
 ·refine ⟨_, h3, .inl ⟨h1, fun k hk => ?_, rfl⟩⟩
  have := List.any_eq_false.1 h2 k hk
  simp only [decide_eq_true_eq] at this
  omega
 obtain ⟨k, h3, h4⟩ := List.any_eq_true.1 h2
 exact ⟨M, hM, .inr ⟨by omega, ⟨k, h3, of_decide_eq_true h4⟩, rfl⟩⟩
def stepK (M : List (List UInt8 × Ver)) (clk : Int) (acc : List (List UInt8)) (x : List UInt8) : List (List UInt8) := if x ∈ acc then acc else if (gotM M clk x).isSome then acc ++ [x] else acc
def dropK (M : List (List UInt8 × Ver)) (clk : Int) (ks : List (List UInt8)) : List (List UInt8) := ks.foldl (stepK M clk) []
theorem dropK_next {ks : List (List UInt8)} {i : Nat} {x : List UInt8} (hx : ks[i]? = some x) : dropK M clk (ks.take (i + 1)) = stepK M clk (dropK M clk (ks.take i)) x := by
 unfold dropK
 rw [take_next hx, List.foldl_append]; rfl
theorem stepK_in {acc : List (List UInt8)} {x : List UInt8} (h : x ∈ acc) : stepK M clk acc x = acc := if_pos h
theorem stepK_no {acc : List (List UInt8)} {x : List UInt8} (h : gotM M clk x = none) : stepK M clk acc x = acc := by
 unfold stepK; rw [h]; split <;> rfl
theorem stepK_add {acc : List (List UInt8)} {x : List UInt8} (h : x ∉ acc) (h2 : gotM M clk x ≠ none) : stepK M clk acc x = acc ++ [x] := by
 unfold stepK
 rw [if_neg h]
 cases hg : gotM M clk x with
 | none => exact absurd hg h2
 | some y => rfl
theorem dropK_le {ks : List (List UInt8)} : ∀ (i : Nat), i ≤ ks.length → (dropK M clk (ks.take i)).length ≤ i := fun i => by
 induction i with
 | zero => intro _; exact Nat.le_refl _
 | succ i ih =>
  intro hi
  rw [dropK_next (List.getElem?_eq_getElem (show i < ks.length by omega))]
  have := ih (by omega)
  unfold stepK
  split
  ·omega
  split
  ·rw [List.length_append, List.length_singleton]; omega
  omega
def SeenK (es : List (List UInt8 × Value)) (gn : List (List UInt8)) : Prop := ∀ q, (lookA es q = none ∧ q ∉ gn) ∨ (lookA es q = some (.agg #[]) ∧ q ∈ gn)
theorem SeenK.nil : SeenK [] [] := fun _ => .inl ⟨rfl, List.not_mem_nil⟩
theorem SeenK.upd {es : List (List UInt8 × Value)} {gn : List (List UInt8)} {x : List UInt8} (h : SeenK es gn) : SeenK (updA es x (.agg #[])) (gn ++ [x]) := fun q => by
 rw [look_upd]
 split
 ·rename_i e; exact .inr ⟨rfl, by rw [List.mem_append, List.mem_singleton]; first | exact .inr e | exact .inr e.symm⟩
 rename_i e
 rcases h q with ⟨h1, h2⟩ | ⟨h1, h2⟩
 ·refine .inl ⟨h1, fun h9 => ?_⟩
  rcases List.mem_append.1 h9 with h9 | h9
  ·exact h2 h9
  first | exact e (List.mem_singleton.1 h9) | exact e (List.mem_singleton.1 h9).symm
 exact .inr ⟨h1, List.mem_append_left _ h2⟩
def RenameR (M : List (List UInt8 × Ver)) (clk : Int) (k l : List UInt8) (M' : List (List UInt8 × Ver)) (r : Rp) : Prop :=
 (gotM M clk k = none ∧ M' = M ∧ IsF r) ∨ ∃ y, gotM M clk k = some y ∧ ((k = l ∧ M' = M ∧ r = rText [79, 75]) ∨ (k ≠ l ∧ ∃ e M1, KeepI M clk l y.val y.expire e M1 ∧ ((e ≠ 0 ∧ M' = M1 ∧ IsF r) ∨ (e = 0 ∧ ∃ e2, DelI M1 [k] e2 M' ∧ DoneR e2 (rText [79, 75]) r))))
def RenamenxR (M : List (List UInt8 × Ver)) (clk : Int) (k l : List UInt8) (M' : List (List UInt8 × Ver)) (r : Rp) : Prop :=
 (gotM M clk k = none ∧ M' = M ∧ IsF r) ∨ (gotM M clk k ≠ none ∧ ((gotM M clk l ≠ none ∧ M' = M ∧ r = rInt 0) ∨ (gotM M clk l = none ∧ ∃ r1, RenameR M clk k l M' r1 ∧ ((IsF r1 ∧ r = r1) ∨ (¬ IsF r1 ∧ r = rInt 1)))))
def CopyR (M : List (List UInt8 × Ver)) (clk : Int) (k l : List UInt8) (ws : List (List UInt8)) (M' : List (List UInt8 × Ver)) (r : Rp) : Prop :=
 (ws ≠ [] ∧ M' = M ∧ IsF r) ∨ ((gotM M clk k = none ∨ k = l ∨ (ws = [] ∧ gotM M clk l ≠ none)) ∧ M' = M ∧ r = rInt 0) ∨ (∃ y, gotM M clk k = some y ∧ k ≠ l ∧ (ws = [] → gotM M clk l = none) ∧ ∃ e, KeepI M clk l y.val y.expire e M' ∧ DoneR e (rInt 1) r)
end
theorem k6fa80_0 : FA Tryz.prog 80 0 0 := fun w b o => by kernel_rfl
theorem k6na24 (w : World) : (isAgg 24).run Tryz.prog w = .ok false w := by kernel_rfl
theorem k6al50 : AL Tryz.prog 50 [vI 0, .bool false, vI 0, vI 0, vS [], vN, vN, vN] := fun w => by kernel_rfl
theorem ckHas (B : Base) (H : List Res) (w : World) (v t m s p wb : Nat) (va : Option Addr) (vc : Nat) (sv : Value) (clk : Int) (es : List (List UInt8 × Value)) (M : List (List UInt8 × Ver)) (hM : VM B es M) (aa : Option Addr) (an ac : Nat) (k : List UInt8) (hv : Inv B (Res.cell v [.iface 100 (vP t)] 56 :: txR t m s p wb va vc sv clk es :: H) w) :
  Calls Tryz.prog 76 #[.agg #[vP v, .slice aa an ac], vS k] w fun e w' => ∃ C b, B.Le C ∧ e = .returned (.bool b) ∧ ((b = true ∧ gotM M clk k ≠ none) ∨ (b = false ∧ gotM M clk k = none)) ∧ Inv C (Res.cell v [.iface 100 (vP t)] 56 :: txR t m s p wb va vc sv clk es :: H) w' := by
 refine cW Tryz.func76 rfl Tryz.ntmps76 ?_
 simp only [al]
 refine sK fun _ k1 => rL (sl_box (L := [vP v, .slice aa an ac]) tV (wn rfl) rfl rfl hv (fun w => by kernel_rfl) (fun b2 w3 hv => ?_))
 refine uA rfl (uW k1 ?_)
 refine sK fun _ k4 => rL (uF (vP b2) rfl (k6fa80_0 _ _ _) ?_)
 refine uL _ rfl (run_load1 k6na24 (hv.load 0 0 rfl rfl)) ?_
 refine uG (vP v) rfl (ex_nil rfl rfl) ?_
 refine uF (vP v) rfl (v1fa56_0 _ _ _) ?_
 refine uL _ rfl (run_load1 v1na54 (hv.load 1 0 rfl rfl)) (uM rfl ?_)
 replace hv := hv.front 2 rfl
 simp only [eS, eZ] at hv
 refine wpi_callI v1callable215 tV wideC rfl (wn rfl) rfl rfl (r := vP t) (fun w => by kernel_rfl) (args := #[vS k]) (by simp only [List.map_toArray, List.map_cons, List.map_nil]; rfl) ((txnGet B _ _ t m s p wb va vc sv clk es M k (hM.more (Base.Le.refl _)) hv).mono ?_)
 rintro e w5 ⟨G, y, yp, yt, yz, oky, hG, rfl, hgot, hyv, hv⟩
 refine ⟨_, rfl, ?_⟩
 rcases got_of hgot with ⟨rfl, hg⟩ | ⟨rfl, rfl, hg⟩
 ·refine uM rfl (uE rfl ?_)
  refine uE rfl ?_
  refine sl_alloc tV (wn rfl) rfl hv k6al50 (fun b6 w7 hv => ?_)
  refine xS 0 rfl hv x0sz50 rfl (by exact ⟨rfl, rfl, rfl, rfl, rfl, hyv.p.one, hyv.t.one, hyv.z.one, trivial⟩) (fun w8 hv => ?_)
  simp only [zO, sp] at hv
  refine uA rfl (uW k4 ?_)
  refine sK fun _ k9 => rL (uM rfl ?_)
  refine uA rfl (uW k9 ?_)
  refine rR (bR rfl rfl ?_)
  exact ⟨G, _, hG, rfl, .inl ⟨rfl, by rw [hg]; exact Option.some_ne_none _⟩, (hv.kp [1, 3] 2 2)⟩
 refine uM rfl (uE rfl ?_)
 refine uE rfl ?_
 refine sl_alloc tV (wn rfl) rfl hv k6al50 (fun b10 w11 hv => ?_)
 refine xS 0 rfl hv x0sz50 rfl (by exact ⟨rfl, rfl, rfl, rfl, rfl, hyv.p.one, hyv.t.one, hyv.z.one, trivial⟩) (fun w12 hv => ?_)
 simp only [zO, sp] at hv
 refine uA rfl (uW k4 ?_)
 refine sK fun _ k13 => rL (uM rfl ?_)
 refine uA rfl (uW k13 ?_)
 refine rR (bR rfl rfl ?_)
 exact ⟨G, _, hG, rfl, .inr ⟨rfl, hg⟩, (hv.kp [1, 3] 2 2)⟩
theorem rp_kind {B : Base} {r : Rp} {k : Int} {s : List UInt8} {n : Int} {v : Value} (h : RpAt B r (rpCells k s n v)) : r.kind = k := by
 cases r; simp only [RpAt] at h
 obtain ⟨v2, xs, h1, -⟩ := h
 simp only [List.cons.injEq, Value.int.injEq, true_and] at h1
 exact h1.1.symm
theorem k6al34 : AL Tryz.prog 34 [vI 0, vS [], vI 0, vN] := fun w => by kernel_rfl
theorem k6callable58 : Callable Tryz.prog 58 := cb Tryz.func58 (by kernel_rfl)
theorem k6callable16 : Callable Tryz.prog 16 := cb Tryz.func16 (by kernel_rfl)
theorem k6mk9 : (Tryz.prog.info? 9).map (fun i => (i.zero, i.size, i.bytes)) = some (some (vS []), 1, 16) := by kernel_rfl
theorem k6el26 : Elem Tryz.prog 26 9 (vS []) 1 16 := elem_of Tryz.underlying26 k6mk9 (by rfl) (by decide)
theorem k6callable56 : Callable Tryz.prog 56 := cb Tryz.func56 (by kernel_rfl)
theorem ckRename (B : Base) (H : List Res) (w : World) (v t m s p wb : Nat) (va : Option Addr) (vc : Nat) (sv : Value) (clk : Int) (es : List (List UInt8 × Value)) (M : List (List UInt8 × Ver)) (hM : VM B es M) (aa : Option Addr) (an ac : Nat) (k l : List UInt8) (hv : Inv B (Res.cell v [.iface 100 (vP t)] 56 :: txR t m s p wb va vc sv clk es :: H) w) :
  Calls Tryz.prog 61 #[.agg #[vP v, .slice aa an ac], vS k, vS l] w fun e w' => ∃ C es' M' r cs, B.Le C ∧ e = .returned (.agg cs.toArray) ∧ RpAt C r cs ∧ VM C es' M' ∧ RenameR M clk k l M' r ∧ Inv C (Res.cell v [.iface 100 (vP t)] 56 :: txR t m s p wb va vc sv clk es' :: H) w' := by
 refine cW Tryz.func61 rfl Tryz.ntmps61 ?_
 simp only [al]
 refine sK fun _ k1 => rL (sl_box (L := [vP v, .slice aa an ac]) tV (wn rfl) rfl rfl hv (fun w => by kernel_rfl) (fun b2 w3 hv => ?_))
 refine sl_alloc tV (wn rfl) rfl hv k6al34 (fun b4 w5 hv => ?_)
 refine uW k1 (sK fun _ k6 => ?_)
 refine rL (uF (vP b2) rfl (k6fa80_0 _ _ _) ?_)
 refine uL _ rfl (run_load1 k6na24 (hv.load 1 0 rfl rfl)) ?_
 refine uG (vP v) rfl (ex_nil rfl rfl) ?_
 refine uF (vP v) rfl (v1fa56_0 _ _ _) ?_
 refine uL _ rfl (run_load1 v1na54 (hv.load 2 0 rfl rfl)) (uM rfl ?_)
 replace hv := hv.front 3 rfl
 simp only [eS, eZ] at hv
 refine wpi_callI v1callable215 tV wideC rfl (wn rfl) rfl rfl (r := vP t) (fun w => by kernel_rfl) (args := #[vS k]) (by simp only [List.map_toArray, List.map_cons, List.map_nil]; rfl) ((txnGet B _ _ t m s p wb va vc sv clk es M k (hM.more (Base.Le.refl _)) hv).mono ?_)
 rintro e w7 ⟨G, y, yp, yt, yz, oky, hG, rfl, hgot, hyv, hv⟩
 refine ⟨_, rfl, ?_⟩
 rcases got_of hgot with ⟨rfl, hg⟩ | ⟨rfl, rfl, hg⟩
 ·refine uM rfl (uE rfl ?_)
  refine uE rfl ?_
  refine sl_alloc tV (wn rfl) rfl hv k6al50 (fun b8 w9 hv => ?_)
  refine xS 0 rfl hv x0sz50 rfl (by exact ⟨rfl, rfl, rfl, rfl, rfl, hyv.p.one, hyv.t.one, hyv.z.one, trivial⟩) (fun w10 hv => ?_)
  simp only [zO, sp] at hv
  refine uA rfl (uW k6 ?_)
  refine sK fun _ k11 => sK fun _ k12 => rL (uM rfl ?_)
  refine uG (.bool false) rfl (ex_not rfl rfl rfl) (uW k12 ?_)
  refine cF rfl (kS ?_)
  refine tK k11 (sK fun _ k13 => ?_)
  refine sK fun _ k14 => rL (uM rfl ?_)
  refine uM rfl ?_
  by_cases hb15 : k = l
  ·refine uG (.bool true) rfl (ex_seql rfl rfl rfl (qT hb15)) (uW k14 ?_)
   refine cT rfl (sK fun _ k16 => ?_)
   refine rL (xC k6callable58 rfl ((respText G _ _ ([79, 75] : List UInt8) hv).mono ?_) rfl)
   rintro e w17 ⟨rfl, hv⟩
   refine ⟨_, rfl, ?_⟩
   refine xS 2 rfl hv rssz34 rfl (by exact ⟨rfl, rfl, rfl, rfl, trivial⟩) (fun w18 hv => ?_)
   simp only [zS, zO, sp] at hv
   refine uW k16 (rR ?_)
   refine tR (bC 2 rswd34 hv rfl rfl rfl rfl ?_)
   exact ⟨G, es, M, (.mk 0 ([79, 75] : List UInt8) 0 []), _, hG, rfl, rpAt_leaf, hM.more hG, .inr ⟨y, hg, .inl ⟨hb15, rfl, rfl⟩⟩, (hv.kp [1, 4] 2 3)⟩
  refine uG (.bool false) rfl (ex_seql rfl rfl rfl (qF hb15)) (uW k14 ?_)
  refine cF rfl (kS ?_)
  refine tK k13 (sK fun _ k19 => ?_)
  refine sK fun _ k20 => rL (uF (vP b2) rfl (k6fa80_0 _ _ _) ?_)
  refine uL _ rfl (run_load1 k6na24 (hv.load 3 0 rfl rfl)) (uM rfl ?_)
  refine uF (.pointer (some ⟨b8, 3, none⟩)) rfl (x2fa50_3 _ _ _) ?_
  refine uL (.agg #[vI y.val.kind, vS y.val.text, yp, yt, yz]) rfl (lM 0 s1wd43 hv rfl rfl rfl rfl) ?_
  refine uF (.pointer (some ⟨b8, 2, none⟩)) rfl (s2fa50_2 _ _ _) ?_
  refine uL _ rfl (run_load1 s2na3 (hv.load 0 2 rfl rfl)) ?_
  replace hv := hv.front 1 rfl
  simp only [eS, eZ] at hv
  replace hv := hv.front 4 rfl
  simp only [eS, eZ] at hv
  refine xC k6callable16 rfl ((viewKeep G _ _ v t m s p wb va vc sv clk es M l y.val yp yt yz y.expire (hM.more hG) (hyv.more (Base.Le.refl _)) hv).mono ?_) rfl
  rintro e w21 ⟨D, es1, M1, e1, hD, rfl, hM1, hkp, hv⟩
  refine ⟨_, rfl, uA rfl ?_⟩
  refine uW k20 (sK fun _ k22 => ?_)
  refine rL (uM rfl ?_)
  by_cases hb23 : e1 ≠ 0
  ·refine uG (.bool true) rfl (ex_neq rfl rfl rfl (qT hb23)) (uW k22 ?_)
   refine cT rfl (sK fun _ k24 => ?_)
   refine rL (uM rfl ?_)
   refine xC rscallable29 rfl ((viewWrong D _ _ e1 hv).mono ?_) rfl
   rintro e w26 ⟨s25, rfl, hv⟩
   refine ⟨_, rfl, ?_⟩
   refine xS 3 rfl hv rssz34 rfl (by exact ⟨rfl, rfl, rfl, rfl, trivial⟩) (fun w27 hv => ?_)
   simp only [zS, zO, sp] at hv
   refine uW k24 (rR ?_)
   refine tR (bC 3 rswd34 hv rfl rfl rfl rfl ?_)
   exact ⟨D, es1, M1, (.mk 1 s25 0 []), _, (hG.trans hD), rfl, rpAt_leaf, hM1.more (Base.Le.refl _), .inr ⟨y, hg, .inr ⟨hb15, e1, M1, hkp, .inl ⟨by omega, rfl, rfl⟩⟩⟩, (hv.kp [1, 1] 2 3)⟩
  refine uG (.bool false) rfl (ex_neq rfl rfl rfl (qF hb23)) (uW k22 ?_)
  refine cF rfl (kS ?_)
  refine tK k19 (sK fun _ k28 => ?_)
  refine rL (uF (vP b2) rfl (k6fa80_0 _ _ _) ?_)
  refine uL _ rfl (run_load1 k6na24 (hv.load 4 0 rfl rfl)) ?_
  refine uG (vP v) rfl (ex_nil rfl rfl) ?_
  refine uF (vP v) rfl (v1fa56_0 _ _ _) ?_
  refine uL _ rfl (run_load1 v1na54 (hv.load 0 0 rfl rfl)) (uM rfl ?_)
  refine sl_rowOne (v := vS k) tV (wn rfl) rfl rfl hv k6el26 rfl (fun b29 w30 hv => ?_)
  obtain ⟨K31, hK31, hv, hrkK31, hokK31, -⟩ := (hv.cellRow (n := 1) (c := 1) (size := 1) rfl (by decide) (by decide)).rowBy
  replace hv := hv.front 1 rfl
  simp only [eS, eZ] at hv
  refine wpi_callI v1callable214 tV wideC rfl (wn rfl) rfl rfl (r := vP t) (fun w => by kernel_rfl) (args := #[.slice (some ⟨b29, 0, none⟩) 1 1]) (by simp only [List.map_toArray, List.map_cons, List.map_nil]; rfl) ((txnDel K31 _ _ t m s p wb va vc sv clk es1 M1 _ 1 [k] hrkK31 (by simp) (hM1.more hK31) hv).mono ?_)
  rintro e w32 ⟨es2, e2, rfl, hdel, hv⟩
  refine ⟨_, rfl, ?_⟩
  obtain ⟨M2, hM2, hdl⟩ := delI_of (hM1.more hK31) hdel
  refine xC k6callable58 rfl ((respText K31 _ _ ([79, 75] : List UInt8) hv).mono ?_) rfl
  rintro e w33 ⟨rfl, hv⟩
  refine ⟨_, rfl, ?_⟩
  simp only [zP, po]
  refine xC k6callable56 rfl ((viewDone K31 _ _ e2 0 0 ([79, 75] : List UInt8) (vN) rfl rfl hv).mono ?_) rfl
  rintro e w34 ⟨xr, hxr, rfl, hv⟩
  refine ⟨_, rfl, ?_⟩
  rcases hxr with ⟨hec0, rfl⟩ | ⟨hec0, s35, rfl⟩
  ·refine xS 3 rfl hv rssz34 rfl (by exact ⟨rfl, rfl, rfl, rfl, trivial⟩) (fun w36 hv => ?_)
   simp only [zS, zO, sp] at hv
   refine uW k28 (rR ?_)
   refine bC 3 rswd34 hv rfl rfl rfl rfl (⟨K31, es2, M2, (.mk 0 ([79, 75] : List UInt8) 0 []), _, ((hG.trans hD).trans hK31), rfl, rpAt_leaf, hM2.more (Base.Le.refl _), .inr ⟨y, hg, .inr ⟨hb15, e1, M1, hkp, .inr ⟨by omega, e2, hdl, .inl ⟨by omega, rfl⟩⟩⟩⟩, (hv.kp [1] 2 3)⟩)
  refine xS 3 rfl hv rssz34 rfl (by exact ⟨rfl, rfl, rfl, rfl, trivial⟩) (fun w37 hv => ?_)
  simp only [zS, zO, sp] at hv
  refine uW k28 (rR ?_)
  refine bC 3 rswd34 hv rfl rfl rfl rfl (⟨K31, es2, M2, (.mk 1 s35 0 []), _, ((hG.trans hD).trans hK31), rfl, rpAt_leaf, hM2.more (Base.Le.refl _), .inr ⟨y, hg, .inr ⟨hb15, e1, M1, hkp, .inr ⟨by omega, e2, hdl, .inr ⟨by omega, rfl⟩⟩⟩⟩, (hv.kp [1] 2 3)⟩)
 refine uM rfl (uE rfl ?_)
 refine uE rfl ?_
 refine sl_alloc tV (wn rfl) rfl hv k6al50 (fun b38 w39 hv => ?_)
 refine xS 0 rfl hv x0sz50 rfl (by exact ⟨rfl, rfl, rfl, rfl, rfl, hyv.p.one, hyv.t.one, hyv.z.one, trivial⟩) (fun w40 hv => ?_)
 simp only [zO, sp] at hv
 refine uA rfl (uW k6 ?_)
 refine sK fun _ k41 => sK fun _ k42 => rL (uM rfl ?_)
 refine uG (.bool true) rfl (ex_not rfl rfl rfl) (uW k42 ?_)
 refine cT rfl (sK fun _ k43 => ?_)
 refine rL (xC rscallable29 rfl ((viewWrong G _ _ 23 hv).mono ?_) rfl)
 rintro e w45 ⟨s44, rfl, hv⟩
 refine ⟨_, rfl, ?_⟩
 refine xS 2 rfl hv rssz34 rfl (by exact ⟨rfl, rfl, rfl, rfl, trivial⟩) (fun w46 hv => ?_)
 simp only [zS, zO, sp] at hv
 refine uW k43 (rR ?_)
 refine tR (bC 2 rswd34 hv rfl rfl rfl rfl ?_)
 exact ⟨G, es, M, (.mk 1 s44 0 []), _, hG, rfl, rpAt_leaf, hM.more hG, .inl ⟨hg, rfl, rfl⟩, (hv.kp [1, 4] 2 3)⟩
theorem k6wd80 : Wide Tryz.prog 80 2 := wide_of (fun w => by kernel_rfl) (by kernel_rfl)
theorem k6callable76 : Callable Tryz.prog 76 := cb Tryz.func76 (by kernel_rfl)
theorem k6callable54 : Callable Tryz.prog 54 := cb Tryz.func54 (by kernel_rfl)
theorem k6callable61 : Callable Tryz.prog 61 := cb Tryz.func61 (by kernel_rfl)
theorem ckRenamenx (B : Base) (H : List Res) (w : World) (v t m s p wb : Nat) (va : Option Addr) (vc : Nat) (sv : Value) (clk : Int) (es : List (List UInt8 × Value)) (M : List (List UInt8 × Ver)) (hM : VM B es M) (aa : Option Addr) (an ac : Nat) (k l : List UInt8) (hv : Inv B (Res.cell v [.iface 100 (vP t)] 56 :: txR t m s p wb va vc sv clk es :: H) w) :
  Calls Tryz.prog 62 #[.agg #[vP v, .slice aa an ac], vS k, vS l] w fun e w' => ∃ C es' M' r cs, B.Le C ∧ e = .returned (.agg cs.toArray) ∧ RpAt C r cs ∧ VM C es' M' ∧ RenamenxR M clk k l M' r ∧ Inv C (Res.cell v [.iface 100 (vP t)] 56 :: txR t m s p wb va vc sv clk es' :: H) w' := by
 refine cW Tryz.func62 rfl Tryz.ntmps62 ?_
 simp only [al]
 refine sK fun _ k1 => rL (sl_box (L := [vP v, .slice aa an ac]) tV (wn rfl) rfl rfl hv (fun w => by kernel_rfl) (fun b2 w3 hv => ?_))
 refine sl_alloc tV (wn rfl) rfl hv k6al34 (fun b4 w5 hv => ?_)
 refine uW k1 (sK fun _ k6 => ?_)
 refine sK fun _ k7 => rL (uL (.agg #[vP v, .slice aa an ac]) rfl (lM 1 k6wd80 hv rfl rfl rfl rfl) ?_)
 refine uM rfl ?_
 replace hv := hv.front 3 rfl
 simp only [eS, eZ] at hv
 replace hv := hv.front 3 rfl
 simp only [eS, eZ] at hv
 refine xC k6callable76 rfl ((ckHas B _ _ v t m s p wb va vc sv clk es M (hM.more (Base.Le.refl _)) aa an ac k hv).mono ?_) rfl
 rintro e w8 ⟨P1, b1, hP1, rfl, hh1, hv⟩
 refine ⟨_, rfl, ?_⟩
 rcases hh1 with ⟨rfl, hg1⟩ | ⟨rfl, hg1⟩
 ·refine uG (.bool false) rfl (ex_not rfl rfl rfl) (uW k7 ?_)
  refine cF rfl (kS ?_)
  refine tK k6 (sK fun _ k9 => ?_)
  refine sK fun _ k10 => rL (uL (.agg #[vP v, .slice aa an ac]) rfl (lM 3 k6wd80 hv rfl rfl rfl rfl) ?_)
  refine uM rfl ?_
  replace hv := hv.front 1 rfl
  simp only [eS, eZ] at hv
  replace hv := hv.front 1 rfl
  simp only [eS, eZ] at hv
  refine xC k6callable76 rfl ((ckHas P1 _ _ v t m s p wb va vc sv clk es M (hM.more hP1) aa an ac l hv).mono ?_) rfl
  rintro e w11 ⟨P2, b2, hP2, rfl, hh2, hv⟩
  refine ⟨_, rfl, ?_⟩
  rcases hh2 with ⟨rfl, hg2⟩ | ⟨rfl, hg2⟩
  ·refine uW k10 (cT rfl ?_)
   refine sK fun _ k12 => rL (xC k6callable54 rfl ((respInt P2 _ _ 0 hv).mono ?_) rfl)
   rintro e w13 ⟨rfl, hv⟩
   refine ⟨_, rfl, ?_⟩
   refine xS 2 rfl hv rssz34 rfl (by exact ⟨rfl, rfl, rfl, rfl, trivial⟩) (fun w14 hv => ?_)
   simp only [zS, zO, sp] at hv
   refine uW k12 (rR ?_)
   refine tR (bC 2 rswd34 hv rfl rfl rfl rfl ?_)
   exact ⟨P2, es, M, (.mk 2 ([] : List UInt8) 0 []), _, (hP1.trans hP2), rfl, rpAt_leaf, hM.more (hP1.trans hP2), .inr ⟨hg1, .inl ⟨hg2, rfl, rfl⟩⟩, (hv.kp [1, 1] 2 2)⟩
  refine uW k10 (cF rfl ?_)
  refine kS (tK k9 ?_)
  refine sK fun _ k15 => sK fun _ k16 => rL (uL (.agg #[vP v, .slice aa an ac]) rfl (lM 3 k6wd80 hv rfl rfl rfl rfl) ?_)
  refine uM rfl (uM rfl ?_)
  replace hv := hv.front 1 rfl
  simp only [eS, eZ] at hv
  replace hv := hv.front 1 rfl
  simp only [eS, eZ] at hv
  refine xC k6callable61 rfl ((ckRename P2 _ _ v t m s p wb va vc sv clk es M (hM.more (hP1.trans hP2)) aa an ac k l hv).mono ?_) rfl
  rintro e w17 ⟨D, es1, M1, r1, cs, hD, rfl, hrp, hM1, hrn, hv⟩
  refine ⟨_, rfl, ?_⟩
  obtain ⟨rk, rs, rn, rv, rfl⟩ := rp_parts hrp
  refine sl_alloc tV (wn rfl) rfl hv k6al34 (fun b18 w19 hv => ?_)
  refine xS 0 rfl hv rssz34 rfl (by exact ⟨rfl, rfl, rfl, hrp.lv.2, trivial⟩) (fun w20 hv => ?_)
  simp only [zO, sp] at hv
  refine uW k16 (sK fun _ k21 => ?_)
  refine rL (uF (vP b18) rfl (k0fa34_0 _ _ _) ?_)
  refine uL _ rfl (run_load1 s2na3 (hv.load 0 0 rfl rfl)) ?_
  by_cases hb22 : rk = 1
  ·refine uG (.bool true) rfl (ex_eql rfl rfl rfl (qT hb22)) (uW k21 ?_)
   refine cT rfl (sK fun _ k23 => ?_)
   refine rL (uL (.agg #[vI rk, vS rs, vI rn, rv]) rfl (lM 0 rswd34 hv rfl rfl rfl rfl) ?_)
   refine xS 3 rfl hv rssz34 rfl (by exact ⟨rfl, rfl, rfl, hrp.lv.2, trivial⟩) (fun w24 hv => ?_)
   simp only [zS, zO, sp] at hv
   refine uW k23 (rR ?_)
   refine tR (bC 3 rswd34 hv rfl rfl rfl rfl ?_)
   exact ⟨D, es1, M1, r1, _, ((hP1.trans hP2).trans hD), rfl, (hrp.more (Base.Le.refl _)), hM1.more (Base.Le.refl _), .inr ⟨hg1, .inr ⟨hg2, r1, hrn, .inl ⟨(rp_kind hrp).trans hb22, rfl⟩⟩⟩, (hv.kp [2, 2] 2 3)⟩
  refine uG (.bool false) rfl (ex_eql rfl rfl rfl (qF hb22)) (uW k21 ?_)
  refine cF rfl (kS ?_)
  refine tK k15 (sK fun _ k25 => ?_)
  refine rL (xC k6callable54 rfl ((respInt D _ _ 1 hv).mono ?_) rfl)
  rintro e w26 ⟨rfl, hv⟩
  refine ⟨_, rfl, ?_⟩
  refine xS 3 rfl hv rssz34 rfl (by exact ⟨rfl, rfl, rfl, rfl, trivial⟩) (fun w27 hv => ?_)
  simp only [zS, zO, sp] at hv
  refine uW k25 (rR ?_)
  refine bC 3 rswd34 hv rfl rfl rfl rfl (⟨D, es1, M1, (.mk 2 ([] : List UInt8) 1 []), _, ((hP1.trans hP2).trans hD), rfl, rpAt_leaf, hM1.more (Base.Le.refl _), .inr ⟨hg1, .inr ⟨hg2, r1, hrn, .inr ⟨fun h9 => hb22 ((rp_kind hrp).symm.trans h9), rfl⟩⟩⟩, (hv.kp [2, 2] 2 3)⟩)
 refine uG (.bool true) rfl (ex_not rfl rfl rfl) (uW k7 ?_)
 refine cT rfl (sK fun _ k28 => ?_)
 refine rL (xC rscallable29 rfl ((viewWrong P1 _ _ 23 hv).mono ?_) rfl)
 rintro e w30 ⟨s29, rfl, hv⟩
 refine ⟨_, rfl, ?_⟩
 refine xS 2 rfl hv rssz34 rfl (by exact ⟨rfl, rfl, rfl, rfl, trivial⟩) (fun w31 hv => ?_)
 simp only [zS, zO, sp] at hv
 refine uW k28 (rR ?_)
 refine tR (bC 2 rswd34 hv rfl rfl rfl rfl ?_)
 exact ⟨P1, es, M, (.mk 1 s29 0 []), _, hP1, rfl, rpAt_leaf, hM.more hP1, .inl ⟨hg1, rfl, rfl⟩, (hv.kp [1, 1] 2 2)⟩
end Go.Proofs.YtngpmolbphinnaaGreatDoor
