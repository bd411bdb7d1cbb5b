/- view: options, Pages, Fits. -/
import Derived.Test.YtngpmolbphinnaaGreatDoorCkSrtB
import Derived.Test.YtngpmolbphinnaaGreatDoorCkSrtF
import Derived.Test.YtngpmolbphinnaaGreatDoorCkSrtE
import Derived.Test.YtngpmolbphinnaaGreatDoorCkSrtG
import Derived.Test.YtngpmolbphinnaaGreatDoorRows
import Derived.Test.YtngpmolbphinnaaGreatDoorCkSrtD
import Derived.Sort.Walk0
import Derived.Test.YtngpmolbphinnaaGreatDoorCkSrtC
set_option maxRecDepth 100000
set_option maxHeartbeats 16000000
set_option synthInstance.maxSize 4096
set_option synthInstance.maxHeartbeats 400000
namespace Go.Proofs.YtngpmolbphinnaaGreatDoor
open Go.RowKit Go.Pm
theorem res_cct {P : Program} {fn : Func} {w : World} {t u : TypeId} {v v' : Value} {r i j : Nat} (h : fn.results = #[.cell r t, .cell i u, .tmp j]) {tmps : Array Value} {ad ad' : Addr} (hr : tmps.getD r undef = .pointer (some ad)) (hl : (Instr.loadAt t (.pointer (some ad))).run P w = .ok v w)
  (hr2 : tmps.getD i undef = .pointer (some ad')) (hl2 : (Instr.loadAt u (.pointer (some ad'))).run P w = .ok v' w) : (results fn tmps).run P w = .ok (.tuple #[v, v', tmps.getD j undef]) w := by
 have hl' : (loadVar t ad).run P w = .ok v w := by simpa [Instr.loadAt, Instr.sureAddr] using hl
 have hr' : tmps[r]?.getD undef = .pointer (some ad) := by rw [← hr, Array.getD_eq_getD_getElem?]
 have hl2' : (loadVar u ad').run P w = .ok v' w := by simpa [Instr.loadAt, Instr.sureAddr] using hl2
 have hr2' : tmps[i]?.getD undef = .pointer (some ad') := by rw [← hr2, Array.getD_eq_getD_getElem?]
 simp [results, h, hr', hr2', asAddr, hl', hl2']
theorem pg_drop (l : List (List UInt8)) (i : Nat) : (textCells l).drop i = textCells (l.drop i) := by simp [textCells]
abbrev wMATCH : List UInt8 := [77, 65, 84, 67, 72]
abbrev wCOUNT : List UInt8 := [67, 79, 85, 78, 84]
theorem is2 {arg a b : List UInt8} {r : Int} (h : IsI arg [a, b] r) : (r = -1 ∧ ¬ SameC a arg ∧ ¬ SameC b arg) ∨ (r = 0 ∧ SameC a arg) ∨ (r = 1 ∧ ¬ SameC a arg ∧ SameC b arg) := by
 rcases h with ⟨rfl, h⟩ | ⟨i, x, rfl, hx, h1, h2⟩
 ·exact .inl ⟨rfl, h a (by simp), h b (by simp)⟩
 match i, hx with
 | 0, hx => cases hx; exact .inr (.inl ⟨rfl, h1⟩)
 | 1, hx => cases hx; exact .inr (.inr ⟨rfl, h2 0 a (by omega) rfl, h1⟩)
inductive OptTo (args : List (List UInt8)) : Nat → List UInt8 → List UInt8 → Bool → Bool → Prop where
 | zero : OptTo args 0 [] [] false false
 | m {i : Nat} {t0 t1 a v : List UInt8} {b1 : Bool} : OptTo args i t0 t1 false b1 → args[i]? = some a → args[i + 1]? = some v → SameC wMATCH a → OptTo args (i + 2) v t1 true b1
 | c {i : Nat} {t0 t1 a v : List UInt8} {b0 : Bool} : OptTo args i t0 t1 b0 false → args[i]? = some a → args[i + 1]? = some v → ¬ SameC wMATCH a → SameC wCOUNT a → OptTo args (i + 2) t0 v b0 true
def OptBad (args : List (List UInt8)) : Prop := args.length % 2 ≠ 0 ∨ ∃ i t0 t1 b0 b1 a, OptTo args i t0 t1 b0 b1 ∧ args[i]? = some a ∧ ((¬ SameC wMATCH a ∧ ¬ SameC wCOUNT a) ∨ (SameC wMATCH a ∧ b0 = true) ∨ (¬ SameC wMATCH a ∧ SameC wCOUNT a ∧ b1 = true))
def OptR (args : List (List UInt8)) (t0 t1 : List UInt8) (b0 b1 : Bool) (ec : Int) : Prop := (ec = 42 ∧ OptBad args) ∨ (ec = 0 ∧ args.length % 2 = 0 ∧ OptTo args args.length t0 t1 b0 b1)
theorem optTo_even {args : List (List UInt8)} {i : Nat} {t0 t1 : List UInt8} {b0 b1 : Bool} (h : OptTo args i t0 t1 b0 b1) : i % 2 = 0 := by
 induction h <;> omega
theorem v8al180 : AL Tryz.prog 180 [vS [], vS []] := fun w => by kernel_rfl
theorem v8al181 : AL Tryz.prog 181 [.bool false, .bool false] := fun w => by kernel_rfl
theorem v8wd180 : Wide Tryz.prog 180 2 := wide_of (fun w => by kernel_rfl) (by kernel_rfl)
theorem v8wd181 : Wide Tryz.prog 181 2 := wide_of (fun w => by kernel_rfl) (by kernel_rfl)
theorem v8sz180 : (Tryz.prog.info? 180).map (·.size) = some 2 := by kernel_rfl
theorem v8sz181 : (Tryz.prog.info? 181).map (·.size) = some 2 := by kernel_rfl
theorem v8callable75 : Callable Tryz.prog 75 := cb Tryz.func75 (by kernel_rfl)
theorem v8ea181 (w : World) : (sizeOf 4).run Tryz.prog w = .ok 1 w := by kernel_rfl
theorem v8ua181 : Tryz.prog.underlying 181 = some (.array 2 4) := by kernel_rfl
theorem v8ea180 (w : World) : (sizeOf 9).run Tryz.prog w = .ok 1 w := by kernel_rfl
theorem v8ua180 : Tryz.prog.underlying 180 = some (.array 2 9) := by kernel_rfl
theorem v8sz4 : (Tryz.prog.info? 4).map (·.size) = some 1 := by kernel_rfl
theorem viewOptions (B : Base) (H : List Res) (w : World) (aa : Option Addr) (ac : Nat) (args : List (List UInt8)) (hra : RdV B [] aa (textCells args)) (hma : args.length ≤ 10000) (hxl : ∀ x ∈ args, x.length ≤ 9223372036854775807) (hv : Inv B H w) :
  Calls Tryz.prog 99 #[.slice aa args.length ac] w fun e w' => ∃ t0 t1 b0 b1 ec, e = .returned (.tuple #[.agg #[vS t0, vS t1], .agg #[.bool b0, .bool b1], vI ec]) ∧ OptR args t0 t1 b0 b1 ec ∧ Inv B H w' := by
 refine cW Tryz.func99 rfl Tryz.ntmps99 ?_
 simp only [al]
 refine sK fun _ k1 => rL (sl_alloc tV (wn rfl) rfl hv v8al180 (fun b2 w3 hv => ?_))
 refine sl_alloc tV (wn rfl) rfl hv v8al181 (fun b4 w5 hv => ?_)
 refine uA rfl (uW k1 ?_)
 refine sK fun _ k6 => sK fun _ k7 => rL (uM rfl ?_)
 refine uG (vI (args.length : Int)) rfl (ex_len0 Tryz.underlying26 rfl rfl) ?_
 refine uG (vI ((args.length % 2 : Nat) : Int)) rfl (ex_rem (m := (args.length : Int)) (n := 2) rfl rfl rfl (by decide) rfl) ?_
 by_cases hb8 : ((args.length % 2 : Nat) : Int) ≠ 0
 ·refine uG (.bool true) rfl (ex_neq rfl rfl rfl (qT hb8)) (uW k7 ?_)
  refine cT rfl (sK fun _ k9 => ?_)
  refine rW mixed [2, 3] [0,1,2,3,4] 45 rfl (by kernel_rfl) hv ?_
  simp only [qm, opAt]
  refine dL (.agg #[vS [], vS []]) rfl (fun hv => ex_load rfl rfl (lM 1 v8wd180 hv rfl rfl rfl rfl)) (dF (.agg #[.bool false, .bool false]) rfl (fun hv => ex_load rfl rfl (lM 0 v8wd181 hv rfl rfl rfl rfl)) fun f10 hf10 => ?_)
  refine dS rfl fun w11 hv => mS 1 rfl hv v8sz180 rfl (by exact ⟨rfl, rfl, trivial⟩) (fun w12 hv => ?_)
  simp only [zS, zO, sp] at hv
  refine dV hv (fC (fun ww hv => hf10 ww ?_) fN) ?_
  ·exact ex_load rfl rfl (lM 0 v8wd181 hv rfl rfl rfl rfl)
  simp only [zP, po]
  refine dS rfl fun w13 hv => mS 0 rfl hv v8sz181 rfl (by exact ⟨rfl, rfl, trivial⟩) (fun w14 hv => ?_)
  simp only [zO, sp] at hv
  refine dV hv (fK rfl fN) (dA (vI 42) rfl ?_)
  refine dE fun w15 hv => ?_
  simp only [zP, po]
  refine tK k9 (rR ?_)
  refine tR (bodyPost_ret (res_cct rfl rfl (lM 1 v8wd180 hv rfl rfl rfl rfl) rfl (lM 0 v8wd181 hv rfl rfl rfl rfl)) rfl ?_)
  exact ⟨[], [], false, false, 42, rfl, .inl ⟨rfl, .inl (by omega)⟩, (hv.kp [] 0 2)⟩
 refine uG (.bool false) rfl (ex_neq rfl rfl rfl (qF hb8)) (uW k7 ?_)
 refine cF rfl (kS ?_)
 refine tK k6 (sK fun _ k16 => ?_)
 refine sK fun _ k17 => rL (uA rfl ?_)
 refine uW k17 (bB ?_)
 gi_loopw [5] (fun x5 wr => ∃ (i : Nat) (t0 t1 : List UInt8) (b0 b1 : Bool), x5 = vI i ∧ i ≤ args.length ∧ OptTo args i t0 t1 b0 b1 ∧ Inv B (Res.cell b2 [vS t0, vS t1] 180 :: Res.cell b4 [.bool b0, .bool b1] 181 :: H) wr) (fun x5 _ => args.length - (intOf x5).toNat)
 case atStart => exact ⟨0, [], [], false, false, rfl, Nat.zero_le _, .zero, (hv.front 1 rfl)⟩
 case round =>
  obtain ⟨i, t0, t1, b0, b1, rfl, hi, hot, hv⟩ := hrel
  have hev : i % 2 = 0 := optTo_even hot
  refine sK fun _ k19 => sK fun _ k20 => rL (uM rfl ?_)
  refine uM rfl ?_
  refine uG (vI (args.length : Int)) rfl (ex_len0 Tryz.underlying26 rfl rfl) ?_
  by_cases hb21 : (i : Int) < (args.length : Int)
  ·refine uG (.bool true) rfl (ex_lss rfl rfl rfl (qT hb21)) (uW k20 ?_)
   refine cT rfl (kS ?_)
   refine tK k19 (sK fun _ k22 => ?_)
   refine bB (sK fun _ k23 => ?_)
   obtain ⟨x, hx⟩ : ∃ x, args[i]? = some x := ⟨_, List.getElem?_eq_getElem (show i < args.length by omega)⟩
   obtain ⟨ab, ao, had, hrdx⟩ := text_reads hra hx
   subst had
   refine rL (uM rfl ?_)
   refine uM rfl ?_
   refine uG (.pointer (some ⟨ab, ao + i, none⟩)) rfl (ex_index rfl rfl rfl (run_idx1 (k := i) Tryz.underlying26 s9es26 (by omega))) ?_
   refine uL _ rfl (run_load1 s9na9 (hrdx _ _ _ (Base.Le.refl _) no_res hv 0 _ rfl)) ?_
   refine sl_rowN (pv := #[(0, vS [77, 65, 84, 67, 72]), (1, vS [67, 79, 85, 78, 84])]) (L := [vS [77, 65, 84, 67, 72], vS [67, 79, 85, 78, 84]]) (e := 9) tV (wn rfl) rfl (by simp only [List.map_toArray, List.map_cons, List.map_nil]; rfl) hv (fun w => by kernel_rfl) (fun b24 w25 hv => ?_)
   obtain ⟨D1, hD1, hv, hrk, -, -⟩ := (hv.cellRow (n := 2) (c := 2) (size := 1) rfl (by decide) (by decide)).rowBy
   refine xC v8callable75 rfl ((viewIs D1 _ _ x _ 2 [[77, 65, 84, 67, 72], [67, 79, 85, 78, 84]] hrk (by simp) (hxl x (List.mem_of_getElem? hx)) hv).mono ?_) rfl
   rintro e w26 ⟨r, rfl, his, hv⟩
   refine ⟨_, rfl, ?_⟩
   replace hv := hv.weak hD1
   rcases is2 his with ⟨rfl, hsm⟩ | ⟨rfl, hsm⟩ | ⟨rfl, hsm⟩
   ·refine uA rfl (uW k23 ?_)
    refine sK fun _ k27 => sK fun _ k28 => rL (uM rfl ?_)
    refine uG (.bool true) rfl (ex_lss rfl rfl rfl (by decide)) (uM rfl ?_)
    iterate 3 refine uP rfl ?_
    refine uK rfl (uW k28 ?_)
    refine cT rfl (sK fun _ k29 => ?_)
    refine rW mixed [2, 3] [0,1,2,3,4] 45 rfl (by kernel_rfl) hv ?_
    simp only [qm, opAt]
    refine dL (.agg #[vS t0, vS t1]) rfl (fun hv => ex_load rfl rfl (lM 0 v8wd180 hv rfl rfl rfl rfl)) (dF (.agg #[.bool b0, .bool b1]) rfl (fun hv => ex_load rfl rfl (lM 1 v8wd181 hv rfl rfl rfl rfl)) fun f30 hf30 => ?_)
    refine dS rfl fun w31 hv => mS 0 rfl hv v8sz180 rfl (by exact ⟨rfl, rfl, trivial⟩) (fun w32 hv => ?_)
    simp only [zO, sp] at hv
    refine dV hv (fC (fun ww hv => hf30 ww ?_) fN) ?_
    ·exact ex_load rfl rfl (lM 1 v8wd181 hv rfl rfl rfl rfl)
    simp only [zP, po]
    refine dS rfl fun w33 hv => mS 1 rfl hv v8sz181 rfl (by exact ⟨rfl, rfl, trivial⟩) (fun w34 hv => ?_)
    simp only [zS, zO, sp] at hv
    refine dV hv (fK rfl fN) (dA (vI 42) rfl ?_)
    refine dE fun w35 hv => ?_
    simp only [zP, po]
    refine tK k29 (rR ?_)
    refine tR (bZ ?_)
    refine tR (tR ?_)
    refine bZ (tR ?_)
    refine bodyPost_ret (res_cct rfl rfl (lM 0 v8wd180 hv rfl rfl rfl rfl) rfl (lM 1 v8wd181 hv rfl rfl rfl rfl)) rfl (⟨t0, t1, b0, b1, 42, rfl, .inl ⟨rfl, .inr ⟨i, t0, t1, b0, b1, x, hot, hx, .inl hsm⟩⟩, (hv.kp [] 0 2)⟩)
   ·refine uA rfl (uW k23 ?_)
    refine sK fun _ k36 => sK fun _ k37 => rL (uM rfl ?_)
    refine uG (.bool false) rfl (ex_lss rfl rfl rfl (by decide)) (uM rfl ?_)
    refine uM rfl ?_
    refine uG (vP b4) rfl (ex_index rfl rfl rfl (run_idxA1 (k := 0) v8ua181 v8ea181 (by omega))) ?_
    refine uL _ rfl (run_load1 s2na4 (hv.load 1 0 rfl rfl)) (uK rfl ?_)
    refine uW k37 (wpIn_cond_split (t := b0) rfl (fun hc38 => ?_) (fun hc38 => ?_))
    ·refine sK fun _ k39 => rW mixed [2, 3] [0,1,2,3,4] 45 rfl (by kernel_rfl) hv ?_
     simp only [qm, opAt]
     refine dL (.agg #[vS t0, vS t1]) rfl (fun hv => ex_load rfl rfl (lM 0 v8wd180 hv rfl rfl rfl rfl)) (dF (.agg #[.bool b0, .bool b1]) rfl (fun hv => ex_load rfl rfl (lM 1 v8wd181 hv rfl rfl rfl rfl)) fun f40 hf40 => ?_)
     refine dS rfl fun w41 hv => mS 0 rfl hv v8sz180 rfl (by exact ⟨rfl, rfl, trivial⟩) (fun w42 hv => ?_)
     simp only [zO, sp] at hv
     refine dV hv (fC (fun ww hv => hf40 ww ?_) fN) ?_
     ·exact ex_load rfl rfl (lM 1 v8wd181 hv rfl rfl rfl rfl)
     simp only [zP, po]
     refine dS rfl fun w43 hv => mS 1 rfl hv v8sz181 rfl (by exact ⟨rfl, rfl, trivial⟩) (fun w44 hv => ?_)
     simp only [zS, zO, sp] at hv
     refine dV hv (fK rfl fN) (dA (vI 42) rfl ?_)
     refine dE fun w45 hv => ?_
     simp only [zP, po]
     refine tK k39 (rR ?_)
     refine tR (bZ ?_)
     refine tR (tR ?_)
     refine bZ (tR ?_)
     refine bodyPost_ret (res_cct rfl rfl (lM 0 v8wd180 hv rfl rfl rfl rfl) rfl (lM 1 v8wd181 hv rfl rfl rfl rfl)) rfl (⟨t0, t1, b0, b1, 42, rfl, .inl ⟨rfl, .inr ⟨i, t0, t1, b0, b1, x, hot, hx, .inr (.inl ⟨hsm, hc38⟩)⟩⟩, (hv.kp [] 0 2)⟩)
    refine kS (tK k36 ?_)
    obtain ⟨x2, hx2⟩ : ∃ x, args[(i + 1 : Nat)]? = some x := ⟨_, List.getElem?_eq_getElem (show (i + 1 : Nat) < args.length by omega)⟩
    obtain ⟨b9, o9, had9, hrdx2⟩ := text_reads hra hx2
    cases had9
    refine rL (uM rfl ?_)
    refine uM rfl (uM rfl ?_)
    refine uM rfl ?_
    refine uG (vI ((i + 1 : Nat) : Int)) rfl (ex_add rfl rfl rfl (by rw [i64_in (by omega)]; omega)) ?_
    refine uG (.pointer (some ⟨ab, ao + (i + 1 : Nat), none⟩)) rfl (ex_index rfl rfl rfl (run_idx1 (k := (i + 1 : Nat)) Tryz.underlying26 s9es26 (by omega))) ?_
    refine uL _ rfl (run_load1 s9na9 (hrdx2 _ _ _ (Base.Le.refl _) no_res hv 0 _ rfl)) ?_
    refine uG (vP b2) rfl (ex_index rfl rfl rfl (run_idxA1 (k := 0) v8ua180 v8ea180 (by omega))) ?_
    refine xV 0 (vS x2) rfl hv s12sz9 rfl rfl (fun w46 hv => ?_)
    simp only [zO, sp] at hv
    refine uG (vP b4) rfl (ex_index rfl rfl rfl (run_idxA1 (k := 0) v8ua181 v8ea181 (by omega))) ?_
    refine xV 1 (.bool true) rfl hv v8sz4 rfl rfl (fun w47 hv => ?_)
    simp only [zS, zO, sp] at hv
    refine uZ (bN ?_)
    refine tK k22 (rL ?_)
    refine uM rfl ?_
    refine uG (vI ((i + 2 : Nat) : Int)) rfl (ex_add rfl rfl rfl (by rw [i64_in (by omega)]; omega)) (uA rfl ?_)
    refine uZ (then_normal ?_)
    go_roundw
    case rel => exact ⟨i + 2, x2, t1, true, b1, rfl, by omega, .m (by rw [hc38] at hot; exact hot) hx hx2 hsm, ((hv.front 1 rfl).front 1 rfl)⟩
    case measure => show args.length - (((i + 2 : Nat) : Int)).toNat < args.length - ((i : Int)).toNat; omega
   refine uA rfl (uW k23 ?_)
   refine sK fun _ k48 => sK fun _ k49 => rL (uM rfl ?_)
   refine uG (.bool false) rfl (ex_lss rfl rfl rfl (by decide)) (uM rfl ?_)
   refine uM rfl ?_
   refine uG (.pointer (some ⟨b4, 1, none⟩)) rfl (ex_index rfl rfl rfl (run_idxA1 (k := 1) v8ua181 v8ea181 (by omega))) ?_
   refine uL _ rfl (run_load1 s2na4 (hv.load 1 1 rfl rfl)) (uK rfl ?_)
   refine uW k49 (wpIn_cond_split (t := b1) rfl (fun hc50 => ?_) (fun hc50 => ?_))
   ·refine sK fun _ k51 => rW mixed [2, 3] [0,1,2,3,4] 45 rfl (by kernel_rfl) hv ?_
    simp only [qm, opAt]
    refine dL (.agg #[vS t0, vS t1]) rfl (fun hv => ex_load rfl rfl (lM 0 v8wd180 hv rfl rfl rfl rfl)) (dF (.agg #[.bool b0, .bool b1]) rfl (fun hv => ex_load rfl rfl (lM 1 v8wd181 hv rfl rfl rfl rfl)) fun f52 hf52 => ?_)
    refine dS rfl fun w53 hv => mS 0 rfl hv v8sz180 rfl (by exact ⟨rfl, rfl, trivial⟩) (fun w54 hv => ?_)
    simp only [zO, sp] at hv
    refine dV hv (fC (fun ww hv => hf52 ww ?_) fN) ?_
    ·exact ex_load rfl rfl (lM 1 v8wd181 hv rfl rfl rfl rfl)
    simp only [zP, po]
    refine dS rfl fun w55 hv => mS 1 rfl hv v8sz181 rfl (by exact ⟨rfl, rfl, trivial⟩) (fun w56 hv => ?_)
    simp only [zS, zO, sp] at hv
    refine dV hv (fK rfl fN) (dA (vI 42) rfl ?_)
    refine dE fun w57 hv => ?_
    simp only [zP, po]
    refine tK k51 (rR ?_)
    refine tR (bZ ?_)
    refine tR (tR ?_)
    refine bZ (tR ?_)
    refine bodyPost_ret (res_cct rfl rfl (lM 0 v8wd180 hv rfl rfl rfl rfl) rfl (lM 1 v8wd181 hv rfl rfl rfl rfl)) rfl (⟨t0, t1, b0, b1, 42, rfl, .inl ⟨rfl, .inr ⟨i, t0, t1, b0, b1, x, hot, hx, .inr (.inr ⟨hsm.1, hsm.2, hc50⟩)⟩⟩, (hv.kp [] 0 2)⟩)
   refine kS (tK k48 ?_)
   obtain ⟨x2, hx2⟩ : ∃ x, args[(i + 1 : Nat)]? = some x := ⟨_, List.getElem?_eq_getElem (show (i + 1 : Nat) < args.length by omega)⟩
   obtain ⟨b9, o9, had9, hrdx2⟩ := text_reads hra hx2
   cases had9
   refine rL (uM rfl ?_)
   refine uM rfl (uM rfl ?_)
   refine uM rfl ?_
   refine uG (vI ((i + 1 : Nat) : Int)) rfl (ex_add rfl rfl rfl (by rw [i64_in (by omega)]; omega)) ?_
   refine uG (.pointer (some ⟨ab, ao + (i + 1 : Nat), none⟩)) rfl (ex_index rfl rfl rfl (run_idx1 (k := (i + 1 : Nat)) Tryz.underlying26 s9es26 (by omega))) ?_
   refine uL _ rfl (run_load1 s9na9 (hrdx2 _ _ _ (Base.Le.refl _) no_res hv 0 _ rfl)) ?_
   refine uG (.pointer (some ⟨b2, 1, none⟩)) rfl (ex_index rfl rfl rfl (run_idxA1 (k := 1) v8ua180 v8ea180 (by omega))) ?_
   refine xV 0 (vS x2) rfl hv s12sz9 rfl rfl (fun w58 hv => ?_)
   simp only [zO, sp] at hv
   refine uG (.pointer (some ⟨b4, 1, none⟩)) rfl (ex_index rfl rfl rfl (run_idxA1 (k := 1) v8ua181 v8ea181 (by omega))) ?_
   refine xV 1 (.bool true) rfl hv v8sz4 rfl rfl (fun w59 hv => ?_)
   simp only [zS, zO, sp] at hv
   refine uZ (bN ?_)
   refine tK k22 (rL ?_)
   refine uM rfl ?_
   refine uG (vI ((i + 2 : Nat) : Int)) rfl (ex_add rfl rfl rfl (by rw [i64_in (by omega)]; omega)) (uA rfl ?_)
   refine uZ (then_normal ?_)
   go_roundw
   case rel => exact ⟨i + 2, t0, x2, b0, true, rfl, by omega, .c (by rw [hc50] at hot; exact hot) hx hx2 hsm.1 hsm.2, ((hv.front 1 rfl).front 1 rfl)⟩
   case measure => show args.length - (((i + 2 : Nat) : Int)).toNat < args.length - ((i : Int)).toNat; omega
  refine uG (.bool false) rfl (ex_lss rfl rfl rfl (qF hb21)) (uW k20 ?_)
  refine cF rfl (xE ?_)
  refine tX (tX ?_)
  refine bH (tK k16 ?_)
  refine sK fun _ k60 => rW mixed [2, 3] [0,1,2,3,4] 45 rfl (by kernel_rfl) hv ?_
  simp only [qm, opAt]
  refine dL (.agg #[vS t0, vS t1]) rfl (fun hv => ex_load rfl rfl (lM 0 v8wd180 hv rfl rfl rfl rfl)) (dF (.agg #[.bool b0, .bool b1]) rfl (fun hv => ex_load rfl rfl (lM 1 v8wd181 hv rfl rfl rfl rfl)) fun f61 hf61 => ?_)
  refine dS rfl fun w62 hv => mS 0 rfl hv v8sz180 rfl (by exact ⟨rfl, rfl, trivial⟩) (fun w63 hv => ?_)
  simp only [zO, sp] at hv
  refine dV hv (fC (fun ww hv => hf61 ww ?_) fN) ?_
  ·exact ex_load rfl rfl (lM 1 v8wd181 hv rfl rfl rfl rfl)
  simp only [zP, po]
  refine dS rfl fun w64 hv => mS 1 rfl hv v8sz181 rfl (by exact ⟨rfl, rfl, trivial⟩) (fun w65 hv => ?_)
  simp only [zS, zO, sp] at hv
  refine dV hv (fK rfl fN) (dA (vI 0) rfl ?_)
  refine dE fun w66 hv => ?_
  simp only [zP, po]
  refine tK k60 (rR ?_)
  refine bodyPost_ret (res_cct rfl rfl (lM 0 v8wd180 hv rfl rfl rfl rfl) rfl (lM 1 v8wd181 hv rfl rfl rfl rfl)) rfl ?_
  obtain rfl : i = args.length := by omega
  exact ⟨t0, t1, b0, b1, 0, rfl, .inr ⟨rfl, by omega, hot⟩, (hv.kp [] 0 2)⟩
def cntOf (t1 : List UInt8) (b1 : Bool) : List UInt8 := if b1 then t1 else [49, 48]
def PageR (n : Int) (args : List (List UInt8)) (fr to nx : Int) (mt : List UInt8) (ec : Int) : Prop :=
 (ec = 43 ∧ args = []) ∨
 ∃ a0 rest, args = a0 :: rest ∧ ((ec = 42 ∧ OptBad rest) ∨ ∃ t0 t1 b0 b1, OptR rest t0 t1 b0 b1 0 ∧
  ((ec = 41 ∧ (NumP a0 0 false ∨ NumP (cntOf t1 b1) 0 false)) ∨ ∃ k c : Int, NumP a0 k true ∧ NumP (cntOf t1 b1) c true ∧
   ((ec = 44 ∧ (k < 0 ∨ c < 1)) ∨ (ec = 0 ∧ 0 ≤ k ∧ 1 ≤ c ∧ mt = (if b0 then t0 else [42]) ∧ fr = min k (max n 0) ∧ to = fr + min c (max n 0 - fr) ∧ nx = (if to < max n 0 then to else 0)))))
def PgZ (fr to nx : Int) (mt : List UInt8) (ec : Int) : Prop := ec ≠ 0 → fr = 0 ∧ to = 0 ∧ nx = 0 ∧ mt = []
theorem PageR.bounds {n fr to nx ec : Int} {args : List (List UInt8)} {mt : List UInt8} (h : PageR n args fr to nx mt ec) (h0 : ec = 0) : 0 ≤ fr ∧ fr ≤ to ∧ to ≤ max n 0 := by
 rcases h with ⟨h1, -⟩ | ⟨a0, rest, -, ⟨h1, -⟩ | ⟨t0, t1, b0, b1, -, ⟨h1, -⟩ | ⟨k, c, -, -, ⟨h1, -⟩ | ⟨-, h1, h2, -, h3, h4, -⟩⟩⟩⟩
 all_goals omega
theorem numP_rng {s : List UInt8} {n : Int} (h : NumP s n true) : -9223372036854775808 ≤ n ∧ n ≤ 9223372036854775807 := h.elim (fun h => ⟨h.2.1, h.2.2.1⟩) (fun h => absurd h.1 (by decide))
theorem ints_two {s t : List UInt8} {ns : List Int} {ec : Int} (h : IntsR [s, t] ns ec) : (ec = 0 ∧ ∃ n m, ns = [n, m] ∧ NumP s n true ∧ NumP t m true) ∨ (ec = 41 ∧ ns = [] ∧ (NumP s 0 false ∨ NumP t 0 false)) := by
 rcases h with ⟨h1, h2, h3⟩ | ⟨h1, h2, x, hx, h3⟩
 ·match ns, h2 with
  | [n, m], _ => exact .inl ⟨h1, n, m, rfl, h3 0 s n rfl rfl, h3 1 t m rfl rfl⟩
 rcases List.mem_cons.1 hx with rfl | hx
 ·exact .inr ⟨h1, h2, .inl h3⟩
 rw [List.mem_singleton.1 hx] at h3; exact .inr ⟨h1, h2, .inr h3⟩
theorem v8al151 : AL Tryz.prog 151 [vI 0, vI 0, vI 0, vS []] := fun w => by kernel_rfl
theorem v8sz151 : (Tryz.prog.info? 151).map (·.size) = some 4 := by kernel_rfl
theorem v8wd151 : Wide Tryz.prog 151 4 := wide_of (fun w => by kernel_rfl) (by kernel_rfl)
theorem v8callable99 : Callable Tryz.prog 99 := cb Tryz.func99 (by kernel_rfl)
theorem v8callable82 : Callable Tryz.prog 82 := cb Tryz.func82 (by kernel_rfl)
theorem v8fa151_0 : FA Tryz.prog 151 0 0 := fun w b o => by kernel_rfl
theorem v8fa151_1 : FA Tryz.prog 151 1 1 := fun w b o => by kernel_rfl
theorem v8fa151_2 : FA Tryz.prog 151 2 2 := fun w b o => by kernel_rfl
theorem viewPagesZ (B : Base) (H : List Res) (w : World) (n : Int) (hn0 : -9223372036854775808 ≤ n) (hn1 : n ≤ 9223372036854775807) (aa : Option Addr) (ac : Nat) (args : List (List UInt8)) (hra : RdV B [] aa (textCells args)) (hma : args.length ≤ 10000) (hxl : ∀ x ∈ args, x.length ≤ 9223372036854775807) (hoka : SliceOk aa args.length ac) (hN : NumB B) (hv : Inv B H w) :
  Calls Tryz.prog 86 #[vI n, .slice aa args.length ac] w fun e w' => ∃ fr to nx mt ec, e = .returned (.tuple #[.agg #[vI fr, vI to, vI nx, vS mt], vI ec]) ∧ PgZ fr to nx mt ec ∧ PageR n args fr to nx mt ec ∧ Inv B H w' := by
 refine cW Tryz.func86 rfl Tryz.ntmps86 ?_
 simp only [al]
 refine sK fun _ k1 => rL (sl_alloc tV (wn rfl) rfl hv v8al151 (fun b2 w3 hv => ?_))
 refine uA rfl (uW k1 ?_)
 refine sK fun _ k4 => sK fun _ k5 => rL (uM rfl ?_)
 refine uG (vI (args.length : Int)) rfl (ex_len0 Tryz.underlying26 rfl rfl) ?_
 by_cases hb6 : (args.length : Int) = 0
 ·refine uG (.bool true) rfl (ex_eql rfl rfl rfl (qT hb6)) (uW k5 ?_)
  refine cT rfl (sK fun _ k7 => ?_)
  refine rL (uG (.agg #[vI 0, vI 0, vI 0, vS []]) rfl (ex_buildN (vs := #[]) rfl (by simp only [List.map_toArray, List.map_nil]) (by kernel_rfl)) ?_)
  refine xS 0 rfl hv v8sz151 rfl (by exact ⟨rfl, rfl, rfl, rfl, trivial⟩) (fun w8 hv => ?_)
  simp only [zO, sp] at hv
  refine uA rfl (uW k7 ?_)
  refine rR (tR ?_)
  refine bodyPost_ret (res_cell2 rfl rfl (lM 0 v8wd151 hv rfl rfl rfl rfl)) rfl (⟨0, 0, 0, [], 43, rfl, fun _ => ⟨rfl, rfl, rfl, rfl⟩, .inl ⟨rfl, List.eq_nil_of_length_eq_zero (by omega)⟩, ((hv.kp [] 0 1)).weak (Base.Le.refl _)⟩)
 refine uG (.bool false) rfl (ex_eql rfl rfl rfl (qF hb6)) (uW k5 ?_)
 refine cF rfl (kS ?_)
 refine tK k4 (sK fun _ k9 => ?_)
 have hal : 1 ≤ args.length := by omega
 have hd1 : (args.drop 1).length = args.length - 1 := List.length_drop
 obtain ⟨a3, c3, ha3, ok3, hr3⟩ := sliced_fromV 1 hoka hra (textCells_len args) hal (by decide)
 rw [Nat.mul_one, pg_drop] at hr3
 obtain ⟨a0, rest, hargs⟩ : ∃ a l, args = a :: l := by cases args with | nil => simp at hal | cons a l => exact ⟨a, l, rfl⟩
 have hdr : args.drop 1 = rest := by rw [hargs]; rfl
 refine rL (uM rfl ?_)
 refine uG (.slice a3 ((args.drop 1).length) c3) rfl (ex_slice (lo' := some (vI ((1 : Nat) : Int))) rfl rfl (congrArg some rfl) rfl rfl ((run_fromAny Tryz.underlying26 s9es26 (by omega)).trans (by rw [ha3, hd1]))) ?_
 refine xC v8callable99 rfl ((viewOptions B _ _ a3 c3 (args.drop 1) hr3 (by omega) (fun x hx => hxl x (List.mem_of_mem_drop hx)) hv).mono ?_) rfl
 rintro e w10 ⟨t0, t1, b0, b1, eo, rfl, hopt, hv⟩
 refine ⟨_, rfl, uM rfl ?_⟩
 refine uE rfl (uE rfl ?_)
 refine uE rfl ?_
 refine sl_alloc tV (wn rfl) rfl hv v8al180 (fun b11 w12 hv => ?_)
 simp only [zP, po]
 refine sl_alloc tV (wn rfl) rfl hv v8al181 (fun b13 w14 hv => ?_)
 simp only [zP, po]
 refine xS 1 rfl hv v8sz180 rfl (by exact ⟨rfl, rfl, trivial⟩) (fun w15 hv => ?_)
 simp only [zS, zO, sp] at hv
 simp only [zP, po]
 refine xS 0 rfl hv v8sz181 rfl (by exact ⟨rfl, rfl, trivial⟩) (fun w16 hv => ?_)
 simp only [zO, sp] at hv
 refine uA rfl (uW k9 ?_)
 refine sK fun _ k17 => sK fun _ k18 => rL (uM rfl ?_)
 by_cases hb19 : eo ≠ 0
 ·refine uG (.bool true) rfl (ex_neq rfl rfl rfl (qT hb19)) (uW k18 ?_)
  refine cT rfl (sK fun _ k20 => ?_)
  refine rL (uG (.agg #[vI 0, vI 0, vI 0, vS []]) rfl (ex_buildN (vs := #[]) rfl (by simp only [List.map_toArray, List.map_nil]) (by kernel_rfl)) ?_)
  refine uM rfl ?_
  refine xS 2 rfl hv v8sz151 rfl (by exact ⟨rfl, rfl, rfl, rfl, trivial⟩) (fun w21 hv => ?_)
  simp only [zS, zO, sp] at hv
  refine uA rfl (uW k20 ?_)
  refine rR (tR ?_)
  refine bodyPost_ret (res_cell2 rfl rfl (lM 2 v8wd151 hv rfl rfl rfl rfl)) rfl ?_
  rw [hdr] at hopt
  refine ⟨0, 0, 0, [], eo, rfl, fun _ => ⟨rfl, rfl, rfl, rfl⟩, .inr ⟨a0, rest, hargs, .inl ?_⟩, ((hv.kp [] 0 3)).weak (Base.Le.refl _)⟩
  rcases hopt with ⟨h1, h2⟩ | ⟨h1, -⟩
  ·exact ⟨h1, h2⟩
  omega
 refine uG (.bool false) rfl (ex_neq rfl rfl rfl (qF hb19)) (uW k18 ?_)
 refine cF rfl (kS ?_)
 refine tK k17 (sK fun _ k22 => ?_)
 refine rL (uA rfl ?_)
 refine uA rfl (uW k22 ?_)
 refine sK fun K23 k23 => ?_
 have hJ23 : ∀ (mt : List UInt8) (j28 j29 j30 j31 : Value) (w24 : World), (mt = (if b0 then t0 else [42])) → Inv B (Res.cell b13 [.bool b0, .bool b1] 181 :: Res.cell b11 [vS t0, vS t1] 180 :: Res.cell b2 [vI 0, vI 0, vI 0, vS []] 151 :: H) w24 → K23 { tmps := List.toArray (vI n :: .slice aa args.length ac :: undef :: undef :: vP b2 :: vI 0 :: vP b11 :: vP b13 :: vI eo :: vS mt :: vS [49, 48] :: undef :: undef :: .slice aa args.length ac :: vI (args.length : Int) :: .bool false :: undef :: .tuple #[.agg #[vS t0, vS t1], .agg #[.bool b0, .bool b1], vI eo] :: .slice aa args.length ac :: .slice a3 ((args.drop 1).length) c3 :: .tuple #[.agg #[vS t0, vS t1], .agg #[.bool b0, .bool b1], vI eo] :: .agg #[vS t0, vS t1] :: .agg #[.bool b0, .bool b1] :: vI eo :: vI eo :: .bool false :: undef :: undef :: j28 :: j29 :: j30 :: j31 :: undef :: undef :: undef :: undef :: undef :: undef :: undef :: undef :: undef :: undef :: undef :: undef :: undef :: undef :: undef :: undef :: undef :: undef :: undef :: undef :: undef :: undef :: undef :: undef :: undef :: undef :: undef :: undef :: undef :: undef :: undef :: undef :: undef :: undef :: undef :: undef :: undef :: undef :: undef :: undef :: undef :: undef :: undef :: undef :: undef :: undef :: undef :: undef :: undef :: undef :: undef :: undef :: undef :: undef :: undef :: undef :: undef :: []), defers := [] } w24 := by
  intro mt j28 j29 j30 j31 w24 hmt hv
  refine k23 _ _ (sK fun K25 k25 => ?_)
  have hJ25 : ∀ (cnt : List UInt8) (j32 j33 j34 j35 : Value) (w26 : World), (cntOf t1 b1 = cnt) → Inv B (Res.cell b13 [.bool b0, .bool b1] 181 :: Res.cell b11 [vS t0, vS t1] 180 :: Res.cell b2 [vI 0, vI 0, vI 0, vS []] 151 :: H) w26 → K25 { tmps := List.toArray (vI n :: .slice aa args.length ac :: undef :: undef :: vP b2 :: vI 0 :: vP b11 :: vP b13 :: vI eo :: vS mt :: vS cnt :: undef :: undef :: .slice aa args.length ac :: vI (args.length : Int) :: .bool false :: undef :: .tuple #[.agg #[vS t0, vS t1], .agg #[.bool b0, .bool b1], vI eo] :: .slice aa args.length ac :: .slice a3 ((args.drop 1).length) c3 :: .tuple #[.agg #[vS t0, vS t1], .agg #[.bool b0, .bool b1], vI eo] :: .agg #[vS t0, vS t1] :: .agg #[.bool b0, .bool b1] :: vI eo :: vI eo :: .bool false :: undef :: undef :: j28 :: j29 :: j30 :: j31 :: j32 :: j33 :: j34 :: j35 :: undef :: undef :: undef :: undef :: undef :: undef :: undef :: undef :: undef :: undef :: undef :: undef :: undef :: undef :: undef :: undef :: undef :: undef :: undef :: undef :: undef :: undef :: undef :: undef :: undef :: undef :: undef :: undef :: undef :: undef :: undef :: undef :: undef :: undef :: undef :: undef :: undef :: undef :: undef :: undef :: undef :: undef :: undef :: undef :: undef :: undef :: undef :: undef :: undef :: undef :: undef :: undef :: undef :: []), defers := [] } w26 := by
   intro cnt j32 j33 j34 j35 w26 hcn hv
   refine k25 _ _ (sK fun _ k27 => ?_)
   obtain ⟨ab, ao, had, hrdx0⟩ := text_reads hra (show args[0]? = some a0 by rw [hargs]; rfl)
   subst had
   refine rL (uM rfl ?_)
   refine uG (.pointer (some ⟨ab, ao + 0, none⟩)) rfl (ex_index rfl rfl rfl (run_idx1 (k := 0) Tryz.underlying26 s9es26 (by omega))) ?_
   refine uL _ rfl (run_load1 s9na9 (hrdx0 _ _ _ (Base.Le.refl _) no_res hv 0 _ rfl)) (uM rfl ?_)
   refine sl_rowN (pv := #[(0, vS a0), (1, vS cnt)]) (L := [vS a0, vS cnt]) (e := 9) tV (wn rfl) rfl (by simp only [List.map_toArray, List.map_cons, List.map_nil]; rfl) hv (fun w => by kernel_rfl) (fun b28 w29 hv => ?_)
   simp only [zP, po]
   obtain ⟨D1, hD1, hv, hrk, -, -⟩ := (hv.cellRow (n := 2) (c := 2) (size := 1) rfl (by decide) (by decide)).rowBy
   refine xC v8callable82 rfl ((viewInts D1 _ _ _ 2 [a0, cnt] hrk (by simp) (hN.more hD1) hv).mono ?_) rfl
   rintro e w30 ⟨E, ia, ic, ns, ei, hE, rfl, hri, hir, hv⟩
   refine ⟨_, rfl, ?_⟩
   have heo : eo = 0 := by omega
   subst heo
   rcases ints_two hir with ⟨rfl, n0, n1, rfl, hn0, hn1⟩ | ⟨rfl, rfl, hnb⟩
   ·have hr0 := numP_rng hn0
    have hr1 := numP_rng hn1
    obtain ⟨ib, io, had, hrd0⟩ := int_reads hri (show [n0, n1][0]? = some n0 from rfl)
    obtain ⟨ib9, io9, had9, hrd1⟩ := int_reads hri (show [n0, n1][1]? = some n1 from rfl)
    subst had
    cases had9
    refine uG (.tuple #[.slice (some ⟨ib, io, none⟩) 2 ic, vI 0]) rfl (ex_move rfl rfl) ?_
    refine uG (.slice (some ⟨ib, io, none⟩) 2 ic) rfl (ex_extract rfl rfl rfl) (uE rfl ?_)
    refine uA rfl (uA rfl ?_)
    refine uW k27 (sK fun _ k31 => ?_)
    refine sK fun _ k32 => rL (uM rfl ?_)
    refine uG (.bool false) rfl (ex_neq rfl rfl rfl (by decide)) (uW k32 ?_)
    refine cF rfl (kS ?_)
    refine tK k31 (sK fun _ k33 => ?_)
    refine sK fun _ k34 => rL (uG (.slice (some ⟨ib, io, none⟩) 2 ic) rfl (ex_move rfl rfl) ?_)
    refine uG (.pointer (some ⟨ib, io + 0, none⟩)) rfl (ex_index rfl rfl rfl (run_idx1 (k := 0) Tryz.underlying145 s11es145 (by omega))) ?_
    refine uL _ rfl (run_load1 s2na3 (hrd0 _ _ _ (Base.Le.refl _) no_res hv 0 _ rfl)) ?_
    by_cases hb35 : n0 < 0
    ·refine uG (.bool true) rfl (ex_lss rfl rfl rfl (qT hb35)) (uM rfl ?_)
     iterate 4 refine uP rfl ?_
     refine uK rfl (uW k34 ?_)
     refine cT rfl (sK fun _ k36 => ?_)
     refine rL (uG (.agg #[vI 0, vI 0, vI 0, vS []]) rfl (ex_buildN (vs := #[]) rfl (by simp only [List.map_toArray, List.map_nil]) (by kernel_rfl)) ?_)
     refine xS 2 rfl hv v8sz151 rfl (by exact ⟨rfl, rfl, rfl, rfl, trivial⟩) (fun w37 hv => ?_)
     simp only [zS, zO, sp] at hv
     refine uA rfl (uW k36 ?_)
     refine rR (tR ?_)
     refine bodyPost_ret (res_cell2 rfl rfl (lM 2 v8wd151 hv rfl rfl rfl rfl)) rfl ?_
     rw [hdr] at hopt
     have hn1c : NumP (cntOf t1 b1) n1 true := by rw [hcn]; exact hn1
     exact ⟨0, 0, 0, [], 44, rfl, fun _ => ⟨rfl, rfl, rfl, rfl⟩, .inr ⟨a0, rest, hargs, .inr ⟨t0, t1, b0, b1, hopt, .inr ⟨n0, n1, hn0, hn1c, .inl ⟨rfl, by omega⟩⟩⟩⟩, ((hv.kp [] 0 3)).weak (hD1.trans hE)⟩
    refine uG (.bool false) rfl (ex_lss rfl rfl rfl (qF hb35)) (uM rfl ?_)
    refine uG (.slice (some ⟨ib, io, none⟩) 2 ic) rfl (ex_move rfl rfl) ?_
    refine uG (.pointer (some ⟨ib, io + 1, none⟩)) rfl (ex_index rfl rfl rfl (run_idx1 (k := 1) Tryz.underlying145 s11es145 (by omega))) ?_
    refine uL _ rfl (run_load1 s2na3 (hrd1 _ _ _ (Base.Le.refl _) no_res hv 0 _ rfl)) ?_
    by_cases hb38 : n1 < 1
    ·refine uG (.bool true) rfl (ex_lss rfl rfl rfl (qT hb38)) (uK rfl ?_)
     refine uW k34 (cT rfl ?_)
     refine sK fun _ k39 => rL (uG (.agg #[vI 0, vI 0, vI 0, vS []]) rfl (ex_buildN (vs := #[]) rfl (by simp only [List.map_toArray, List.map_nil]) (by kernel_rfl)) ?_)
     refine xS 2 rfl hv v8sz151 rfl (by exact ⟨rfl, rfl, rfl, rfl, trivial⟩) (fun w40 hv => ?_)
     simp only [zS, zO, sp] at hv
     refine uA rfl (uW k39 ?_)
     refine rR (tR ?_)
     refine bodyPost_ret (res_cell2 rfl rfl (lM 2 v8wd151 hv rfl rfl rfl rfl)) rfl ?_
     rw [hdr] at hopt
     have hn1c : NumP (cntOf t1 b1) n1 true := by rw [hcn]; exact hn1
     exact ⟨0, 0, 0, [], 44, rfl, fun _ => ⟨rfl, rfl, rfl, rfl⟩, .inr ⟨a0, rest, hargs, .inr ⟨t0, t1, b0, b1, hopt, .inr ⟨n0, n1, hn0, hn1c, .inl ⟨rfl, by omega⟩⟩⟩⟩, ((hv.kp [] 0 3)).weak (hD1.trans hE)⟩
    refine uG (.bool false) rfl (ex_lss rfl rfl rfl (qF hb38)) (uK rfl ?_)
    refine uW k34 (cF rfl ?_)
    refine kS (tK k33 ?_)
    refine sK fun _ k41 => rL (uM rfl ?_)
    refine uG (vI (max n 0)) rfl (ex_max2 (m := n) (n := 0) rfl rfl rfl (by split <;> omega)) (uA rfl ?_)
    refine uW k41 (sK fun _ k42 => ?_)
    have hk0 : 0 ≤ n0 := by omega
    have hk1 : 1 ≤ n1 := by omega
    refine rL (uG (.slice (some ⟨ib, io, none⟩) 2 ic) rfl (ex_move rfl rfl) ?_)
    refine uG (.pointer (some ⟨ib, io + 0, none⟩)) rfl (ex_index rfl rfl rfl (run_idx1 (k := 0) Tryz.underlying145 s11es145 (by omega))) ?_
    refine uL _ rfl (run_load1 s2na3 (hrd0 _ _ _ (Base.Le.refl _) no_res hv 0 _ rfl)) (uM rfl ?_)
    refine uG (vI (min n0 (max n 0))) rfl (ex_min2 (m := n0) (n := (max n 0)) rfl rfl rfl (by split <;> omega)) (uM rfl ?_)
    refine uG (.agg #[vI (min n0 (max n 0)), vI 0, vI 0, vS mt]) rfl (ex_buildN (vs := #[(0, vI (min n0 (max n 0))), (3, vS mt)]) rfl (by simp only [List.map_toArray, List.map_cons, List.map_nil]; rfl) (by kernel_rfl)) ?_
    refine sl_alloc tV (wn rfl) rfl hv v8al151 (fun b43 w44 hv => ?_)
    simp only [zP, po]
    refine xS 0 rfl hv v8sz151 rfl (by exact ⟨rfl, rfl, rfl, rfl, trivial⟩) (fun w45 hv => ?_)
    simp only [zO, sp] at hv
    refine uW k42 (sK fun _ k46 => ?_)
    refine rW mixed [12] [0,1,2,3,4,5,6,7,8,9,10,11,12] 89 rfl (by kernel_rfl) hv ?_
    simp only [qm, opAt]
    refine dG (vP b43) rfl (ex_field rfl rfl (v8fa151_0 _ _ _)) (dL _ rfl (fun hv => ex_load rfl rfl (run_load1 s2na3 (hv.load 0 0 rfl rfl))) ?_)
    refine dM (.slice (some ⟨ib, io, none⟩) 2 ic) rfl ?_
    simp only [zP, po]
    refine dG (.pointer (some ⟨ib, io + 1, none⟩)) rfl (ex_index rfl rfl rfl (run_idx1 (k := 1) Tryz.underlying145 s11es145 (by omega))) (dL _ rfl (fun hv => ex_load rfl rfl (run_load1 s2na3 (hrd1 _ _ _ (Base.Le.refl _) no_res hv 0 _ rfl))) ?_)
    refine dM (vI (max n 0)) rfl ?_
    simp only [zP, po]
    refine dG (vP b43) rfl (ex_field rfl rfl (v8fa151_0 _ _ _)) (dL _ rfl (fun hv => ex_load rfl rfl (run_load1 s2na3 (hv.load 0 0 rfl rfl))) ?_)
    refine dG (vI (max n 0 - (min n0 (max n 0)))) rfl (ex_sub rfl rfl rfl (by rw [i64_in (by omega)])) ?_
    simp only [zP, po]
    refine dG (vI (min n1 (max n 0 - (min n0 (max n 0))))) rfl (ex_min2 (m := n1) (n := (max n 0 - (min n0 (max n 0)))) rfl rfl rfl (by split <;> omega)) (dG (vI ((min n0 (max n 0)) + min n1 (max n 0 - (min n0 (max n 0))))) rfl (ex_add rfl rfl rfl (by rw [i64_in (by omega)])) ?_)
    refine dG (.pointer (some ⟨b43, 1, none⟩)) rfl (ex_field rfl rfl (v8fa151_1 _ _ _)) ?_
    simp only [zP, po]
    refine dS rfl fun w47 hv => mV 0 (vI ((min n0 (max n 0)) + min n1 (max n 0 - (min n0 (max n 0))))) rfl hv x3sz3 rfl rfl (fun w48 hv => ?_)
    simp only [zO, sp] at hv
    refine dW hv (dE fun w49 hv => ?_)
    simp only [zP, po]
    refine tK k46 (sK fun _ k50 => ?_)
    refine sK fun _ k51 => rL (uF (.pointer (some ⟨b43, 1, none⟩)) rfl (v8fa151_1 _ _ _) ?_)
    refine uL _ rfl (run_load1 s2na3 (hv.load 0 1 rfl rfl)) (uM rfl ?_)
    by_cases hb52 : ((min n0 (max n 0)) + min n1 (max n 0 - (min n0 (max n 0)))) < (max n 0)
    ·refine uG (.bool true) rfl (ex_lss rfl rfl rfl (qT hb52)) (uW k51 ?_)
     refine cT rfl (rL ?_)
     refine uF (.pointer (some ⟨b43, 1, none⟩)) rfl (v8fa151_1 _ _ _) ?_
     refine uL _ rfl (run_load1 s2na3 (hv.load 0 1 rfl rfl)) ?_
     refine uF (.pointer (some ⟨b43, 2, none⟩)) rfl (v8fa151_2 _ _ _) ?_
     refine xV 0 (vI ((min n0 (max n 0)) + min n1 (max n 0 - (min n0 (max n 0))))) rfl hv x3sz3 rfl rfl (fun w53 hv => ?_)
     simp only [zO, sp] at hv
     refine uW k50 (sK fun _ k54 => ?_)
     refine rL (uL (.agg #[vI (min n0 (max n 0)), vI ((min n0 (max n 0)) + min n1 (max n 0 - (min n0 (max n 0)))), vI ((min n0 (max n 0)) + min n1 (max n 0 - (min n0 (max n 0)))), vS mt]) rfl (lM 0 v8wd151 hv rfl rfl rfl rfl) ?_)
     refine xS 3 rfl hv v8sz151 rfl (by exact ⟨rfl, rfl, rfl, rfl, trivial⟩) (fun w55 hv => ?_)
     simp only [zS, zO, sp] at hv
     refine uA rfl (uW k54 ?_)
     refine rR (bodyPost_ret (res_cell2 rfl rfl (lM 3 v8wd151 hv rfl rfl rfl rfl)) rfl ?_)
     rw [hdr] at hopt
     have hn1c : NumP (cntOf t1 b1) n1 true := by rw [hcn]; exact hn1
     exact ⟨(min n0 (max n 0)), ((min n0 (max n 0)) + min n1 (max n 0 - (min n0 (max n 0)))), ((min n0 (max n 0)) + min n1 (max n 0 - (min n0 (max n 0)))), mt, 0, rfl, fun h9 => absurd rfl h9, .inr ⟨a0, rest, hargs, .inr ⟨t0, t1, b0, b1, hopt, .inr ⟨n0, n1, hn0, hn1c, .inr ⟨rfl, hk0, hk1, hmt, rfl, rfl, by rw [if_pos (by omega)]⟩⟩⟩⟩, ((hv.kp [] 0 4)).weak (hD1.trans hE)⟩
    refine uG (.bool false) rfl (ex_lss rfl rfl rfl (qF hb52)) (uW k51 ?_)
    refine cF rfl (kS ?_)
    refine tK k50 (sK fun _ k56 => ?_)
    refine rL (uL (.agg #[vI (min n0 (max n 0)), vI ((min n0 (max n 0)) + min n1 (max n 0 - (min n0 (max n 0)))), vI 0, vS mt]) rfl (lM 0 v8wd151 hv rfl rfl rfl rfl) ?_)
    refine xS 3 rfl hv v8sz151 rfl (by exact ⟨rfl, rfl, rfl, rfl, trivial⟩) (fun w57 hv => ?_)
    simp only [zS, zO, sp] at hv
    refine uA rfl (uW k56 ?_)
    refine rR (bodyPost_ret (res_cell2 rfl rfl (lM 3 v8wd151 hv rfl rfl rfl rfl)) rfl ?_)
    rw [hdr] at hopt
    have hn1c : NumP (cntOf t1 b1) n1 true := by rw [hcn]; exact hn1
    exact ⟨(min n0 (max n 0)), ((min n0 (max n 0)) + min n1 (max n 0 - (min n0 (max n 0)))), 0, mt, 0, rfl, fun h9 => absurd rfl h9, .inr ⟨a0, rest, hargs, .inr ⟨t0, t1, b0, b1, hopt, .inr ⟨n0, n1, hn0, hn1c, .inr ⟨rfl, hk0, hk1, hmt, rfl, rfl, by rw [if_neg (by omega)]⟩⟩⟩⟩, ((hv.kp [] 0 4)).weak (hD1.trans hE)⟩
   refine uM rfl (uE rfl ?_)
   refine uE rfl (uA rfl ?_)
   refine uA rfl (uW k27 ?_)
   refine sK fun _ k58 => sK fun _ k59 => rL (uM rfl ?_)
   refine uG (.bool true) rfl (ex_neq rfl rfl rfl (by decide)) (uW k59 ?_)
   refine cT rfl (sK fun _ k60 => ?_)
   refine rL (uG (.agg #[vI 0, vI 0, vI 0, vS []]) rfl (ex_buildN (vs := #[]) rfl (by simp only [List.map_toArray, List.map_nil]) (by kernel_rfl)) ?_)
   refine uM rfl ?_
   refine xS 2 rfl hv v8sz151 rfl (by exact ⟨rfl, rfl, rfl, rfl, trivial⟩) (fun w61 hv => ?_)
   simp only [zS, zO, sp] at hv
   refine uA rfl (uW k60 ?_)
   refine rR (tR ?_)
   refine bodyPost_ret (res_cell2 rfl rfl (lM 2 v8wd151 hv rfl rfl rfl rfl)) rfl ?_
   rw [hdr] at hopt
   exact ⟨0, 0, 0, [], 41, rfl, fun _ => ⟨rfl, rfl, rfl, rfl⟩, .inr ⟨a0, rest, hargs, .inr ⟨t0, t1, b0, b1, hopt, .inl ⟨rfl, by rw [hcn]; exact hnb⟩⟩⟩, ((hv.kp [] 0 3)).weak (hD1.trans hE)⟩
  refine sK fun _ k62 => rL (uG (.pointer (some ⟨b13, 1, none⟩)) rfl (ex_index rfl rfl rfl (run_idxA1 (k := 1) v8ua181 v8ea181 (by omega))) ?_)
  refine uL _ rfl (run_load1 s2na4 (hv.load 0 1 rfl rfl)) (uW k62 ?_)
  refine wpIn_cond_split (t := b1) rfl (fun hc63 => ?_) (fun hc63 => ?_)
  ·refine rL (uG (.pointer (some ⟨b11, 1, none⟩)) rfl (ex_index rfl rfl rfl (run_idxA1 (k := 1) v8ua180 v8ea180 (by omega))) ?_)
   refine uL _ rfl (run_load1 s9na9 (hv.load 1 1 rfl rfl)) (uA rfl ?_)
   refine uZ (then_normal (hJ25 t1 _ _ _ _ _ (by rw [hc63]; rfl) hv))
  refine kS (then_normal (hJ25 ([49, 48] : List UInt8) _ _ _ _ _ (by rw [hc63]; rfl) hv))
 refine sK fun _ k64 => rL (uG (vP b13) rfl (ex_index rfl rfl rfl (run_idxA1 (k := 0) v8ua181 v8ea181 (by omega))) ?_)
 refine uL _ rfl (run_load1 s2na4 (hv.load 0 0 rfl rfl)) (uW k64 ?_)
 refine wpIn_cond_split (t := b0) rfl (fun hc65 => ?_) (fun hc65 => ?_)
 ·refine rL (uG (vP b11) rfl (ex_index rfl rfl rfl (run_idxA1 (k := 0) v8ua180 v8ea180 (by omega))) ?_)
  refine uL _ rfl (run_load1 s9na9 (hv.load 1 0 rfl rfl)) (uA rfl ?_)
  refine uZ (then_normal (hJ23 t0 _ _ _ _ _ (by rw [hc65]; rfl) hv))
 refine kS (then_normal (hJ23 ([42] : List UInt8) _ _ _ _ _ (by rw [hc65]; rfl) hv))
theorem viewPages (B : Base) (H : List Res) (w : World) (n : Int) (hn0 : -9223372036854775808 ≤ n) (hn1 : n ≤ 9223372036854775807) (aa : Option Addr) (ac : Nat) (args : List (List UInt8)) (hra : RdV B [] aa (textCells args)) (hma : args.length ≤ 10000) (hxl : ∀ x ∈ args, x.length ≤ 9223372036854775807) (hoka : SliceOk aa args.length ac) (hN : NumB B) (hv : Inv B H w) : Calls Tryz.prog 86 #[vI n, .slice aa args.length ac] w fun e w' => ∃ fr to nx mt ec, e = .returned (.tuple #[.agg #[vI fr, vI to, vI nx, vS mt], vI ec]) ∧ PageR n args fr to nx mt ec ∧ Inv B H w' := by
 refine (viewPagesZ B H w n hn0 hn1 aa ac args hra hma hxl hoka hN hv).mono ?_
 rintro e w' ⟨fr, to, nx, mt, ec, h1, -, h2, h3⟩
 exact ⟨fr, to, nx, mt, ec, h1, h2, h3⟩
theorem v8fa151_3 : FA Tryz.prog 151 3 3 := fun w b o => by kernel_rfl
theorem v8callable85 : Callable Tryz.prog 85 := cb Tryz.func85 (by kernel_rfl)
theorem pageFits (B : Base) (H : List Res) (w : World) (fr to nx : Int) (mt s : List UInt8) (hm : mt.length ≤ 1000000) (hs : s.length ≤ 1000000) (hv : Inv B H w) :
  Calls Tryz.prog 87 #[.agg #[vI fr, vI to, vI nx, vS mt], vS s] w fun e w' => ∃ b, e = .returned (.bool b) ∧ (b = true ↔ MatchP (divS mt true 0) s) ∧ Inv B H w' := by
 refine cW Tryz.func87 rfl Tryz.ntmps87 ?_
 simp only [al]
 refine sK fun _ k1 => rL (sl_box (L := [vI fr, vI to, vI nx, vS mt]) tV (wn rfl) rfl rfl hv (fun w => by kernel_rfl) (fun b2 w3 hv => ?_))
 refine uA rfl (uW k1 ?_)
 refine sK fun _ k4 => rL (uF (.pointer (some ⟨b2, 3, none⟩)) rfl (v8fa151_3 _ _ _) ?_)
 refine uL _ rfl (run_load1 s9na9 (hv.load 0 3 rfl rfl)) (uM rfl ?_)
 refine xC v8callable85 rfl ((globMatch B _ _ mt hm s hs hv).mono ?_) rfl
 rintro e w5 ⟨b, rfl, hb, hv⟩
 refine ⟨_, rfl, uA rfl ?_⟩
 refine uW k4 (rR ?_)
 refine bR rfl rfl (⟨b, rfl, hb, (hv.kp [] 0 1)⟩)
theorem valAt_open {C : Base} {v : Val} {p t z : Value} (h : ValAt C v p t z) : ∃ pa pc sa sc za zc, p = .slice pa v.pairs.length pc ∧ t = .slice sa v.texts.length sc ∧ z = .slice za v.zset.length zc ∧ SliceOk pa v.pairs.length pc ∧ RdV C [] pa (pairCells v.pairs) ∧ SliceOk sa v.texts.length sc ∧ RdV C [] sa (textCells v.texts) ∧ SliceOk za v.zset.length zc ∧ RdV C [] za (memCells v.zset) := by
 obtain ⟨⟨a1, c1, h1, h2, h3⟩, ⟨a2, c2, h4, h5, h6⟩, ⟨a3, c3, h7, h8, h9⟩, -⟩ := h
 exact ⟨a1, c1, a2, c2, a3, c3, h1, h4, h7, h2, h3, h5, h6, h8, h9⟩
theorem tx_take (l : List (List UInt8)) (i : Nat) : (textCells l).take i = textCells (l.take i) := by simp [textCells]
theorem tx_drop (l : List (List UInt8)) (i : Nat) : (textCells l).drop i = textCells (l.drop i) := by simp [textCells]
theorem sliced_midV {B : Base} {ad : Option Addr} {n c l h : Nat} {xs : List Value} (size : Nat) (hok : SliceOk ad n c) (hr : RdV B [] ad xs) (hl : xs.length = n * size) (hlh : l ≤ h) (hh : h ≤ n) (hz : 0 < size) : ∃ a2 c2, sliced ad l h c size = .slice a2 (h - l) c2 ∧ SliceOk a2 (h - l) c2 ∧ RdV B [] a2 ((xs.drop (l * size)).take ((h - l) * size)) := by
 obtain ⟨a2, c2, h1, h2, h3⟩ := sliced_fromV size hok hr hl (show l ≤ n by omega) hz
 have e : sliced ad l h c size = .slice a2 (h - l) c2 := by
  unfold sliced at h1 ⊢
  split at h1 <;> rename_i hc <;> simp only [hc, if_true, if_false] at h1 ⊢ <;> (injection h1 with e1 e2 e3; subst e1 e3; rfl)
 refine ⟨a2, c2, e, ⟨by have := h2.le; omega, h2.max, h2.nil⟩, fun i hi => ?_⟩
 rw [List.length_take] at hi
 obtain ⟨b, off, h5, h6⟩ := h3 i (by omega)
 refine ⟨b, off, h5, ?_⟩
 rw [List.getElem_take]
 exact h6
section
variable {P : Program} {t : TypeId} {w : World}
theorem run_lhAny {ad : Option Addr} {n c l h size : Nat} (ht : P.underlying t = some (.slice (P.elem t))) (hs : ∀ w, (sizeOf (P.elem t)).run P w = .ok size w) (h1 : l ≤ h) (h2 : h ≤ c) :
  (Instr.sliceAt t (.slice ad n c) (some (vI l)) (some (vI h)) none).run P w = .ok (sliced ad l h c size) w := by
 rw [run_sliceAt_slice w t _ _ _ _ ht, run_slice_lh w t _ n c ht .i64 .i64 l h (by omega) (by omega) (by omega), hs]
 simp only [Result.andThen, Int.toNat_natCast]
theorem run_lhAnyI {ad : Option Addr} {n c l h size : Nat} {x y : Int} (hx : x = (l : Int)) (hy : y = (h : Int)) (ht : P.underlying t = some (.slice (P.elem t))) (hs : ∀ w, (sizeOf (P.elem t)).run P w = .ok size w) (h1 : l ≤ h) (h2 : h ≤ c) :
  (Instr.sliceAt t (.slice ad n c) (some (vI x)) (some (vI y)) none).run P w = .ok (sliced ad l h c size) w := by
 subst hx hy; exact run_lhAny ht hs h1 h2
end
def tleaf (s : List UInt8) : Leaf := ⟨3, s, 0⟩
theorem strs_leaf (l : List (List UInt8)) : strsCells l = lvC (l.map tleaf) none := by
 show l.flatMap _ = (l.map tleaf).flatMap leafN
 rw [List.flatMap_map]; rfl
theorem listIn_two {B : Base} {s : List UInt8} {l : List (List UInt8)} {a : Option Addr} {c : Nat} (hok : SliceOk a l.length c) (hr : RdV B [] a (strsCells l)) (hm : l.length ≤ 1000000) :
  ListIn B 2 (rpCells 3 s 0 (vN) ++ rpCells 5 [] 0 (.slice a l.length c)) (rList [rStr s, rStrs l]) := by
 refine .inr ⟨[⟨3, s, 0⟩], l.map tleaf, ⟨5, [], 0⟩, a, c, rfl, ?_, ?_, ?_, ?_, ?_⟩
 ·rw [List.length_map]; rfl
 ·rw [List.length_map]; exact hok
 ·rw [← strs_leaf]; exact hr
 ·rw [List.length_map]; exact hm
 rw [List.map_map]; rfl
theorem NumP.uniq {s : List UInt8} {n m : Int} {b c : Bool} (h : NumP s n b) (h2 : NumP s m c) : n = m ∧ b = c := by
 rcases h with ⟨rfl, h0, h1, rfl⟩ | ⟨rfl, rfl, h⟩
 ·rcases h2 with ⟨rfl, k0, k1, e⟩ | ⟨rfl, rfl, h2⟩
  ·have := parse_itoa n h0 h1
   rw [e, parse_itoa m k0 k1] at this
   cases this; exact ⟨rfl, rfl⟩
  exact absurd rfl (h2 n h0 h1)
 rcases h2 with ⟨rfl, k0, k1, e⟩ | ⟨rfl, rfl, h2⟩
 ·exact absurd e (h m k0 k1)
 exact ⟨rfl, rfl⟩
theorem OptTo.det {args : List (List UInt8)} {i : Nat} {t0 t1 : List UInt8} {b0 b1 : Bool} (h : OptTo args i t0 t1 b0 b1) : ∀ {u0 u1 : List UInt8} {c0 c1 : Bool}, OptTo args i u0 u1 c0 c1 → t0 = u0 ∧ t1 = u1 ∧ b0 = c0 ∧ b1 = c1 := by
 induction h with
 | zero => intro u0 u1 c0 c1 h2; cases h2; exact ⟨rfl, rfl, rfl, rfl⟩
 | m h1 ha hv hs ih =>
  intro u0 u1 c0 c1 h2
  cases h2 with
  | m k1 ka kv ks =>
   obtain ⟨e1, e2, e3, e4⟩ := ih k1
   rw [hv] at kv; cases kv
   exact ⟨rfl, e2, rfl, e4⟩
  | c k1 ka kv ks ks2 => rw [ha] at ka; cases ka; exact absurd hs ks
 | c h1 ha hv hs hs2 ih =>
  intro u0 u1 c0 c1 h2
  cases h2 with
  | m k1 ka kv ks => rw [ha] at ka; cases ka; exact absurd ks hs
  | c k1 ka kv ks ks2 =>
   obtain ⟨e1, e2, e3, e4⟩ := ih k1
   rw [hv] at kv; cases kv
   exact ⟨e1, rfl, e3, rfl⟩
theorem OptTo.good {args : List (List UInt8)} {n : Nat} {t0 t1 : List UInt8} {b0 b1 : Bool} (h : OptTo args n t0 t1 b0 b1) : ∀ {i : Nat} {u0 u1 : List UInt8} {c0 c1 : Bool} {a : List UInt8}, OptTo args i u0 u1 c0 c1 → i < n → args[i]? = some a → (SameC wMATCH a ∧ c0 = false) ∨ (¬ SameC wMATCH a ∧ SameC wCOUNT a ∧ c1 = false) := by
 induction h with
 | zero => intro i u0 u1 c0 c1 a h2 hi; omega
 | @m i0 t0 t1 a0 v b1 h1 ha hv hs ih =>
  intro i u0 u1 c0 c1 a h2 hi hx
  have e1 := optTo_even h1
  have e2 := optTo_even h2
  by_cases hlt : i < i0
  ·exact ih h2 hlt hx
  obtain rfl : i = i0 := by omega
  obtain ⟨-, -, rfl, -⟩ := h1.det h2
  rw [ha] at hx; cases hx; exact .inl ⟨hs, rfl⟩
 | @c i0 t0 t1 a0 v b0 h1 ha hv hs hs2 ih =>
  intro i u0 u1 c0 c1 a h2 hi hx
  have e1 := optTo_even h1
  have e2 := optTo_even h2
  by_cases hlt : i < i0
  ·exact ih h2 hlt hx
  obtain rfl : i = i0 := by omega
  obtain ⟨-, -, -, rfl⟩ := h1.det h2
  rw [ha] at hx; cases hx; exact .inr ⟨hs, hs2, rfl⟩
theorem opt_no {args : List (List UInt8)} {t0 t1 : List UInt8} {b0 b1 : Bool} (hb : OptBad args) (he : args.length % 2 = 0) (h : OptTo args args.length t0 t1 b0 b1) : False := by
 rcases hb with hb | ⟨i, u0, u1, c0, c1, a, h2, hx, hw⟩
 ·exact hb he
 have hi := (List.getElem?_eq_some_iff.1 hx).1
 rcases h.good h2 hi hx with ⟨k1, k2⟩ | ⟨k1, k2, k3⟩ <;> rcases hw with ⟨w1, w2⟩ | ⟨w1, w2⟩ | ⟨w1, w2, w3⟩
 ·exact w1 k1
 ·rw [k2] at w2; cases w2
 ·exact w1 k1
 ·exact w2 k2
 ·exact k1 w1
 rw [k3] at w3; cases w3
theorem optR_full {args : List (List UInt8)} {t0 t1 : List UInt8} {b0 b1 : Bool} (h : OptR args t0 t1 b0 b1 0) : args.length % 2 = 0 ∧ OptTo args args.length t0 t1 b0 b1 := by
 rcases h with ⟨h, -⟩ | ⟨-, h⟩
 ·exact absurd h (by decide)
 exact h
theorem itoa_small (n : Nat) (h : n ≤ 9) : Lib.itoa (n : Int) = [UInt8.ofNat (48 + n)] := by
 unfold Lib.itoa
 rw [if_neg (by omega), Lib.decDigits, dif_pos (by omega), Int.toNat_natCast]
theorem not_same_MC : ¬ SameC wMATCH wCOUNT := fun h => by
 have := h.2 0 77 67 rfl rfl
 exact absurd this (by decide)
theorem same_refl (s : List UInt8) : SameC s s := ⟨rfl, fun k a b ha hb => by rw [ha] at hb; cases hb; rfl⟩
theorem page_count {n a c : Nat} {fr to nx ec : Int} {mt : List UInt8} (hn : n ≤ 1000000) (hc : 1 ≤ c) (hc9 : c ≤ 9) (ha : a ≤ n) (h : PageR (n : Int) [Lib.itoa (a : Int), wCOUNT, Lib.itoa (c : Int)] fr to nx mt ec) :
  ec = 0 ∧ mt = [42] ∧ fr = (a : Int) ∧ to = ((min (a + c) n : Nat) : Int) ∧ nx = if min (a + c) n < n then ((min (a + c) n : Nat) : Int) else 0 := by
 have full : OptTo [wCOUNT, Lib.itoa (c : Int)] [wCOUNT, Lib.itoa (c : Int)].length [] (Lib.itoa (c : Int)) false true := OptTo.c (i := 0) .zero rfl rfl not_same_MC (same_refl _)
 have na : NumP (Lib.itoa (a : Int)) (a : Int) true := .inl ⟨rfl, by omega, by omega, rfl⟩
 have nc : NumP (Lib.itoa (c : Int)) (c : Int) true := .inl ⟨rfl, by omega, by omega, rfl⟩
 rcases h with ⟨-, h1⟩ | ⟨a0, rest, h1, h⟩
 ·cases h1
 cases h1
 rcases h with ⟨-, h1⟩ | ⟨t0, t1, b0, b1, ho, h⟩
 ·exact (opt_no h1 (by simp) full).elim
 obtain ⟨rfl, rfl, rfl, rfl⟩ := (optR_full ho).2.det full
 rcases h with ⟨-, h1⟩ | ⟨k, d, hk, hd, h⟩
 ·rcases h1 with h1 | h1
  ·exact absurd (na.uniq h1).2 (by decide)
  exact absurd (nc.uniq h1).2 (by decide)
 obtain ⟨rfl, -⟩ := na.uniq hk
 obtain ⟨rfl, -⟩ := nc.uniq hd
 rcases h with ⟨-, h1⟩ | ⟨h0, h1, h2, h3, h4, h5, h6⟩
 ·omega
 refine ⟨h0, by rw [h3]; rfl, by omega, by omega, ?_⟩
 rw [h6, h5]
 split <;> split <;> omega
def FitR (mt : List UInt8) (l ft : List (List UInt8)) : Prop := ∃ f : List UInt8 → Bool, (∀ x, f x = true ↔ MatchP (divS mt true 0) x) ∧ ft = l.filter f
theorem fitR_all {l ft : List (List UInt8)} (h : FitR [42] l ft) : ft = l := by
 obtain ⟨f, hf, rfl⟩ := h
 exact List.filter_eq_self.2 fun x _ => (hf x).2 (match_star x)
theorem fit_fun (mt : List UInt8) : ∃ f : List UInt8 → Bool, ∀ x, f x = true ↔ MatchP (divS mt true 0) x := by
 classical
 exact ⟨fun x => decide (MatchP (divS mt true 0) x), fun x => decide_eq_true_iff⟩
theorem keepf_yes {l : List (List UInt8)} {i : Nat} {x : List UInt8} {f : List UInt8 → Bool} (hx : l[i]? = some x) (h : f x = true) : (l.take (i + 1)).filter f = (l.take i).filter f ++ [x] := by
 rw [take_next hx, List.filter_append]; simp [h]
theorem keepf_no {l : List (List UInt8)} {i : Nat} {x : List UInt8} {f : List UInt8 → Bool} (hx : l[i]? = some x) (h : ¬ f x = true) : (l.take (i + 1)).filter f = (l.take i).filter f := by
 rw [take_next hx, List.filter_append]; simp [h]
def ScanR (names xs : List (List UInt8)) (r : Rp) : Prop := ∃ fr to nx mt ec, PageR (names.length : Int) xs fr to nx mt ec ∧ ((ec ≠ 0 ∧ r.kind = 1) ∨ (ec = 0 ∧ ∃ ft, FitR mt ((names.drop fr.toNat).take (to.toNat - fr.toNat)) ft ∧ r = rList [rStr (Lib.itoa nx), rStrs ft]))
theorem scan_count {names : List (List UInt8)} {a c : Nat} {r : Rp} (hn : names.length ≤ 1000000) (hc : 1 ≤ c) (hc9 : c ≤ 9) (ha : a ≤ names.length) (h : ScanR names [Lib.itoa (a : Int), wCOUNT, Lib.itoa (c : Int)] r) :
  ∃ b : Nat, b = min (a + c) names.length ∧ r = rList [rStr (Lib.itoa (((if b < names.length then b else 0) : Nat) : Int)), rStrs ((names.drop a).take (b - a))] := by
 obtain ⟨fr, to, nx, mt, ec, hp, h⟩ := h
 obtain ⟨rfl, rfl, rfl, rfl, rfl⟩ := page_count hn hc hc9 ha hp
 rcases h with ⟨h, -⟩ | ⟨-, ft, hf, rfl⟩
 ·exact absurd rfl h
 refine ⟨_, rfl, ?_⟩
 rw [fitR_all hf, Int.toNat_natCast, Int.toNat_natCast]
 congr 3
 split <;> rfl
theorem PageR.next {n fr to nx ec : Int} {args : List (List UInt8)} {mt : List UInt8} (h : PageR n args fr to nx mt ec) (h0 : ec = 0) : 0 ≤ nx ∧ nx ≤ max n 0 := by
 have hb := h.bounds h0
 rcases h with ⟨h1, -⟩ | ⟨a0, rest, -, ⟨h1, -⟩ | ⟨t0, t1, b0, b1, -, ⟨h1, -⟩ | ⟨k, c, -, -, ⟨h1, -⟩ | ⟨-, h1, h2, -, h3, h4, h5⟩⟩⟩⟩
 all_goals first | omega | (rw [h5]; split <;> omega)
theorem optTo_mem {args : List (List UInt8)} {i : Nat} {t0 t1 : List UInt8} {b0 b1 : Bool} (h : OptTo args i t0 t1 b0 b1) : (t0 = [] ∨ t0 ∈ args) ∧ (t1 = [] ∨ t1 ∈ args) := by
 induction h with
 | zero => exact ⟨.inl rfl, .inl rfl⟩
 | m h1 h2 h3 h4 ih => exact ⟨.inr (List.mem_of_getElem? h3), ih.2⟩
 | c h1 h2 h3 h4 h5 ih => exact ⟨ih.1, .inr (List.mem_of_getElem? h3)⟩
theorem PageR.short {n fr to nx ec : Int} {args : List (List UInt8)} {mt : List UInt8} (h : PageR n args fr to nx mt ec) (h0 : ec = 0) (ha : ∀ x ∈ args, x.length ≤ 1000000) : mt.length ≤ 1000000 := by
 rcases h with ⟨h1, -⟩ | ⟨a0, rest, he, ⟨h1, -⟩ | ⟨t0, t1, b0, b1, ho, ⟨h1, -⟩ | ⟨k, c, -, -, ⟨h1, -⟩ | ⟨-, -, -, rfl, -⟩⟩⟩⟩
 ·omega
 ·omega
 ·omega
 ·omega
 rcases ho with ⟨h1, -⟩ | ⟨-, -, ho⟩
 ·omega
 split
 ·rcases (optTo_mem ho).1 with rfl | h
  ·simp
  exact ha _ (by rw [he]; exact List.mem_cons_of_mem _ h)
 simp
theorem namesT_short {M : List (List UInt8 × Ver)} {clk : Int} (h : ∀ k ∈ M.map (·.1), k.length ≤ 256) : ∀ x ∈ namesT M clk, x.length ≤ 256 := fun x hx => h x (List.mem_mergeSort.1 (List.mem_filter.1 hx).1)
theorem text_snoc (l : List (List UInt8)) (x : List UInt8) : textCells l ++ [strV x] = textCells (l ++ [x]) := by simp [textCells]
theorem names_empty {clk : Int} {lo k i : Nat} {mid : List (List UInt8)} (hi : i < mid.length) (hmid : mid = ((namesT [] clk).drop lo).take k) : False := by
 rw [hmid] at hi
 simp [namesT] at hi
theorem k1al34 : AL Tryz.prog 34 [vI 0, vS [], vI 0, vN] := fun w => by kernel_rfl
theorem k1fa80_0 : FA Tryz.prog 80 0 0 := fun w b o => by kernel_rfl
theorem k1na24 (w : World) : (isAgg 24).run Tryz.prog w = .ok false w := by kernel_rfl
theorem k1callable216 : Callable Tryz.prog 216 := cb Tryz.func216 (by kernel_rfl)
theorem k1callable86 : Callable Tryz.prog 86 := cb Tryz.func86 (by kernel_rfl)
theorem k1al151 : AL Tryz.prog 151 [vI 0, vI 0, vI 0, vS []] := fun w => by kernel_rfl
theorem k1callable87 : Callable Tryz.prog 87 := cb Tryz.func87 (by kernel_rfl)
theorem k1mk9 : (Tryz.prog.info? 9).map (fun i => (i.zero, i.size, i.bytes)) = some (some (vS []), 1, 16) := by kernel_rfl
theorem k1el26 : Elem Tryz.prog 26 9 (vS []) 1 16 := elem_of Tryz.underlying26 k1mk9 (by rfl) (by decide)
theorem k1callable59 : Callable Tryz.prog 59 := cb Tryz.func59 (by kernel_rfl)
theorem k1callable88 : Callable Tryz.prog 88 := cb Tryz.func88 (by kernel_rfl)
theorem ckScan (B : Base) (H : List Res) (w : World) (v t m s p wb : Nat) (va : Option Addr) (vc : Nat) (sv : Value) (clk : Int) (es : List (List UInt8 × Value)) (M : List (List UInt8 × Ver)) (hM : VM B es M) (aa : Option Addr) (an ac : Nat) (xa : Option Addr) (xc : Nat) (xs : List (List UInt8)) (hokx : SliceOk xa xs.length xc) (hrx : RdV B [] xa (textCells xs)) (hmx : xs.length ≤ 10000) (hkl : ∀ k ∈ M.map (·.1), k.length ≤ 256) (hMl : M.length ≤ 1000000) (hxl : ∀ x ∈ xs, x.length ≤ 9223372036854775807) (hsm : (∀ x ∈ xs, x.length ≤ 1000000) ∨ M = []) (hN : NumB B) (hv : Inv B (Res.cell v [.iface 100 (vP t)] 56 :: txR t m s p wb va vc sv clk es :: H) w) :
  Calls Tryz.prog 63 #[.agg #[vP v, .slice aa an ac], .slice xa xs.length xc] w fun e w' => ∃ C r cs, B.Le C ∧ e = .returned (.agg cs.toArray) ∧ RpAt C r cs ∧ ScanR (namesT M clk) xs r ∧ Inv C (Res.cell v [.iface 100 (vP t)] 56 :: txR t m s p wb va vc sv clk es :: H) w' := by
 refine cW Tryz.func63 rfl Tryz.ntmps63 ?_
 simp only [al]
 refine sK fun _ k1 => rL (sl_box (L := [vP v, .slice aa an ac]) tV (wn rfl) rfl rfl hv (fun w => by kernel_rfl) (fun b2 w3 hv => ?_))
 refine sl_alloc tV (wn rfl) rfl hv k1al34 (fun b4 w5 hv => ?_)
 refine uW k1 (sK fun _ k6 => ?_)
 refine rL (uF (vP b2) rfl (k1fa80_0 _ _ _) ?_)
 refine uL _ rfl (run_load1 k1na24 (hv.load 1 0 rfl rfl)) ?_
 refine uG (vP v) rfl (ex_nil rfl rfl) ?_
 refine uF (vP v) rfl (v1fa56_0 _ _ _) ?_
 refine uL _ rfl (run_load1 v1na54 (hv.load 2 0 rfl rfl)) ?_
 replace hv := hv.front 3 rfl
 simp only [eS, eZ] at hv
 refine wpi_callI k1callable216 tV wideC rfl (wn rfl) rfl rfl (r := vP t) (fun w => by kernel_rfl) (args := #[]) (by simp only [List.map_toArray, List.map_nil]) ((txnNamesC B _ _ t m s p wb va vc sv clk es M (hM.more (Base.Le.refl _)) hkl (by omega) hv).mono ?_)
 rintro e w7 ⟨C, na, nc, hC, rfl, hnr, hokn, hv⟩
 refine ⟨_, rfl, ?_⟩
 have hnl := namesT_le M clk
 refine uA rfl (uW k6 ?_)
 refine sK fun _ k8 => rL (uM rfl ?_)
 refine uG (vI (((namesT M clk).length) : Int)) rfl (ex_len0 Tryz.underlying26 rfl rfl) (uM rfl ?_)
 refine xC k1callable86 rfl ((viewPages C _ _ (namesT M clk).length (by omega) (by omega) xa xc xs (hrx.more hC (fun _ h => h)) (by omega) hxl hokx (hN.more hC) hv).mono ?_) rfl
 rintro e w9 ⟨pf, pt, pn, mt, pe, rfl, hpg, hv⟩
 refine ⟨_, rfl, uM rfl ?_⟩
 refine uE rfl (uE rfl ?_)
 refine sl_alloc tV (wn rfl) rfl hv k1al151 (fun b10 w11 hv => ?_)
 refine xS 0 rfl hv v8sz151 rfl (by exact ⟨rfl, rfl, rfl, rfl, trivial⟩) (fun w12 hv => ?_)
 simp only [zO, sp] at hv
 refine uA rfl (uW k8 ?_)
 refine sK fun _ k13 => sK fun _ k14 => rL (uM rfl ?_)
 by_cases hb15 : pe ≠ 0
 ·refine uG (.bool true) rfl (ex_neq rfl rfl rfl (qT hb15)) (uW k14 ?_)
  refine cT rfl (sK fun _ k16 => ?_)
  refine rL (uM rfl ?_)
  refine xC rscallable29 rfl ((viewWrong C _ _ pe hv).mono ?_) rfl
  rintro e w18 ⟨s17, rfl, hv⟩
  refine ⟨_, rfl, ?_⟩
  refine xS 2 rfl hv rssz34 rfl (by exact ⟨rfl, rfl, rfl, rfl, trivial⟩) (fun w19 hv => ?_)
  simp only [zS, zO, sp] at hv
  refine uW k16 (rR ?_)
  refine tR (bC 2 rswd34 hv rfl rfl rfl rfl ?_)
  exact ⟨C, (.mk 1 s17 0 []), _, hC, rfl, rpAt_leaf, ⟨pf, pt, pn, mt, pe, hpg, .inl ⟨by omega, rfl⟩⟩, (hv.kp [1, 4] 2 3)⟩
 refine uG (.bool false) rfl (ex_neq rfl rfl rfl (qF hb15)) (uW k14 ?_)
 refine cF rfl (kS ?_)
 refine tK k13 (sK fun _ k20 => ?_)
 refine rL (uA rfl ?_)
 refine uW k20 (sK fun _ k21 => ?_)
 refine sK fun _ k22 => ?_
 obtain ⟨hpf0, hpft, hptn⟩ := hpg.bounds (by omega)
 obtain ⟨lo, hlo⟩ : ∃ n : Nat, pf = (n : Int) := ⟨pf.toNat, by omega⟩
 obtain ⟨hi, hhi⟩ : ∃ n : Nat, pt = (n : Int) := ⟨pt.toNat, by omega⟩
 obtain ⟨a5, c5, ha5, ok5, hr5⟩ := sliced_midV 1 hokn hnr (textCells_len _) (show lo ≤ hi by omega) (show hi ≤ (namesT M clk).length by omega) (by decide)
 rw [Nat.mul_one, Nat.mul_one, tx_drop, tx_take] at hr5
 obtain ⟨mid, hmid⟩ : ∃ l, l = ((namesT M clk).drop lo).take (hi - lo) := ⟨_, rfl⟩
 rw [← hmid] at hr5
 have hml : mid.length = hi - lo := by rw [hmid, List.length_take, List.length_drop]; omega
 rw [← hml] at ok5 ha5
 have hml2 : mid.length ≤ 1000000 := by omega
 have hpn := hpg.next (by omega)
 obtain ⟨f, hf⟩ := fit_fun mt
 refine rL (uM rfl ?_)
 refine uF (vP b10) rfl (v8fa151_0 _ _ _) ?_
 refine uL _ rfl (run_load1 s2na3 (hv.load 0 0 rfl rfl)) ?_
 refine uF (.pointer (some ⟨b10, 1, none⟩)) rfl (v8fa151_1 _ _ _) ?_
 refine uL _ rfl (run_load1 s2na3 (hv.load 0 1 rfl rfl)) ?_
 refine uG (.slice a5 mid.length c5) rfl (ex_slice (lo' := some (vI pf)) (hi' := some (vI pt)) rfl rfl (congrArg some rfl) (congrArg some rfl) rfl ((run_lhAnyI hlo hhi Tryz.underlying26 s9es26 (by omega) (by have := hokn.le; omega)).trans (by rw [ha5]))) ?_
 refine uG (vI (mid.length : Int)) rfl (ex_len0 Tryz.underlying26 rfl rfl) (uM rfl ?_)
 refine uW k22 (bB ?_)
 gi_loopw [35, 8] (fun x35 x8 wr => ∃ (i : Nat) (ft : List (List UInt8)) (fa : Option Addr) (fc : Nat), x35 = vI i ∧ x8 = .slice fa ft.length fc ∧ i ≤ mid.length ∧ ft.length ≤ i ∧ ft = (mid.take i).filter f ∧ Inv C (Res.row 9 1 (.slice fa ft.length fc) ft.length (textCells ft) :: Res.cell b10 [vI pf, vI pt, vI pn, vS mt] 151 :: txR t m s p wb va vc sv clk es :: Res.cell b4 [vI 0, vS [], vI 0, vN] 34 :: Res.cell b2 [vP v, .slice aa an ac] 80 :: Res.cell v [.iface 100 (vP t)] 56 :: H) wr) (fun x35 x8 _ => mid.length - (intOf x35).toNat)
 case atStart => exact ⟨0, [], none, 0, rfl, rfl, Nat.zero_le _, Nat.zero_le _, rfl, ((((((hv.front 4 rfl).front 4 rfl).front 4 rfl).front 4 rfl).front 4 rfl)).rowNil 9 1⟩
 case round =>
  obtain ⟨i, ft, fa, fc, rfl, rfl, hi9, hfl, hft, hv⟩ := hrel
  refine sK fun _ k24 => rL ?_
  by_cases hb25 : (i : Int) < (mid.length : Int)
  ·refine uG (.bool true) rfl (ex_lss rfl rfl rfl (qT hb25)) (uW k24 ?_)
   refine sK fun _ k26 => cT rfl (kS ?_)
   refine tK k26 (sK fun _ k27 => ?_)
   refine bB (sK fun _ k28 => ?_)
   obtain ⟨x, hx⟩ : ∃ x, mid[i]? = some x := ⟨_, List.getElem?_eq_getElem (show i < mid.length by omega)⟩
   obtain ⟨mb, mo, had, hrdx⟩ := text_reads hr5 hx
   subst had
   refine rL (uG (.pointer (some ⟨mb, mo + i, none⟩)) rfl (ex_index rfl rfl rfl (run_idx1 (k := i) Tryz.underlying26 s9es26 (by omega))) ?_)
   refine uL _ rfl (run_load1 s9na9 (hrdx _ _ _ (Base.Le.refl _) no_res hv 0 _ rfl)) (uA rfl ?_)
   refine uW k28 (sK fun _ k29 => ?_)
   refine rL (uL (.agg #[vI pf, vI pt, vI pn, vS mt]) rfl (lM 1 v8wd151 hv rfl rfl rfl rfl) ?_)
   refine uM rfl ?_
   refine xC k1callable87 rfl ((pageFits C _ _ pf pt pn mt x (hpg.short (by omega) (hsm.resolve_right (fun h9 => by rw [h9] at hmid; exact names_empty (List.getElem?_eq_some_iff.1 hx).1 hmid))) (by have := namesT_short hkl x (List.mem_of_mem_drop (List.mem_of_mem_take (hmid ▸ List.mem_of_getElem? hx))); omega) hv).mono ?_) rfl
   rintro e w30 ⟨b, rfl, hb, hv⟩
   refine ⟨_, rfl, ?_⟩
   cases b
   ·refine uW k29 (cF rfl ?_)
    refine kS (bN ?_)
    refine tK k27 (rL ?_)
    refine uG (vI ((i + 1 : Nat) : Int)) rfl (ex_add rfl rfl rfl (by rw [i64_in (by omega)]; omega)) (uM rfl ?_)
    refine uZ (then_normal ?_)
    go_roundw
    case rel => exact ⟨i + 1, ft, fa, fc, rfl, rfl, by omega, by omega, by rw [keepf_no hx (fun h9 => absurd (hb.2 ((hf x).1 h9)) (by decide))]; exact hft, ((((((hv.front 5 rfl).front 5 rfl).front 5 rfl).front 5 rfl).front 5 rfl).front 5 rfl)⟩
    case measure => show mid.length - (((i + 1 : Nat) : Int)).toNat < mid.length - ((i : Int)).toNat; omega
   refine uW k29 (cT rfl ?_)
   refine rL (uM rfl ?_)
   refine uM rfl ?_
   refine sl_rowOne (v := vS x) tV (wn rfl) rfl rfl hv k1el26 rfl (fun b31 w32 hv => ?_)
   simp only [zP, po]
   replace hv := hv.front 1 rfl
   simp only [eS, eZ] at hv
   refine sl_append (news := [vS x]) tV (wn rfl) rfl rfl rfl k1el26 hv (ok_full (by omega)) rfl (rd_all (hv.get 1 rfl)) (by intro u hu; simp only [List.mem_cons, List.not_mem_nil, or_false] at hu; rcases hu with rfl <;> rfl) (by unfold maxLen; omega) (by omega) (fun rv33 w36 hv => ?_)
   obtain ⟨ra34, rc35, rfl⟩ := row_slice hv.head
   refine uA rfl (uZ ?_)
   refine bN (tK k27 ?_)
   refine rL (uG (vI ((i + 1 : Nat) : Int)) rfl (ex_add rfl rfl rfl (by rw [i64_in (by omega)]; omega)) ?_)
   refine uM rfl (uZ ?_)
   refine then_normal ?_
   go_roundw
   case rel => exact ⟨i + 1, ft ++ [x], _, _, rfl, by rw [List.length_append, List.length_singleton], by omega, by rw [List.length_append, List.length_singleton]; omega, by rw [keepf_yes hx ((hf x).2 (hb.1 rfl)), hft], by rw [List.length_append, List.length_singleton, ← text_snoc]; exact (hv.kp [6, 6, 6, 6, 6, 5] 6 1)⟩
   case measure => show mid.length - (((i + 1 : Nat) : Int)).toNat < mid.length - ((i : Int)).toNat; omega
  refine uG (.bool false) rfl (ex_lss rfl rfl rfl (qF hb25)) (uW k24 ?_)
  refine sK fun _ k37 => cF rfl (xE ?_)
  refine tX (tX ?_)
  refine bH (tK k21 ?_)
  refine sK fun _ k38 => ?_
  obtain ⟨E, hE, hv, hrf, hokf, -⟩ := hv.rowBy
  refine rL (uF (.pointer (some ⟨b10, 2, none⟩)) rfl (v8fa151_2 _ _ _) ?_)
  refine uL _ rfl (run_load1 s2na3 (hv.load 0 2 rfl rfl)) ?_
  refine xC pzcallable89 rfl ((numPrint E _ (hN E _ (hC.trans hE)).1 _ pn (by omega) (by omega) hv).mono ?_) rfl
  rintro e w39 ⟨rfl, hv⟩
  refine ⟨_, rfl, ?_⟩
  simp only [zP, po]
  refine xC rtcallable84 rfl ((respStr E _ _ (Lib.itoa pn) hv).mono ?_) rfl
  rintro e w40 ⟨rfl, hv⟩
  refine ⟨_, rfl, uM rfl ?_⟩
  refine xC k1callable59 rfl ((respStrsR E _ _ fa fc ft (hrf.more (Base.Le.refl _) (fun _ h => h)) (by omega) hv).mono ?_) rfl
  rintro e w45 ⟨D41, da42, dc43, hD41, rfl, hrp44o, hrp44, hv⟩
  refine ⟨_, rfl, ?_⟩
  simp only [zP, po]
  refine sl_rowN (pv := #[(0, .agg #[vI 3, vS (Lib.itoa pn), vI 0, vN]), (1, .agg #[vI 5, vS [], vI 0, .slice da42 ft.length dc43])]) (L := [vI 3, vS (Lib.itoa pn), vI 0, vN, vI 5, vS [], vI 0, .slice da42 ft.length dc43]) (e := 34) tV (wn rfl) rfl (by simp only [List.map_toArray, List.map_cons, List.map_nil]; rfl) hv (fun w => by kernel_rfl) (fun b46 w47 hv => ?_)
  obtain ⟨K48, hK48, hv, hrK48, hokK48, -⟩ := (hv.cellRow (n := 2) (c := 2) (size := 4) rfl (by decide) (by decide)).rowBy
  refine xC k1callable88 rfl ((respList K48 _ _ _ 2 2 _ (rList [rStr (Lib.itoa pn), rStrs ft]) hokK48 hrK48 (listIn_two hrp44o (hrp44.more hK48 (fun _ h => h)) (by omega)) (by decide) hv).mono ?_) rfl
  rintro e w52 ⟨J49, lw50, hJ49, rfl, hrw51, hv⟩
  refine ⟨_, rfl, ?_⟩
  refine xS 2 rfl hv rssz34 rfl (by exact ⟨rfl, rfl, rfl, hrw51.lv.2, trivial⟩) (fun w53 hv => ?_)
  simp only [zS, zO, sp] at hv
  refine uW k38 (rR ?_)
  refine bC 2 rswd34 hv rfl rfl rfl rfl (⟨J49, rList [rStr (Lib.itoa pn), rStrs ft], _, ((((hC.trans hE).trans hD41).trans hK48).trans hJ49), rfl, (hrw51.more (Base.Le.refl _)), ⟨pf, pt, pn, mt, pe, hpg, .inr ⟨by omega, ft, ⟨f, hf, (by obtain rfl : i = mid.length := (by omega); rw [hft, List.take_length, hmid, show pf.toNat = lo by omega, show pt.toNat = hi by omega])⟩, rfl⟩⟩, (hv.kp [1, 4] 2 3)⟩)
abbrev GRow := List UInt8 × Int × Int
def gRows : List GRow := [([67, 79, 80, 89], 2, (-1)), ([68, 66, 83, 73, 90, 69], 0, 0), ([68, 69, 76], 1, (-1)), ([69, 88, 73, 83, 84, 83], 1, (-1)), ([69, 88, 80, 73, 82, 69], 2, 3), ([69, 88, 80, 73, 82, 69, 65, 84], 2, 3), ([69, 88, 80, 73, 82, 69, 84, 73, 77, 69], 1, 1), ([70, 76, 85, 83, 72, 65, 76, 76], 0, 0), ([75, 69, 89, 83], 1, 1), ([80, 69, 82, 83, 73, 83, 84], 1, 1), ([82, 69, 78, 65, 77, 69], 2, 2), ([82, 69, 78, 65, 77, 69, 78, 88], 2, 2), ([83, 67, 65, 78], 1, (-1)), ([83, 79, 82, 84], 1, (-1)), ([84, 84, 76], 1, 1), ([84, 89, 80, 69], 1, 1)]
abbrev gRowF (x : GRow) : List Value := [strV x.1, vI x.2.1, vI x.2.2]
theorem gRow_reads {B : Base} {l : List GRow} {ad : Option Addr} {i : Nat} {x : GRow} (hr : RdV B [] ad (l.flatMap gRowF)) (hx : l[i]? = some x) : ∃ b off, ad = some ⟨b, off, none⟩ ∧ Reads B [] b (off + i * 3) (gRowF x) := rowk_reads (k := 3) (fun _ => rfl) (by decide) hr hx
theorem gRows_len : gRows.length = 16 := rfl
theorem gRows_inj : ∀ x ∈ gRows, ∀ y ∈ gRows, x.1 = y.1 → x = y := by decide
theorem gRowsC (B : Base) (H : List Res) (w : World) (hv : Inv B H w) :
  Calls Tryz.prog 30 #[] w fun e w' => ∃ C ra rc, B.Le C ∧ e = .returned (.slice ra gRows.length rc) ∧ RdV C [] ra (gRows.flatMap gRowF) ∧ Inv C H w' := by
 refine cW Tryz.func30 rfl Tryz.ntmps30 ?_
 simp only [al]
 refine sK fun _ k1 => rL (uA rfl ?_)
 refine uW k1 (sK fun _ k2 => ?_)
 refine rL (uG (.agg #[vS [67, 79, 80, 89], vI 2, vI (-1)]) rfl (ex_buildN (vs := #[(0, vS [67, 79, 80, 89]), (1, vI 2), (2, vI (-1))]) rfl (by simp only [List.map_toArray, List.map_cons, List.map_nil]; rfl) (by kernel_rfl)) ?_)
 refine uG (.agg #[vS [68, 66, 83, 73, 90, 69], vI 0, vI 0]) rfl (ex_buildN (vs := #[(0, vS [68, 66, 83, 73, 90, 69]), (1, vI 0), (2, vI 0)]) rfl (by simp only [List.map_toArray, List.map_cons, List.map_nil]; rfl) (by kernel_rfl)) ?_
 refine uG (.agg #[vS [68, 69, 76], vI 1, vI (-1)]) rfl (ex_buildN (vs := #[(0, vS [68, 69, 76]), (1, vI 1), (2, vI (-1))]) rfl (by simp only [List.map_toArray, List.map_cons, List.map_nil]; rfl) (by kernel_rfl)) ?_
 refine uG (.agg #[vS [69, 88, 73, 83, 84, 83], vI 1, vI (-1)]) rfl (ex_buildN (vs := #[(0, vS [69, 88, 73, 83, 84, 83]), (1, vI 1), (2, vI (-1))]) rfl (by simp only [List.map_toArray, List.map_cons, List.map_nil]; rfl) (by kernel_rfl)) ?_
 refine uG (.agg #[vS [69, 88, 80, 73, 82, 69], vI 2, vI 3]) rfl (ex_buildN (vs := #[(0, vS [69, 88, 80, 73, 82, 69]), (1, vI 2), (2, vI 3)]) rfl (by simp only [List.map_toArray, List.map_cons, List.map_nil]; rfl) (by kernel_rfl)) ?_
 refine uG (.agg #[vS [69, 88, 80, 73, 82, 69, 65, 84], vI 2, vI 3]) rfl (ex_buildN (vs := #[(0, vS [69, 88, 80, 73, 82, 69, 65, 84]), (1, vI 2), (2, vI 3)]) rfl (by simp only [List.map_toArray, List.map_cons, List.map_nil]; rfl) (by kernel_rfl)) ?_
 refine uG (.agg #[vS [69, 88, 80, 73, 82, 69, 84, 73, 77, 69], vI 1, vI 1]) rfl (ex_buildN (vs := #[(0, vS [69, 88, 80, 73, 82, 69, 84, 73, 77, 69]), (1, vI 1), (2, vI 1)]) rfl (by simp only [List.map_toArray, List.map_cons, List.map_nil]; rfl) (by kernel_rfl)) ?_
 refine uG (.agg #[vS [70, 76, 85, 83, 72, 65, 76, 76], vI 0, vI 0]) rfl (ex_buildN (vs := #[(0, vS [70, 76, 85, 83, 72, 65, 76, 76]), (1, vI 0), (2, vI 0)]) rfl (by simp only [List.map_toArray, List.map_cons, List.map_nil]; rfl) (by kernel_rfl)) ?_
 refine uG (.agg #[vS [75, 69, 89, 83], vI 1, vI 1]) rfl (ex_buildN (vs := #[(0, vS [75, 69, 89, 83]), (1, vI 1), (2, vI 1)]) rfl (by simp only [List.map_toArray, List.map_cons, List.map_nil]; rfl) (by kernel_rfl)) ?_
 refine uG (.agg #[vS [80, 69, 82, 83, 73, 83, 84], vI 1, vI 1]) rfl (ex_buildN (vs := #[(0, vS [80, 69, 82, 83, 73, 83, 84]), (1, vI 1), (2, vI 1)]) rfl (by simp only [List.map_toArray, List.map_cons, List.map_nil]; rfl) (by kernel_rfl)) ?_
 refine uG (.agg #[vS [82, 69, 78, 65, 77, 69], vI 2, vI 2]) rfl (ex_buildN (vs := #[(0, vS [82, 69, 78, 65, 77, 69]), (1, vI 2), (2, vI 2)]) rfl (by simp only [List.map_toArray, List.map_cons, List.map_nil]; rfl) (by kernel_rfl)) ?_
 refine uG (.agg #[vS [82, 69, 78, 65, 77, 69, 78, 88], vI 2, vI 2]) rfl (ex_buildN (vs := #[(0, vS [82, 69, 78, 65, 77, 69, 78, 88]), (1, vI 2), (2, vI 2)]) rfl (by simp only [List.map_toArray, List.map_cons, List.map_nil]; rfl) (by kernel_rfl)) ?_
 refine uG (.agg #[vS [83, 67, 65, 78], vI 1, vI (-1)]) rfl (ex_buildN (vs := #[(0, vS [83, 67, 65, 78]), (1, vI 1), (2, vI (-1))]) rfl (by simp only [List.map_toArray, List.map_cons, List.map_nil]; rfl) (by kernel_rfl)) ?_
 refine uG (.agg #[vS [83, 79, 82, 84], vI 1, vI (-1)]) rfl (ex_buildN (vs := #[(0, vS [83, 79, 82, 84]), (1, vI 1), (2, vI (-1))]) rfl (by simp only [List.map_toArray, List.map_cons, List.map_nil]; rfl) (by kernel_rfl)) ?_
 refine uG (.agg #[vS [84, 84, 76], vI 1, vI 1]) rfl (ex_buildN (vs := #[(0, vS [84, 84, 76]), (1, vI 1), (2, vI 1)]) rfl (by simp only [List.map_toArray, List.map_cons, List.map_nil]; rfl) (by kernel_rfl)) ?_
 refine uG (.agg #[vS [84, 89, 80, 69], vI 1, vI 1]) rfl (ex_buildN (vs := #[(0, vS [84, 89, 80, 69]), (1, vI 1), (2, vI 1)]) rfl (by simp only [List.map_toArray, List.map_cons, List.map_nil]; rfl) (by kernel_rfl)) ?_
 refine sl_rowN (pv := #[(0, .agg #[vS [67, 79, 80, 89], vI 2, vI (-1)]), (1, .agg #[vS [68, 66, 83, 73, 90, 69], vI 0, vI 0]), (2, .agg #[vS [68, 69, 76], vI 1, vI (-1)]), (3, .agg #[vS [69, 88, 73, 83, 84, 83], vI 1, vI (-1)]), (4, .agg #[vS [69, 88, 80, 73, 82, 69], vI 2, vI 3]), (5, .agg #[vS [69, 88, 80, 73, 82, 69, 65, 84], vI 2, vI 3]), (6, .agg #[vS [69, 88, 80, 73, 82, 69, 84, 73, 77, 69], vI 1, vI 1]), (7, .agg #[vS [70, 76, 85, 83, 72, 65, 76, 76], vI 0, vI 0]), (8, .agg #[vS [75, 69, 89, 83], vI 1, vI 1]), (9, .agg #[vS [80, 69, 82, 83, 73, 83, 84], vI 1, vI 1]), (10, .agg #[vS [82, 69, 78, 65, 77, 69], vI 2, vI 2]), (11, .agg #[vS [82, 69, 78, 65, 77, 69, 78, 88], vI 2, vI 2]), (12, .agg #[vS [83, 67, 65, 78], vI 1, vI (-1)]), (13, .agg #[vS [83, 79, 82, 84], vI 1, vI (-1)]), (14, .agg #[vS [84, 84, 76], vI 1, vI 1]), (15, .agg #[vS [84, 89, 80, 69], vI 1, vI 1])]) (L := [vS [67, 79, 80, 89], vI 2, vI (-1), vS [68, 66, 83, 73, 90, 69], vI 0, vI 0, vS [68, 69, 76], vI 1, vI (-1), vS [69, 88, 73, 83, 84, 83], vI 1, vI (-1), vS [69, 88, 80, 73, 82, 69], vI 2, vI 3, vS [69, 88, 80, 73, 82, 69, 65, 84], vI 2, vI 3, vS [69, 88, 80, 73, 82, 69, 84, 73, 77, 69], vI 1, vI 1, vS [70, 76, 85, 83, 72, 65, 76, 76], vI 0, vI 0, vS [75, 69, 89, 83], vI 1, vI 1, vS [80, 69, 82, 83, 73, 83, 84], vI 1, vI 1, vS [82, 69, 78, 65, 77, 69], vI 2, vI 2, vS [82, 69, 78, 65, 77, 69, 78, 88], vI 2, vI 2, vS [83, 67, 65, 78], vI 1, vI (-1), vS [83, 79, 82, 84], vI 1, vI (-1), vS [84, 84, 76], vI 1, vI 1, vS [84, 89, 80, 69], vI 1, vI 1]) (e := 78) tV (wn rfl) rfl (by simp only [List.map_toArray, List.map_cons, List.map_nil]; rfl) hv (fun w => by kernel_rfl) (fun b3 w4 hv => ?_)
 refine uA rfl (uW k2 ?_)
 refine rR (bR rfl rfl ?_)
 obtain ⟨C, hC, hv, hr, -, -⟩ := (hv.cellRow (n := 16) (c := 16) (size := 3) rfl (by decide) (by decide)).rowBy
 exact ⟨C, _, _, hC, rfl, hr, hv⟩
theorem k2callable30 : Callable Tryz.prog 30 := cb Tryz.func30 (by kernel_rfl)
theorem k2es75 (w : World) : (sizeOf (Tryz.prog.elem 75)).run Tryz.prog w = .ok 3 w := by kernel_rfl
theorem k2wd78 : Wide Tryz.prog 78 3 := wide_of (fun w => by kernel_rfl) (by kernel_rfl)
theorem k2al78 : AL Tryz.prog 78 [vS [], vI 0, vI 0] := fun w => by kernel_rfl
theorem k2sz78 : (Tryz.prog.info? 78).map (·.size) = some 3 := by kernel_rfl
theorem k2fa78_0 : FA Tryz.prog 78 0 0 := fun w b o => by kernel_rfl
theorem gRows_scan : ∀ x ∈ gRows, x.1 = ([83, 67, 65, 78] : List UInt8) → x.2.1 = 1 ∧ x.2.2 = -1 := by decide
theorem gRows_has : ∃ x ∈ gRows, x.1 = ([83, 67, 65, 78] : List UInt8) := by decide
theorem k2al34 : AL Tryz.prog 34 [vI 0, vS [], vI 0, vN] := fun w => by kernel_rfl
theorem k2fa80_1 : FA Tryz.prog 80 1 1 := fun w b o => by kernel_rfl
theorem k2wd80 : Wide Tryz.prog 80 2 := wide_of (fun w => by kernel_rfl) (by kernel_rfl)
theorem k2callable63 : Callable Tryz.prog 63 := cb Tryz.func63 (by kernel_rfl)
theorem ckDoScan (B : Base) (H : List Res) (w : World) (v t m s p wb : Nat) (va : Option Addr) (vc : Nat) (sv : Value) (clk : Int) (es : List (List UInt8 × Value)) (M : List (List UInt8 × Ver)) (hM : VM B es M) (aa : Option Addr) (ac : Nat) (args : List (List UInt8)) (hra : RdV B [] aa (textCells args)) (hoka : SliceOk aa args.length ac) (hma : args.length ≤ 1000) (hkl : ∀ k ∈ M.map (·.1), k.length ≤ 256) (hMl : M.length ≤ 1000000) (hxl : ∀ x ∈ args, x.length ≤ 9223372036854775807) (hsm : (∀ x ∈ args, x.length ≤ 1000000) ∨ M = []) (hN : NumB B) (hv : Inv B (Res.cell v [.iface 100 (vP t)] 56 :: txR t m s p wb va vc sv clk es :: H) w) :
  Calls Tryz.prog 31 #[.agg #[vP v, .slice aa args.length ac], vS [83, 67, 65, 78]] w fun e w' => ∃ C r cs, B.Le C ∧ e = .returned (.agg cs.toArray) ∧ RpAt C r cs ∧ ScanR (namesT M clk) args r ∧ Inv C (Res.cell v [.iface 100 (vP t)] 56 :: txR t m s p wb va vc sv clk es :: H) w' := by
 refine cW Tryz.func31 rfl Tryz.ntmps31 ?_
 simp only [al]
 refine sK fun _ k1 => rL (sl_box (L := [vP v, .slice aa args.length ac]) tV (wn rfl) rfl rfl hv (fun w => by kernel_rfl) (fun b2 w3 hv => ?_))
 simp only [zP, po]
 refine sl_alloc tV (wn rfl) rfl hv k2al34 (fun b4 w5 hv => ?_)
 refine uW k1 (sK fun _ k6 => ?_)
 refine rL (uF (.pointer (some ⟨b2, 1, none⟩)) rfl (k2fa80_1 _ _ _) ?_)
 refine uL _ rfl (run_load1 s1na26 (hv.load 1 1 rfl rfl)) (uA rfl ?_)
 refine uW k6 (sK fun _ k7 => ?_)
 refine sK fun _ k8 => rL (uM rfl ?_)
 refine uW k8 (bB ?_)
 refine sK fun _ k9 => rL (uG (.bool false) rfl (ex_seql rfl rfl rfl (qF (by decide))) ?_)
 refine uA rfl (uW k9 ?_)
 refine cF rfl (sK fun _ k10 => ?_)
 refine rL (uG (.bool false) rfl (ex_seql rfl rfl rfl (qF (by decide))) ?_)
 refine uA rfl (uW k10 ?_)
 refine cF rfl (sK fun _ k11 => ?_)
 refine rL (uG (.bool false) rfl (ex_seql rfl rfl rfl (qF (by decide))) ?_)
 refine uA rfl (uW k11 ?_)
 refine cF rfl (sK fun _ k12 => ?_)
 refine rL (uG (.bool false) rfl (ex_seql rfl rfl rfl (qF (by decide))) ?_)
 refine uA rfl (uW k12 ?_)
 refine cF rfl (sK fun _ k13 => ?_)
 refine sK fun _ k14 => rL (uG (.bool false) rfl (ex_seql rfl rfl rfl (qF (by decide))) ?_)
 refine uA rfl (uW k14 ?_)
 refine cF rfl (rL ?_)
 refine uG (.bool false) rfl (ex_seql rfl rfl rfl (qF (by decide))) (uA rfl ?_)
 refine uW k13 (cF rfl ?_)
 refine sK fun _ k15 => rL (uG (.bool false) rfl (ex_seql rfl rfl rfl (qF (by decide))) ?_)
 refine uA rfl (uW k15 ?_)
 refine cF rfl (sK fun _ k16 => ?_)
 refine rL (uG (.bool false) rfl (ex_seql rfl rfl rfl (qF (by decide))) ?_)
 refine uA rfl (uW k16 ?_)
 refine cF rfl (sK fun _ k17 => ?_)
 refine rL (uG (.bool false) rfl (ex_seql rfl rfl rfl (qF (by decide))) ?_)
 refine uA rfl (uW k17 ?_)
 refine cF rfl (sK fun _ k18 => ?_)
 refine rL (uG (.bool false) rfl (ex_seql rfl rfl rfl (qF (by decide))) ?_)
 refine uA rfl (uW k18 ?_)
 refine cF rfl (sK fun _ k19 => ?_)
 refine rL (uG (.bool true) rfl (ex_seql rfl rfl rfl (qT (by decide))) ?_)
 refine uA rfl (uW k19 ?_)
 refine cT rfl (sK fun _ k20 => ?_)
 refine rL (uL (.agg #[vP v, .slice aa args.length ac]) rfl (lM 1 k2wd80 hv rfl rfl rfl rfl) ?_)
 refine uM rfl ?_
 replace hv := hv.front 3 rfl
 simp only [eS, eZ] at hv
 replace hv := hv.front 3 rfl
 simp only [eS, eZ] at hv
 refine xC k2callable63 rfl ((ckScan B _ _ v t m s p wb va vc sv clk es M hM aa args.length ac aa ac args hoka hra (by omega) hkl hMl hxl hsm hN hv).mono ?_) rfl
 rintro e w21 ⟨C, r, cs, hC, rfl, hrp, hsr, hv⟩
 refine ⟨_, rfl, ?_⟩
 obtain ⟨rk, rs, rn, rv, rfl⟩ := rp_parts hrp
 simp only [zP, po]
 refine xS 2 rfl hv rssz34 rfl (by exact ⟨rfl, rfl, rfl, hrp.lv.2, trivial⟩) (fun w22 hv => ?_)
 simp only [zS, zO, sp] at hv
 refine uW k20 (rR ?_)
 refine bZ (tR ?_)
 refine bC 2 rswd34 hv rfl rfl rfl rfl (⟨C, r, _, hC, rfl, hrp, hsr, (hv.kp [1, 1] 2 2)⟩)
theorem k2al4 : AL Tryz.prog 4 [.bool false] := fun w => by kernel_rfl
theorem k2fa78_1 : FA Tryz.prog 78 1 1 := fun w b o => by kernel_rfl
theorem k2callable28 : Callable Tryz.prog 28 := cb Tryz.func28 (by kernel_rfl)
theorem k2rec28 (n : Nat) (x0 x1 : Value) (w : World) : CallsDIn Fence.wide n Tryz.prog 28 #[x0, x1] .returning w fun e u' w' => e = .returned (.tuple #[]) ∧ u' = .returning ∧ w' = w := by
 refine callsDIn_of_wpSIn Tryz.func28 rfl trivial fun c₀ cs hu => ?_
 apply wpSIn_seq
 apply wpSIn_region
 simp [wpOpsSIn, go_sem, recoverD, hu, Tryz.ntmps28, Exit.thenS]
 refine wpSIn_cond (t := false) (by simp [Act.eval, Array.replicate]) ?_
 simp only [Bool.false_eq_true, if_false]
 refine wpSIn_of_wpIn rfl (wpIn_skip ?_)
 cases c₀
 simp_all [bodyPostS, results, Tryz.results28]
theorem k2fa78_2 : FA Tryz.prog 78 2 2 := fun w b o => by kernel_rfl
theorem k2callable31 : Callable Tryz.prog 31 := cb Tryz.func31 (by kernel_rfl)
theorem ckDoS (B : Base) (H : List Res) (w : World) (v t m s p wb : Nat) (va : Option Addr) (vc : Nat) (sv : Value) (clk : Int) (es : List (List UInt8 × Value)) (M : List (List UInt8 × Ver)) (hM : VM B es M) (aa : Option Addr) (ac : Nat) (args : List (List UInt8)) (hra : RdV B [] aa (textCells args)) (hoka : SliceOk aa args.length ac) (hma : args.length ≤ 1000) (hal : 1 ≤ args.length) (hkl : ∀ k ∈ M.map (·.1), k.length ≤ 256) (hMl : M.length ≤ 1000000) (hxl : ∀ x ∈ args, x.length ≤ 9223372036854775807) (hsm : (∀ x ∈ args, x.length ≤ 1000000) ∨ M = []) (hN : NumB B) (hv : Inv B (Res.cell v [.iface 100 (vP t)] 56 :: txR t m s p wb va vc sv clk es :: H) w) :
  Calls Tryz.prog 10 #[vP v, vS [83, 67, 65, 78], .slice aa args.length ac] w fun e w' => ∃ C r cs, B.Le C ∧ e = .returned (.tuple #[.agg cs.toArray, .bool true]) ∧ RpAt C r cs ∧ ScanR (namesT M clk) args r ∧ Inv C (Res.cell v [.iface 100 (vP t)] 56 :: txR t m s p wb va vc sv clk es :: H) w' := by
 refine (callsIn_wide (n := 5)).1 (callsIn_of_wp_defers Tryz.func10 rfl trivial ?_)
 simp only [Tryz.ntmps10, List.size_toArray, List.length_cons, List.length_nil, Nat.reduceAdd, Nat.reduceSub, Array.replicate_succ, Array.replicate_zero, List.push_toArray, List.append_toArray, List.nil_append, List.cons_append]
 refine sK fun _ k1 => rL (sl_alloc tV (wn rfl) rfl hv k2al34 (fun b2 w3 hv => ?_))
 refine sl_alloc tV (wn rfl) rfl hv k2al4 (fun b4 w5 hv => ?_)
 refine uW k1 (sK fun _ k6 => ?_)
 refine rL (uG (.func (.func 28) #[] #[vP b2, vP b4]) rfl (ex_makeFunc (c' := #[vP b2, vP b4]) rfl (by simp only [List.map_toArray, List.map_nil]) (by simp only [List.map_toArray, List.map_cons, List.map_nil]; rfl)) ?_)
 refine wpi_defer tV rfl (wn rfl) rfl rfl (uW k6 ?_)
 refine sK fun _ k7 => sK fun _ k8 => rL (xC k2callable30 rfl ((gRowsC B _ _ hv).mono ?_) rfl)
 rintro e w9 ⟨C, ra, rc, hC, rfl, hrr, hv⟩
 refine ⟨_, rfl, uG (vI (gRows.length : Int)) rfl (ex_len0 Tryz.underlying75 rfl rfl) ?_⟩
 refine uM rfl (uW k8 ?_)
 refine bB ?_
 gi_loopw [14] (fun x14 wr => ∃ (i : Nat), x14 = vI i ∧ i ≤ gRows.length ∧ (∀ (j : Nat) y, j < i → gRows[j]? = some y → y.1 ≠ ([83, 67, 65, 78] : List UInt8)) ∧ Inv C (Res.cell b4 [.bool false] 4 :: Res.cell b2 [vI 0, vS [], vI 0, vN] 34 :: Res.cell v [.iface 100 (vP t)] 56 :: txR t m s p wb va vc sv clk es :: H) wr) (fun x14 _ => gRows.length - (intOf x14).toNat)
 case atStart => exact ⟨0, rfl, Nat.zero_le _, fun j y h => by omega, hv⟩
 case round =>
  obtain ⟨i, rfl, hi, hno, hv⟩ := hrel
  have hrl := gRows_len
  refine sK fun _ k11 => rL ?_
  by_cases hb12 : (i : Int) < (gRows.length : Int)
  ·refine uG (.bool true) rfl (ex_lss rfl rfl rfl (qT hb12)) (uW k11 ?_)
   refine sK fun _ k13 => cT rfl (kS ?_)
   refine tK k13 (sK fun _ k14 => ?_)
   refine bB (sK fun _ k15 => ?_)
   have hrl := gRows_len
   obtain ⟨x, hx⟩ : ∃ x, gRows[i]? = some x := ⟨_, List.getElem?_eq_getElem (show i < gRows.length by omega)⟩
   have hxm := List.mem_of_getElem? hx
   obtain ⟨rb, ro, had, hrdx⟩ := gRow_reads hrr hx
   subst had
   refine rL (uG (.pointer (some ⟨rb, ro + i * 3, none⟩)) rfl (ex_index rfl rfl rfl (run_idx (k := i) Tryz.underlying75 k2es75 (by omega))) ?_)
   refine uL (.agg #[vS x.1, vI x.2.1, vI x.2.2]) rfl (run_loadR (cs := [vS x.1, vI x.2.1, vI x.2.2]) k2wd78 (Reads.mid (pre := []) (mid := [vS x.1, vI x.2.1, vI x.2.2]) (post := []) hrdx _ _ _ (Base.Le.refl _) no_res hv)) ?_
   refine sl_alloc tV (wn rfl) rfl hv k2al78 (fun b16 w17 hv => ?_)
   simp only [zP, po]
   refine xS 0 rfl hv k2sz78 rfl (by exact ⟨rfl, rfl, rfl, trivial⟩) (fun w18 hv => ?_)
   simp only [zO, sp] at hv
   refine uW k15 (sK fun _ k19 => ?_)
   refine sK fun _ k20 => rL (uF (vP b16) rfl (k2fa78_0 _ _ _) ?_)
   refine uL _ rfl (run_load1 s9na9 (hv.load 0 0 rfl rfl)) (uM rfl ?_)
   by_cases hb21 : x.1 ≠ ([83, 67, 65, 78] : List UInt8)
   ·refine uG (.bool true) rfl (ex_sneq rfl rfl rfl (qT hb21)) (uW k20 ?_)
    refine cT rfl (xE ?_)
    refine tX (bH ?_)
    refine tK k14 (rL ?_)
    refine uG (vI ((i + 1 : Nat) : Int)) rfl (ex_add rfl rfl rfl (by rw [i64_in (by omega)]; omega)) (uM rfl ?_)
    refine uZ (then_normal ?_)
    go_roundw
    case rel => exact ⟨i + 1, rfl, by omega, fun j y hj hy => (by
       rcases Nat.lt_or_ge j i with h | h
       ·exact hno j y h hy
       obtain rfl : j = i := by omega
       rw [hx] at hy; cases hy; exact hb21), (hv.kp [4, 4, 4, 4] 4 1)⟩
    case measure => show gRows.length - (((i + 1 : Nat) : Int)).toNat < gRows.length - ((i : Int)).toNat; omega
   refine uG (.bool false) rfl (ex_sneq rfl rfl rfl (qF hb21)) (uW k20 ?_)
   refine cF rfl (kS ?_)
   refine tK k19 (sK fun _ k22 => ?_)
   refine sK fun _ k23 => ?_
   have hxn : x.1 = ([83, 67, 65, 78] : List UInt8) := Classical.byContradiction fun h9 => hb21 h9
   obtain ⟨hx1, hx2⟩ := gRows_scan x hxm hxn
   refine rL (uM rfl ?_)
   refine uG (vI (args.length : Int)) rfl (ex_len0 Tryz.underlying26 rfl rfl) (uA rfl ?_)
   refine uW k23 (sK fun _ k24 => ?_)
   refine rL (uM rfl ?_)
   refine uF (.pointer (some ⟨b16, 1, none⟩)) rfl (k2fa78_1 _ _ _) ?_
   refine uL _ rfl (run_load1 s2na3 (hv.load 0 1 rfl rfl)) ?_
   by_cases hb25 : (args.length : Int) < x.2.1
   ·refine uG (.bool true) rfl (ex_lss rfl rfl rfl (qT hb25)) (uM rfl ?_)
    iterate 9 refine uP rfl ?_
    refine uK rfl (uW k24 ?_)
    refine cT rfl (sK fun _ k26 => ?_)
    refine rL (xC rscallable29 rfl ((viewWrong C _ _ 43 hv).mono ?_) rfl)
    rintro e w28 ⟨s27, rfl, hv⟩
    refine ⟨_, rfl, ?_⟩
    refine xS 2 rfl hv rssz34 rfl (by exact ⟨rfl, rfl, rfl, rfl, trivial⟩) (fun w29 hv => ?_)
    simp only [zS, zO, sp] at hv
    refine xV 1 (.bool true) rfl hv v8sz4 rfl rfl (fun w30 hv => ?_)
    simp only [zS, zO, sp] at hv
    refine uW k26 (rR ?_)
    refine tR (bZ ?_)
    refine tR (tR ?_)
    refine bZ (tR ?_)
    refine leave_rec k2callable28 (k2rec28 _ _ _ _) (res_cells2 rfl rfl (lM 2 rswd34 hv rfl rfl rfl rfl) rfl (run_load1 s2na4 (hv.load 1 0 rfl rfl))) ?_
    exfalso; omega
   refine uG (.bool false) rfl (ex_lss rfl rfl rfl (qF hb25)) (uM rfl ?_)
   refine uF (.pointer (some ⟨b16, 2, none⟩)) rfl (k2fa78_2 _ _ _) ?_
   refine uL _ rfl (run_load1 s2na3 (hv.load 0 2 rfl rfl)) ?_
   by_cases hb31 : x.2.2 ≥ 0
   ·refine uG (.bool true) rfl (ex_geq rfl rfl rfl (qT hb31)) ?_
    refine uM rfl ?_
    refine uM rfl ?_
    refine uF (.pointer (some ⟨b16, 2, none⟩)) rfl (k2fa78_2 _ _ _) ?_
    refine uL _ rfl (run_load1 s2na3 (hv.load 0 2 rfl rfl)) ?_
    by_cases hb32 : (args.length : Int) > x.2.2
    ·refine uG (.bool true) rfl (ex_gtr rfl rfl rfl (qT hb32)) ?_
     refine uK rfl (uK rfl ?_)
     refine uW k24 (cT rfl ?_)
     refine sK fun _ k33 => rL (xC rscallable29 rfl ((viewWrong C _ _ 43 hv).mono ?_) rfl)
     rintro e w35 ⟨s34, rfl, hv⟩
     refine ⟨_, rfl, ?_⟩
     refine xS 2 rfl hv rssz34 rfl (by exact ⟨rfl, rfl, rfl, rfl, trivial⟩) (fun w36 hv => ?_)
     simp only [zS, zO, sp] at hv
     refine xV 1 (.bool true) rfl hv v8sz4 rfl rfl (fun w37 hv => ?_)
     simp only [zS, zO, sp] at hv
     refine uW k33 (rR ?_)
     refine tR (bZ ?_)
     refine tR (tR ?_)
     refine bZ (tR ?_)
     refine leave_rec k2callable28 (k2rec28 _ _ _ _) (res_cells2 rfl rfl (lM 2 rswd34 hv rfl rfl rfl rfl) rfl (run_load1 s2na4 (hv.load 1 0 rfl rfl))) ?_
     exfalso; omega
    refine uG (.bool false) rfl (ex_gtr rfl rfl rfl (qF hb32)) ?_
    refine uK rfl (uK rfl ?_)
    refine uW k24 (cF rfl ?_)
    refine kS (tK k22 ?_)
    refine sK fun _ k38 => rL (uM rfl ?_)
    refine uM rfl ?_
    refine uG (.agg #[vP v, .slice aa args.length ac]) rfl (ex_buildN (vs := #[(0, vP v), (1, .slice aa args.length ac)]) rfl (by simp only [List.map_toArray, List.map_cons, List.map_nil]; rfl) (by kernel_rfl)) (uM rfl ?_)
    replace hv := hv.front 4 rfl
    simp only [eS, eZ] at hv
    replace hv := hv.front 4 rfl
    simp only [eS, eZ] at hv
    refine xC k2callable31 rfl ((ckDoScan C _ _ v t m s p wb va vc sv clk es M (hM.more hC) aa ac args (hra.more hC (fun _ h => h)) hoka hma hkl hMl hxl hsm (hN.more hC) hv).mono ?_) rfl
    rintro e w39 ⟨D, r, cs, hD, rfl, hrp, hsr, hv⟩
    refine ⟨_, rfl, ?_⟩
    obtain ⟨rk, rs, rn, rv, rfl⟩ := rp_parts hrp
    refine xS 4 rfl hv rssz34 rfl (by exact ⟨rfl, rfl, rfl, hrp.lv.2, trivial⟩) (fun w40 hv => ?_)
    simp only [zS, zO, sp] at hv
    simp only [zP, po]
    refine xV 3 (.bool true) rfl hv v8sz4 rfl rfl (fun w41 hv => ?_)
    simp only [zS, zO, sp] at hv
    refine uW k38 (rR ?_)
    refine bZ (tR ?_)
    refine tR (bZ ?_)
    refine tR (leave_rec k2callable28 (k2rec28 _ _ _ _) (res_cells2 rfl rfl (lM 4 rswd34 hv rfl rfl rfl rfl) rfl (run_load1 s2na4 (hv.load 3 0 rfl rfl))) ?_)
    exact ⟨D, r, _, (hC.trans hD), rfl, hrp, hsr, (hv.kp [1, 1] 2 3)⟩
   refine uG (.bool false) rfl (ex_geq rfl rfl rfl (qF hb31)) ?_
   refine uM rfl ?_
   iterate 4 refine uP rfl ?_
   refine uK rfl (uK rfl ?_)
   refine uW k24 (cF rfl ?_)
   refine kS (tK k22 ?_)
   refine sK fun _ k42 => rL (uM rfl ?_)
   refine uM rfl ?_
   refine uG (.agg #[vP v, .slice aa args.length ac]) rfl (ex_buildN (vs := #[(0, vP v), (1, .slice aa args.length ac)]) rfl (by simp only [List.map_toArray, List.map_cons, List.map_nil]; rfl) (by kernel_rfl)) (uM rfl ?_)
   replace hv := hv.front 4 rfl
   simp only [eS, eZ] at hv
   replace hv := hv.front 4 rfl
   simp only [eS, eZ] at hv
   refine xC k2callable31 rfl ((ckDoScan C _ _ v t m s p wb va vc sv clk es M (hM.more hC) aa ac args (hra.more hC (fun _ h => h)) hoka hma hkl hMl hxl hsm (hN.more hC) hv).mono ?_) rfl
   rintro e w43 ⟨D, r, cs, hD, rfl, hrp, hsr, hv⟩
   refine ⟨_, rfl, ?_⟩
   obtain ⟨rk, rs, rn, rv, rfl⟩ := rp_parts hrp
   refine xS 4 rfl hv rssz34 rfl (by exact ⟨rfl, rfl, rfl, hrp.lv.2, trivial⟩) (fun w44 hv => ?_)
   simp only [zS, zO, sp] at hv
   simp only [zP, po]
   refine xV 3 (.bool true) rfl hv v8sz4 rfl rfl (fun w45 hv => ?_)
   simp only [zS, zO, sp] at hv
   refine uW k42 (rR ?_)
   refine bZ (tR ?_)
   refine tR (bZ ?_)
   refine tR (leave_rec k2callable28 (k2rec28 _ _ _ _) (res_cells2 rfl rfl (lM 4 rswd34 hv rfl rfl rfl rfl) rfl (run_load1 s2na4 (hv.load 3 0 rfl rfl))) ?_)
   exact ⟨D, r, _, (hC.trans hD), rfl, hrp, hsr, (hv.kp [1, 1] 2 3)⟩
  refine uG (.bool false) rfl (ex_lss rfl rfl rfl (qF hb12)) (uW k11 ?_)
  refine sK fun _ k46 => cF rfl (xE ?_)
  refine tX (tX ?_)
  refine bH (tK k7 ?_)
  refine sK fun _ k47 => rL (uG (.agg #[vI 0, vS [], vI 0, vN]) rfl (ex_buildN (vs := #[]) rfl (by simp only [List.map_toArray, List.map_nil]) (by kernel_rfl)) ?_)
  refine xS 1 rfl hv rssz34 rfl (by exact ⟨rfl, rfl, rfl, rfl, trivial⟩) (fun w48 hv => ?_)
  simp only [zS, zO, sp] at hv
  refine xV 0 (.bool false) rfl hv v8sz4 rfl rfl (fun w49 hv => ?_)
  simp only [zO, sp] at hv
  refine uW k47 (rR ?_)
  refine leave_rec k2callable28 (k2rec28 _ _ _ _) (res_cells2 rfl rfl (lM 1 rswd34 hv rfl rfl rfl rfl) rfl (run_load1 s2na4 (hv.load 0 0 rfl rfl))) ?_
  exfalso
  obtain ⟨y, hy, hyn⟩ := gRows_has
  obtain ⟨j, hj⟩ := List.mem_iff_getElem?.1 hy
  exact hno j y (by have := (List.getElem?_eq_some_iff.1 hj).1; omega) hj hyn
open Go.Sort
structure RelVK (M : List (List UInt8 × Ver)) (K : List KeyR) : Prop where
 so : SortedT (K.map (·.name))
 of_ : ∀ x ∈ K, lookA M x.name = some ⟨0, false, x.exp, x.val⟩
 back : ∀ k y, lookA M k = some y → y.gone = false → ∃ x ∈ K, x.name = k
theorem RelVK.nil : RelVK [] [] := ⟨List.Pairwise.nil, fun x h => (by cases h), fun k y h => (by cases h)⟩
theorem sortedT_nodup {l : List (List UInt8)} (h : SortedT l) : l.Nodup := List.Pairwise.imp (fun hab e => lt_ne hab e) h
theorem alive_live (x : KeyR) (clk : Int) : aliveB ⟨0, false, x.exp, x.val⟩ clk = liveK clk x := by
 unfold aliveB liveK
 simp only [Bool.not_false, Bool.true_and, gt_iff_lt]
section
variable {M : List (List UInt8 × Ver)} {K : List KeyR} {clk : Int} {name : List UInt8}
theorem RelVK.nodup (h : RelVK M K) : (K.map (·.name)).Nodup := sortedT_nodup h.so
theorem getK_mem {x : KeyR} (h : getK K clk name = some x) : x ∈ K ∧ x.name = name ∧ liveK clk x = true := by
 unfold getK at h
 have h2 := List.find?_some h
 simp only [Bool.and_eq_true, decide_eq_true_eq] at h2
 exact ⟨List.mem_of_find?_eq_some h, h2.1, h2.2⟩
theorem RelVK.got (h : RelVK M K) {x : KeyR} (hg : getK K clk name = some x) : lookA M name = some ⟨0, false, x.exp, x.val⟩ ∧ aliveB ⟨0, false, x.exp, x.val⟩ clk = true := by
 obtain ⟨h1, rfl, h3⟩ := getK_mem hg
 exact ⟨h.of_ x h1, by rw [alive_live]; exact h3⟩
theorem RelVK.alive (h : RelVK M K) {y : Ver} (hl : lookA M name = some y) (ha : aliveB y clk = true) : ∃ x, getK K clk name = some x ∧ y = ⟨0, false, x.exp, x.val⟩ := by
 have hg : y.gone = false := by unfold aliveB at ha; cases hy : y.gone <;> simp [hy] at ha ⊢
 obtain ⟨x, hx, rfl⟩ := h.back name y hl hg
 have h2 := h.of_ x hx
 rw [hl] at h2
 cases h2
 obtain ⟨i, hi⟩ := List.mem_iff_getElem?.1 hx
 exact ⟨x, getK_at h.nodup hi (by rw [← alive_live]; exact ha), rfl⟩
theorem RelVK.dead (h : RelVK M K) (hg : getK K clk name = none) : DeadM M clk name := by
 intro y hy
 cases ha : aliveB y clk with
 | false => rfl
 | true =>
  obtain ⟨x, h2, -⟩ := h.alive hy ha
  rw [hg] at h2; cases h2
theorem RelVK.free (h : RelVK M K) (hd : DeadM M clk name) : getK K clk name = none := by
 cases hg : getK K clk name with
 | none => rfl
 | some x =>
  obtain ⟨h1, h2⟩ := h.got hg
  rw [hd _ h1] at h2; cases h2
theorem others_sorted (h : SortedT (K.map (·.name))) : SortedT ((others K name).map (·.name)) := by
 unfold SortedT others at *
 exact h.sublist (List.Sublist.map _ (List.filter_sublist))
theorem others_iff {x : KeyR} : x ∈ others K name ↔ x ∈ K ∧ x.name ≠ name := by
 unfold others; rw [List.mem_filter]; simp
theorem RelVK.del (h : RelVK M K) : RelVK (updA M name gver) (others K name) := by
 refine ⟨others_sorted h.so, fun x hx => ?_, fun k y hl hg => ?_⟩
 ·obtain ⟨h1, h2⟩ := others_iff.1 hx
  rw [look_upd, if_neg (fun e => h2 e.symm)]
  exact h.of_ x h1
 rw [look_upd] at hl
 split at hl
 ·cases hl; cases hg
 rename_i hne
 obtain ⟨x, hx, rfl⟩ := h.back k y hl hg
 exact ⟨x, others_iff.2 ⟨hx, fun e => hne e.symm⟩, rfl⟩
theorem RelVK.put (h : RelVK M K) {v : Val} {exp : Int} {K' : List KeyR} (hi : InsK (others K name) ⟨name, v, exp⟩ K') : RelVK (updA M name ⟨0, false, exp, v⟩) K' := by
 obtain ⟨j, hj, rfl, h1, h2⟩ := hi
 have hso := others_sorted (name := name) h.so
 have hmem : ∀ x, x ∈ (others K name).take j ++ (⟨name, v, exp⟩ : KeyR) :: (others K name).drop j ↔ x = ⟨name, v, exp⟩ ∨ x ∈ others K name := by
  intro x
  rw [List.mem_append, List.mem_cons]
  constructor
  ·rintro (hx | rfl | hx)
   ·exact .inr (List.mem_of_mem_take hx)
   ·exact .inl rfl
   exact .inr (List.mem_of_mem_drop hx)
  rintro (rfl | hx)
  ·exact .inr (.inl rfl)
  rw [← List.take_append_drop j (others K name), List.mem_append] at hx
  rcases hx with hx | hx
  ·exact .inl hx
  exact .inr (.inr hx)
 refine ⟨?_, fun x hx => ?_, fun k y hl hg => ?_⟩
 ·unfold SortedT at *
  rw [List.map_append, List.map_cons, List.map_take, List.map_drop]
  rw [List.pairwise_append, List.pairwise_cons]
  have hgt : ∀ k ∈ ((others K name).map (·.name)).drop j, Op.bytesLess name k = true := by
   intro k hk
   rw [← List.map_drop] at hk
   obtain ⟨x, hx, rfl⟩ := List.mem_map.1 hk
   have hne := (others_iff.1 (List.mem_of_mem_drop hx)).2
   have hnl : Op.bytesLess x.name name = false := by
    cases hd : (others K name).drop j with
    | nil => rw [hd] at hx; cases hx
    | cons y l =>
     have hy : (others K name)[j]? = some y := by rw [← List.head?_drop, hd]; rfl
     rw [hd] at hx
     rcases List.mem_cons.1 hx with rfl | hx
     ·exact h2 _ hy
     have hs2 : ((y :: l).map (·.name)).Pairwise (fun a b => Op.bytesLess a b = true) := by rw [← hd, List.map_drop]; exact hso.sublist (List.drop_sublist _ _)
     rw [List.map_cons, List.pairwise_cons] at hs2
     exact ge_trans (h2 _ hy) (hs2.1 _ (List.mem_map.2 ⟨x, hx, rfl⟩))
   cases hlt : Op.bytesLess name x.name with
   | true => rfl
   | false => exact absurd (lt_total _ _ hnl hlt) hne
  refine ⟨hso.sublist (List.take_sublist _ _), ⟨hgt, hso.sublist (List.drop_sublist _ _)⟩, fun a ha b hb => ?_⟩
  rw [← List.map_take] at ha
  obtain ⟨x, hx, rfl⟩ := List.mem_map.1 ha
  have hxn := h1 x hx
  rcases List.mem_cons.1 hb with rfl | hb
  ·exact hxn
  exact lt_trans _ _ _ hxn (hgt b hb)
 ·rw [look_upd]
  rcases (hmem x).1 hx with rfl | hx
  ·rw [if_pos rfl]
  obtain ⟨h3, h4⟩ := others_iff.1 hx
  rw [if_neg (fun e => h4 e.symm)]
  exact h.of_ x h3
 rw [look_upd] at hl
 split at hl
 ·rename_i e
  exact ⟨⟨name, v, exp⟩, (hmem _).2 (.inl rfl), e⟩
 rename_i hne
 obtain ⟨x, hx, rfl⟩ := h.back k y hl hg
 exact ⟨x, (hmem _).2 (.inr (others_iff.2 ⟨hx, fun e => hne e.symm⟩)), rfl⟩
theorem RelVK.names (h : RelVK M K) (hnd : (M.map (·.1)).Nodup) : namesT M clk = namesR K clk := by
 have hle : ∀ a b : List UInt8, leB a b = !Op.bytesLess b a := by
  intro a b
  rw [bytesLess_eq, leB, ← decide_not]
  exact decide_eq_decide.2 List.not_lt.symm
 refine sorted_ext ?_ ?_ fun k => ?_
 ·unfold namesT
  have hp : ((M.map (·.1)).mergeSort leB).Pairwise (fun a b => leB a b = true) := List.pairwise_mergeSort (fun a b c h1 h2 => by simp only [leB, decide_eq_true_eq] at *; exact List.le_trans h1 h2) (fun a b => by simp only [leB, Bool.or_eq_true, decide_eq_true_eq]; exact List.le_total a b) _
  have hn : ((M.map (·.1)).mergeSort leB).Nodup := ((List.mergeSort_perm _ _).nodup_iff).2 hnd
  refine List.Pairwise.filter _ ((hp.and hn).imp fun {a b} hab => ?_)
  obtain ⟨h1, h2⟩ := hab
  rw [hle] at h1
  cases h3 : Op.bytesLess a b with
  | true => rfl
  | false => exact absurd (lt_total _ _ h3 (by simpa using h1)) h2
 ·unfold namesR
  exact h.so.sublist (List.Sublist.map _ List.filter_sublist)
 unfold namesT namesR
 rw [List.mem_filter, List.mem_map]
 have hmk : k ∈ (M.map (·.1)).mergeSort leB ↔ lookA M k ≠ none := by
  simp only [List.mem_mergeSort, ne_eq, look_none, Classical.not_not]
 rw [hmk]
 constructor
 ·rintro ⟨h1, h2⟩
  cases hl : lookA M k with
  | none => exact absurd hl h1
  | some y =>
   unfold deadNow at h2
   rw [hl] at h2
   simp only [Bool.not_not] at h2
   obtain ⟨x, hx, -⟩ := h.alive hl h2
   obtain ⟨h3, h4, h5⟩ := getK_mem hx
   exact ⟨x, List.mem_filter.2 ⟨h3, h5⟩, h4⟩
 rintro ⟨x, hx, rfl⟩
 obtain ⟨h1, h2⟩ := List.mem_filter.1 hx
 have h3 := h.of_ x h1
 refine ⟨by rw [h3]; simp, ?_⟩
 unfold deadNow
 rw [h3]
 simp only [Bool.not_not]
 rw [alive_live]; exact h2
end
theorem keep_ok {M M' : List (List UInt8 × Ver)} {clk exp ec : Int} {key : List UInt8} {x : Val} (hk : key.length ≤ 256) (hp : FullV x → PutOk key x exp) (h : KeepI M clk key x exp ec M') : ec = 0 ∧ ((FullV x ∧ M' = updA M key ⟨0, false, exp, x⟩) ∨ (¬ FullV x ∧ DeadM M clk key ∧ M' = M) ∨ (¬ FullV x ∧ ¬ DeadM M clk key ∧ M' = updA M key gver)) := by
 rcases h with ⟨h1, -, h2, h3⟩ | ⟨h1, h2, -⟩ | ⟨h1, h2, h3, h4⟩ | ⟨h1, ⟨y, h2, h3⟩, ⟨-, h4, h5⟩ | ⟨h4, -⟩⟩
 ·exact ⟨h2, .inl ⟨h1, h3⟩⟩
 ·exact absurd (hp h1) h2
 ·exact ⟨h3, .inr (.inl ⟨h1, h2, h4⟩)⟩
 ·exact ⟨h4, .inr (.inr ⟨h1, (fun hd => by rw [hd y h2] at h3; cases h3), h5⟩)⟩
 omega
theorem rel_step {M M' : List (List UInt8 × Ver)} {K K' : List KeyR} {clk exp : Int} {key : List UInt8} {x : Val} (hR : RelVK M K) (hm : (FullV x ∧ M' = updA M key ⟨0, false, exp, x⟩) ∨ (¬ FullV x ∧ DeadM M clk key ∧ M' = M) ∨ (¬ FullV x ∧ ¬ DeadM M clk key ∧ M' = updA M key gver)) (hk : PutK K clk key x exp K') : RelVK M' K' := by
 rcases hk with ⟨hf, rfl⟩ | ⟨hf, hi⟩
 ·rcases hm with ⟨h, -⟩ | ⟨-, hd, rfl⟩ | ⟨-, hd, rfl⟩
  ·exact absurd h hf
  ·unfold delK; rw [hR.free hd]; exact hR
  have : (getK K clk key).isSome = true := by
   cases hg : getK K clk key with
   | some x => rfl
   | none => exact absurd (hR.dead hg) hd
  unfold delK; rw [this]; exact hR.del
 rcases hm with ⟨-, rfl⟩ | ⟨h, -⟩ | ⟨h, -⟩
 ·exact hR.put hi
 ·exact absurd hf h
 exact absurd hf h
structure KeysOk (M : List (List UInt8 × Ver)) (i : Nat) : Prop where
 nd : (M.map (·.1)).Nodup
 len : M.length ≤ i
 sh : ∀ k ∈ M.map (·.1), k.length ≤ 256
theorem KeysOk.upd {M : List (List UInt8 × Ver)} {i : Nat} (h : KeysOk M i) {k : List UInt8} (hk : k.length ≤ 256) (y : Ver) : KeysOk (updA M k y) (i + 1) := by
 refine ⟨by rw [updA_keys]; exact addKey_nodup h.nd, by have := updA_len M k y; have := h.len; omega, fun k9 hk9 => ?_⟩
 rw [updA_keys] at hk9
 unfold addKey at hk9
 split at hk9
 ·exact h.sh k9 hk9
 rcases List.mem_append.1 hk9 with h9 | h9
 ·exact h.sh k9 h9
 rw [List.mem_singleton.1 h9]; exact hk
theorem KeysOk.step {M M' : List (List UInt8 × Ver)} {i : Nat} {clk exp : Int} {key : List UInt8} {x : Val} (h : KeysOk M i) (hk : key.length ≤ 256) (hm : (FullV x ∧ M' = updA M key ⟨0, false, exp, x⟩) ∨ (¬ FullV x ∧ DeadM M clk key ∧ M' = M) ∨ (¬ FullV x ∧ ¬ DeadM M clk key ∧ M' = updA M key gver)) : KeysOk M' (i + 1) := by
 rcases hm with ⟨-, rfl⟩ | ⟨-, -, rfl⟩ | ⟨-, -, rfl⟩
 ·exact h.upd hk _
 ·exact ⟨h.nd, by have := h.len; omega, h.sh⟩
 exact h.upd hk _
section
variable {M : List (List UInt8 × Ver)} {clk kd : Int} {key : List UInt8} {y : Ver} {ec : Int} {k : KeyR}
end
def vText (s : List UInt8) : Val := ⟨1, s, [], [], []⟩
theorem vText_full {s : List UInt8} : FullV (vText s) := .inl rfl
theorem vText_put {k s : List UInt8} (hk : k.length ≤ 256) (hs : s.length ≤ 4096) : PutOk k (vText s) 0 := ⟨hk, .inl ⟨rfl, hs, rfl, rfl, rfl⟩, by omega, by omega⟩
theorem vText_at {B : Base} {s : List UInt8} : ValAt B (vText s) (vN) (vN) (vN) :=
 ⟨⟨none, 0, rfl, ⟨Nat.le_refl _, Nat.zero_le _, fun _ => rfl⟩, rdV_nil⟩, ⟨none, 0, rfl, ⟨Nat.le_refl _, Nat.zero_le _, fun _ => rfl⟩, rdV_nil⟩, ⟨none, 0, rfl, ⟨Nat.le_refl _, Nat.zero_le _, fun _ => rfl⟩, rdV_nil⟩, Nat.zero_le _, Nat.zero_le _, Nat.zero_le _⟩
theorem ck_put {M M' : List (List UInt8 × Ver)} {K K' : List KeyR} {i : Nat} {clk ec : Int} {k s : List UInt8} (hR : RelVK M K) (hKO : KeysOk M i) (hk : k.length ≤ 256) (hs : s.length ≤ 4096) (hkp : KeepI M clk k (vText s) 0 ec M') (hi : InsK (others K k) ⟨k, vText s, 0⟩ K') : ec = 0 ∧ RelVK M' K' ∧ KeysOk M' (i + 1) := by
 obtain ⟨h1, hm⟩ := keep_ok hk (fun _ => vText_put hk hs) hkp
 exact ⟨h1, rel_step hR hm (.inr ⟨vText_full, hi⟩), hKO.step hk hm⟩
def ckA : List KeyR := [⟨[97], vText [49], 0⟩]
def ckB : List KeyR := [⟨[97], vText [49], 0⟩, ⟨[98], vText [50], 0⟩]
def ckC : List KeyR := [⟨[97], vText [49], 0⟩, ⟨[98], vText [50], 0⟩, ⟨[99], vText [51], 0⟩]
theorem ins_A : InsK (others [] [97]) ⟨[97], vText [49], 0⟩ ckA := ⟨0, Nat.le_refl _, rfl, fun x h => (by cases h), fun x h => (by cases h)⟩
theorem ins_B : InsK (others ckA [98]) ⟨[98], vText [50], 0⟩ ckB := by
 rw [show others ckA [98] = ckA from rfl]
 exact ⟨1, Nat.le_refl _, rfl, by decide, fun x h => (by cases h)⟩
theorem ins_C : InsK (others ckB [99]) ⟨[99], vText [51], 0⟩ ckC := by
 rw [show others ckB [99] = ckB from rfl]
 exact ⟨2, Nat.le_refl _, rfl, by decide, fun x h => (by cases h)⟩
theorem ck_names {M : List (List UInt8 × Ver)} (hR : RelVK M ckC) (hKO : KeysOk M 3) : namesT M 0 = [[97], [98], [99]] := (hR.names hKO.nd).trans (by decide)
theorem ck_scan1 {r : Rp} (h : ScanR [[97], [98], [99]] [[48], wCOUNT, [50]] r) : r = rList [rStr [50], rStrs [[97], [98]]] := by
 obtain ⟨b, hb, rfl⟩ := scan_count (names := [[97], [98], [99]]) (a := 0) (c := 2) (by decide) (by decide) (by decide) (by decide) (by rw [itoa_small 0 (by decide), itoa_small 2 (by decide)]; exact h)
 obtain rfl : b = 2 := hb
 rw [show (((if 2 < [[97], [98], ([99] : List UInt8)].length then 2 else 0 : Nat)) : Int) = ((2 : Nat) : Int) from rfl, itoa_small 2 (by decide)]
 rfl
theorem ck_scan2 {r : Rp} (h : ScanR [[97], [98], [99]] [[50], wCOUNT, [50]] r) : r = rList [rStr [48], rStrs [[99]]] := by
 obtain ⟨b, hb, rfl⟩ := scan_count (names := [[97], [98], [99]]) (a := 2) (c := 2) (by decide) (by decide) (by decide) (by decide) (by rw [itoa_small 2 (by decide)]; exact h)
 obtain rfl : b = 3 := hb
 rw [show (((if 3 < [[97], [98], ([99] : List UInt8)].length then 3 else 0 : Nat)) : Int) = ((0 : Nat) : Int) from rfl, itoa_small 0 (by decide)]
 rfl
theorem rp_two {B : Base} {s : List UInt8} {l : List (List UInt8)} {cs : List Value} (h : RpAt B (rList [rStr s, rStrs l]) cs) : ∃ b off c v0 la lc, cs = rpCells 5 [] 0 (.slice (some ⟨b, off, none⟩) 2 c) ∧ Reads B [] b (off + 0 * 4) (rpCells 3 s 0 v0) ∧ v0.cells = #[v0] ∧ v0.oneCell' = true ∧ Reads B [] b (off + 1 * 4) (rpCells 5 [] 0 (.slice la l.length lc)) ∧ RpAt B (rStrs l) (rpCells 5 [] 0 (.slice la l.length lc)) ∧ (∀ (i : Nat) x, l[i]? = some x → ∃ b2 off2 v2, la = some ⟨b2, off2, none⟩ ∧ v2.cells = #[v2] ∧ v2.oneCell' = true ∧ Reads B [] b2 (off2 + i * 4) (rpCells 3 x 0 v2)) := by
 simp only [rList, RpAt] at h
 obtain ⟨v, xs, rfl, ⟨ra, rc, rfl, hok, hr⟩, hs⟩ := h
 obtain ⟨b, off, v0, y0, rfl, h0, -, hr0⟩ := hs.reads (i := 0) hr rfl
 obtain ⟨b', off', v1, y1, e1, h1, hs1, hr1⟩ := hs.reads (i := 1) hr (show [rStr s, rStrs l][1]? = some (Rp.mk 5 [] 0 (l.map rStr)) from rfl)
 cases e1
 have hR : RpAt B (rStrs l) (rpCells 5 [] 0 v1) := rpAt_of h1 hs1
 obtain ⟨la, lc, rfl, -, hl⟩ := h1
 rw [List.length_map] at hr1 hR
 refine ⟨b, off, rc, v0, la, lc, rfl, hr0, h0.cells, h0.one, hr1, hR, fun i x hx => ?_⟩
 obtain ⟨b2, off2, v2, y2, e2, h2, -, hr2⟩ := hs1.reads (i := i) hl (show (l.map rStr)[i]? = some (Rp.mk 3 x 0 []) by rw [List.getElem?_map, hx]; rfl)
 exact ⟨b2, off2, v2, e2, h2.cells, h2.one, hr2⟩
end Go.Proofs.YtngpmolbphinnaaGreatDoor
namespace Go.Pm
open Go.RowKit
inductive Tr (α : Type) where
 | lin (is : List α)
 | fork (x : α) (t1 : Tr α) (y : α) (t2 : Tr α)
section
variable {P : Program} {ops : Array Oper} {mem perm pre is : List Nat} {R : Act → World → Prop} {Q : Exit → Act → World → Prop} {a0 a aS : Act} {listed : Array Bool} {w w' : World} {val : Nat → Value} {Fl : List (Nat × (World → Prop))} {J : World → Prop} {i : Nat} {o : Oper} {K : Act → World → Prop}
end
section
variable {P : Program} {ops : Array Oper} {mem : List Nat} {Q : Exit → Act → World → Prop} {a0 : Act}
end
section
variable {n : Nat} {P : Program} {ops : Array Oper} {Q : Exit → Act → World → Prop} {a0 : Act} {w0 : World} {B : Base} {H : List Res}
end
section
variable {P : Program} {ops : Array Oper} {mem : List Nat} {R : Act → World → Prop} {D : List (Nat × (World → Prop)) → (World → Prop) → Act → Prop} {i : Nat} {o : Oper} {is : List (Nat × Oper)} {Fl : List (Nat × (World → Prop))} {J : World → Prop} {a : Act} {v : Value} {x y : Nat × Oper} {t1 t2 : Tr (Nat × Oper)} {G : (World → Prop) → Act → Prop} {B : Base} {H : List Res} {w' : World}
end
end Go.Pm
