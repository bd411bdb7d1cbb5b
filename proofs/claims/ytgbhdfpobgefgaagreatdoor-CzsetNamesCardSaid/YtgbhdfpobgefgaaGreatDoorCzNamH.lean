/- view: options, Pages, Fits. -/
import Derived.Test.YtgbhdfpobgefgaaGreatDoorCzNamC
import Derived.Test.YtgbhdfpobgefgaaGreatDoorCzNamG
import Derived.Test.YtgbhdfpobgefgaaGreatDoorCzNamF
import Derived.Test.YtgbhdfpobgefgaaGreatDoorCzNamB
import Derived.Test.YtgbhdfpobgefgaaGreatDoorRows
import Derived.Shelf.SlIter.Collect
import Derived.Shelf.Sort.Plain
import Derived.Shelf.Slices.In.CompactS
import Derived.Shelf.Slices.In.SortNone
import Derived.Ground.NamesProg
import Derived.Ground.GgzProg
import Derived.Test.YtgbhdfpobgefgaaGreatDoorCzNamE
import Derived.Sort.KeysCollected
import Derived.Sort.OwnSorted
import Derived.Test.YtgbhdfpobgefgaaGreatDoorCzNamD
set_option maxRecDepth 100000
set_option maxHeartbeats 16000000
set_option synthInstance.maxSize 65536
set_option synthInstance.maxHeartbeats 4000000
namespace Go.Proofs.YtgbhdfpobgefgaaGreatDoor
open Go.RowKit Go.Pm
theorem res_cct {P : Program} {fn : Func} {w : World} {t u : TypeId} {v v' : Value} {r i j : Nat} (h : fn.results = #[.cell r t, .cell i u, .tmp j]) {tmps : Array Value} {ad ad' : Addr} (hr : tmps.getD r undef = .pointer (some ad)) (hl : (Instr.loadAt t (.pointer (some ad))).run P w = .ok v w)
  (hr2 : tmps.getD i undef = .pointer (some ad')) (hl2 : (Instr.loadAt u (.pointer (some ad'))).run P w = .ok v' w) : (results fn tmps).run P w = .ok (.tuple #[v, v', tmps.getD j undef]) w := by
 have hl' : (loadVar t ad).run P w = .ok v w := by simpa [Instr.loadAt, Instr.sureAddr] using hl
 have hr' : tmps[r]?.getD undef = .pointer (some ad) := by rw [← hr, Array.getD_eq_getD_getElem?]
 have hl2' : (loadVar u ad').run P w = .ok v' w := by simpa [Instr.loadAt, Instr.sureAddr] using hl2
 have hr2' : tmps[i]?.getD undef = .pointer (some ad') := by rw [← hr2, Array.getD_eq_getD_getElem?]
 simp [results, h, hr', hr2', asAddr, hl', hl2']
theorem pg_drop (l : List (List UInt8)) (i : Nat) : (textCells l).drop i = textCells (l.drop i) := by simp [textCells]
abbrev wMATCH : List UInt8 := [77, 65, 84, 67, 72]
abbrev wCOUNT : List UInt8 := [67, 79, 85, 78, 84]
theorem is2 {arg a b : List UInt8} {r : Int} (h : IsI arg [a, b] r) : (r = -1 ∧ ¬ SameC a arg ∧ ¬ SameC b arg) ∨ (r = 0 ∧ SameC a arg) ∨ (r = 1 ∧ ¬ SameC a arg ∧ SameC b arg) := by
 rcases h with ⟨rfl, h⟩ | ⟨i, x, rfl, hx, h1, h2⟩
 ·exact .inl ⟨rfl, h a (by simp), h b (by simp)⟩
 match i, hx with
 | 0, hx => cases hx; exact .inr (.inl ⟨rfl, h1⟩)
 | 1, hx => cases hx; exact .inr (.inr ⟨rfl, h2 0 a (by omega) rfl, h1⟩)
inductive OptTo (args : List (List UInt8)) : Nat → List UInt8 → List UInt8 → Bool → Bool → Prop where
 | zero : OptTo args 0 [] [] false false
 | m {i : Nat} {t0 t1 a v : List UInt8} {b1 : Bool} : OptTo args i t0 t1 false b1 → args[i]? = some a → args[i + 1]? = some v → SameC wMATCH a → OptTo args (i + 2) v t1 true b1
 | c {i : Nat} {t0 t1 a v : List UInt8} {b0 : Bool} : OptTo args i t0 t1 b0 false → args[i]? = some a → args[i + 1]? = some v → ¬ SameC wMATCH a → SameC wCOUNT a → OptTo args (i + 2) t0 v b0 true
def OptBad (args : List (List UInt8)) : Prop := args.length % 2 ≠ 0 ∨ ∃ i t0 t1 b0 b1 a, OptTo args i t0 t1 b0 b1 ∧ args[i]? = some a ∧ ((¬ SameC wMATCH a ∧ ¬ SameC wCOUNT a) ∨ (SameC wMATCH a ∧ b0 = true) ∨ (¬ SameC wMATCH a ∧ SameC wCOUNT a ∧ b1 = true))
def OptR (args : List (List UInt8)) (t0 t1 : List UInt8) (b0 b1 : Bool) (ec : Int) : Prop := (ec = 42 ∧ OptBad args) ∨ (ec = 0 ∧ args.length % 2 = 0 ∧ OptTo args args.length t0 t1 b0 b1)
theorem optTo_even {args : List (List UInt8)} {i : Nat} {t0 t1 : List UInt8} {b0 b1 : Bool} (h : OptTo args i t0 t1 b0 b1) : i % 2 = 0 := by
 induction h <;> omega
theorem v8al211 : AL Tryz.prog 211 [vS [], vS []] := fun w => by kernel_rfl
theorem v8al212 : AL Tryz.prog 212 [.bool false, .bool false] := fun w => by kernel_rfl
theorem v8wd211 : Wide Tryz.prog 211 2 := wide_of (fun w => by kernel_rfl) (by kernel_rfl)
theorem v8wd212 : Wide Tryz.prog 212 2 := wide_of (fun w => by kernel_rfl) (by kernel_rfl)
theorem v8sz211 : (Tryz.prog.info? 211).map (·.size) = some 2 := by kernel_rfl
theorem v8sz212 : (Tryz.prog.info? 212).map (·.size) = some 2 := by kernel_rfl
theorem v8callable83 : Callable Tryz.prog 83 := cb Tryz.func83 (by kernel_rfl)
theorem v8ea212 (w : World) : (sizeOf 4).run Tryz.prog w = .ok 1 w := by kernel_rfl
theorem v8ua212 : Tryz.prog.underlying 212 = some (.array 2 4) := by kernel_rfl
theorem v8ea211 (w : World) : (sizeOf 9).run Tryz.prog w = .ok 1 w := by kernel_rfl
theorem v8ua211 : Tryz.prog.underlying 211 = some (.array 2 9) := by kernel_rfl
theorem v8sz4 : (Tryz.prog.info? 4).map (·.size) = some 1 := by kernel_rfl
theorem viewOptions (B : Base) (H : List Res) (w : World) (aa : Option Addr) (ac : Nat) (args : List (List UInt8)) (hra : RdV B [] aa (textCells args)) (hma : args.length ≤ 10000) (hxl : ∀ x ∈ args, x.length ≤ 9223372036854775807) (hv : Inv B H w) :
  Calls Tryz.prog 126 #[.slice aa args.length ac] w fun e w' => ∃ t0 t1 b0 b1 ec, e = .returned (.tuple #[.agg #[vS t0, vS t1], .agg #[.bool b0, .bool b1], vI ec]) ∧ OptR args t0 t1 b0 b1 ec ∧ Inv B H w' := by
 refine cW Tryz.func126 rfl Tryz.ntmps126 ?_;simp only [al];apply uN;intro _ _;refine sl_alloc tV (wn rfl) rfl hv v8al211 (fun b2 w3 hv => ?_);refine sl_alloc tV (wn rfl) rfl hv v8al212 (fun b4 w5 hv => ?_);apply uN;intro _ _ _ _;refine oG (vI (args.length : Int)) rfl (ex_len0 Tryz.underlying22 rfl rfl) ?_;refine oG (vI ((args.length % 2 : Nat) : Int)) rfl (ex_rem (m := (args.length : Int)) (n := 2) rfl rfl rfl (by decide) rfl) ?_;refine uB (fun hb8 => ?_) fun hb8 => ?_
 ·intro _ _;refine rW mixed [2, 3] [0,1,2,3,4] 45 rfl (by kernel_rfl) hv ?_;simp only [qm, opAt];refine dL (.agg #[vS [], vS []]) rfl (fun hv => ex_load rfl rfl (lM 1 v8wd211 hv rfl rfl rfl rfl)) ?_;refine dF (.agg #[.bool false, .bool false]) rfl (fun hv => ex_load rfl rfl (lM 0 v8wd212 hv rfl rfl rfl rfl)) fun f10 hf10 => ?_
  refine dS rfl fun w11 hv => zY 1 rfl hv v8sz211 rfl (fun w12 hv => ?_) (by exact ⟨rfl, rfl, trivial⟩)
  refine dV hv (fC (fun ww hv => hf10 ww ?_) fN) ?_
  ·exact ex_load rfl rfl (lM 0 v8wd212 hv rfl rfl rfl rfl)
  simp only [zP, po];refine dS rfl fun w13 hv => zY 0 rfl hv v8sz212 rfl (fun w14 hv => ?_) (by exact ⟨rfl, rfl, trivial⟩)
  refine dV hv (fK rfl fN) ?_;apply uN;refine dE fun w15 hv => ?_
  apply uN;refine bodyPost_ret (res_cct rfl rfl (lM 1 v8wd211 hv rfl rfl rfl rfl) rfl (lM 0 v8wd212 hv rfl rfl rfl rfl)) rfl ?_;exact ⟨[], [], false, false, 42, rfl, .inl ⟨rfl, .inl (by omega)⟩, (hv.kp [] 0 2)⟩
 intro _ _ _ _;apply uN
 gi_loopw [5] (fun x5 wr => ∃ (i : Nat) (t0 t1 : List UInt8) (b0 b1 : Bool), x5 = vI i ∧ i ≤ args.length ∧ OptTo args i t0 t1 b0 b1 ∧ Inv B (Res.cell b2 [vS t0, vS t1] 211 :: Res.cell b4 [.bool b0, .bool b1] 212 :: H) wr) (fun x5 _ => args.length - (intOf x5).toNat)
 case atStart => exact ⟨0, [], [], false, false, rfl, Nat.zero_le _, .zero, (hv.front 1 rfl)⟩
 case round =>
  obtain ⟨i, t0, t1, b0, b1, rfl, hi, hot, hv⟩ := hrel;have hev : i % 2 = 0 := optTo_even hot;apply uN;intro _ _ _ _;refine oG (vI (args.length : Int)) rfl (ex_len0 Tryz.underlying22 rfl rfl) ?_;refine uB (fun hb21 => ?_) fun hb21 => ?_
  ·intro _ _ _ _;obtain ⟨x, hx⟩ : ∃ x, args[i]? = some x := ⟨_, List.getElem?_eq_getElem (show i < args.length by omega)⟩;obtain ⟨ab, ao, had, hrdx⟩ := text_reads hra hx;subst had;apply uN;refine oG (.pointer (some ⟨ab, ao + i, none⟩)) rfl (ex_index rfl rfl rfl (run_idx1 (k := i) Tryz.underlying22 s9es22 (by omega))) ?_;refine oL _ rfl (run_load1 s9na9 (hrdx _ _ _ (Base.Le.refl _) no_res hv 0 _ rfl)) ?_;refine sl_rowN (pv := #[(0, vS [77, 65, 84, 67, 72]), (1, vS [67, 79, 85, 78, 84])]) (L := [vS [77, 65, 84, 67, 72], vS [67, 79, 85, 78, 84]]) (e := 9) tV (wn rfl) rfl (by simp only [List.map_toArray, List.map_cons, List.map_nil]; rfl) hv (fun w => by kernel_rfl) (fun b24 w25 hv => ?_);obtain ⟨D1, hD1, hv, hrk, -, -⟩ := (hv.cellRow (n := 2) (c := 2) (size := 1) rfl (by decide) (by decide)).rowBy;refine xC v8callable83 rfl ((viewIs D1 _ _ x _ 2 [[77, 65, 84, 67, 72], [67, 79, 85, 78, 84]] hrk (by simp) (hxl x (List.mem_of_getElem? hx)) hv).mono ?_) rfl;rintro e w26 ⟨r, rfl, his, hv⟩;apply eR;replace hv := hv.weak hD1;rcases is2 his with ⟨rfl, hsm⟩ | ⟨rfl, hsm⟩ | ⟨rfl, hsm⟩
   ·apply uN;intro _ _ _ _;refine oG (.bool true) rfl (ex_lss rfl rfl rfl (by decide)) ?_;intro _ _;refine rW mixed [2, 3] [0,1,2,3,4] 45 rfl (by kernel_rfl) hv ?_;simp only [qm, opAt];refine dL (.agg #[vS t0, vS t1]) rfl (fun hv => ex_load rfl rfl (lM 0 v8wd211 hv rfl rfl rfl rfl)) ?_;refine dF (.agg #[.bool b0, .bool b1]) rfl (fun hv => ex_load rfl rfl (lM 1 v8wd212 hv rfl rfl rfl rfl)) fun f30 hf30 => ?_
    refine dS rfl fun w31 hv => zY 0 rfl hv v8sz211 rfl (fun w32 hv => ?_) (by exact ⟨rfl, rfl, trivial⟩)
    refine dV hv (fC (fun ww hv => hf30 ww ?_) fN) ?_
    ·exact ex_load rfl rfl (lM 1 v8wd212 hv rfl rfl rfl rfl)
    simp only [zP, po];refine dS rfl fun w33 hv => zY 1 rfl hv v8sz212 rfl (fun w34 hv => ?_) (by exact ⟨rfl, rfl, trivial⟩)
    refine dV hv (fK rfl fN) ?_;apply uN;refine dE fun w35 hv => ?_
    apply uN;refine bodyPost_ret (res_cct rfl rfl (lM 0 v8wd211 hv rfl rfl rfl rfl) rfl (lM 1 v8wd212 hv rfl rfl rfl rfl)) rfl (⟨t0, t1, b0, b1, 42, rfl, .inl ⟨rfl, .inr ⟨i, t0, t1, b0, b1, x, hot, hx, .inl hsm⟩⟩, (hv.kp [] 0 2)⟩)
   ·apply uN;intro _ _ _ _;refine oG (.bool false) rfl (ex_lss rfl rfl rfl (by decide)) ?_;refine oG (vP b4) rfl (ex_index rfl rfl rfl (run_idxA1 (k := 0) v8ua212 v8ea212 (by omega))) ?_;refine oL _ rfl (run_load1 s2na4 (hv.load 1 0 rfl rfl)) ?_;refine wpIn_cond_split (t := b0) rfl (fun hc38 => ?_) (fun hc38 => ?_)
    ·apply uN;intro _ _;refine rW mixed [2, 3] [0,1,2,3,4] 45 rfl (by kernel_rfl) hv ?_;simp only [qm, opAt];refine dL (.agg #[vS t0, vS t1]) rfl (fun hv => ex_load rfl rfl (lM 0 v8wd211 hv rfl rfl rfl rfl)) ?_;refine dF (.agg #[.bool b0, .bool b1]) rfl (fun hv => ex_load rfl rfl (lM 1 v8wd212 hv rfl rfl rfl rfl)) fun f40 hf40 => ?_
     refine dS rfl fun w41 hv => zY 0 rfl hv v8sz211 rfl (fun w42 hv => ?_) (by exact ⟨rfl, rfl, trivial⟩)
     refine dV hv (fC (fun ww hv => hf40 ww ?_) fN) ?_
     ·exact ex_load rfl rfl (lM 1 v8wd212 hv rfl rfl rfl rfl)
     simp only [zP, po];refine dS rfl fun w43 hv => zY 1 rfl hv v8sz212 rfl (fun w44 hv => ?_) (by exact ⟨rfl, rfl, trivial⟩)
     refine dV hv (fK rfl fN) ?_;apply uN;refine dE fun w45 hv => ?_
     apply uN;refine bodyPost_ret (res_cct rfl rfl (lM 0 v8wd211 hv rfl rfl rfl rfl) rfl (lM 1 v8wd212 hv rfl rfl rfl rfl)) rfl (⟨t0, t1, b0, b1, 42, rfl, .inl ⟨rfl, .inr ⟨i, t0, t1, b0, b1, x, hot, hx, .inr (.inl ⟨hsm, hc38⟩)⟩⟩, (hv.kp [] 0 2)⟩)
    apply uN;obtain ⟨x2, hx2⟩ : ∃ x, args[(i + 1 : Nat)]? = some x := ⟨_, List.getElem?_eq_getElem (show (i + 1 : Nat) < args.length by omega)⟩;obtain ⟨b9, o9, had9, hrdx2⟩ := text_reads hra hx2;cases had9;apply uN;refine oG (vI ((i + 1 : Nat) : Int)) rfl (ex_add rfl rfl rfl (by rw [i64_in (by omega)]; omega)) ?_;refine oG (.pointer (some ⟨ab, ao + (i + 1 : Nat), none⟩)) rfl (ex_index rfl rfl rfl (run_idx1 (k := (i + 1 : Nat)) Tryz.underlying22 s9es22 (by omega))) ?_;refine oL _ rfl (run_load1 s9na9 (hrdx2 _ _ _ (Base.Le.refl _) no_res hv 0 _ rfl)) ?_;refine oG (vP b2) rfl (ex_index rfl rfl rfl (run_idxA1 (k := 0) v8ua211 v8ea211 (by omega))) ?_;refine xV 0 (vS x2) rfl hv s12sz9 rfl rfl (fun w46 hv => ?_);simp only [zO, sp] at hv;refine oG (vP b4) rfl (ex_index rfl rfl rfl (run_idxA1 (k := 0) v8ua212 v8ea212 (by omega))) ?_;refine xV 1 (.bool true) rfl hv v8sz4 rfl rfl (fun w47 hv => ?_);simp only [zS, zO, sp] at hv;apply uN;refine oG (vI ((i + 2 : Nat) : Int)) rfl (ex_add rfl rfl rfl (by rw [i64_in (by omega)]; omega)) ?_;refine then_normal ?_
    go_roundw
    case rel => exact ⟨i + 2, x2, t1, true, b1, rfl, by omega, .m (by rw [hc38] at hot; exact hot) hx hx2 hsm, ((hv.front 1 rfl).front 1 rfl)⟩
    case measure => show args.length - (((i + 2 : Nat) : Int)).toNat < args.length - ((i : Int)).toNat; omega
   apply uN;intro _ _ _ _;refine oG (.bool false) rfl (ex_lss rfl rfl rfl (by decide)) ?_;refine oG (.pointer (some ⟨b4, 1, none⟩)) rfl (ex_index rfl rfl rfl (run_idxA1 (k := 1) v8ua212 v8ea212 (by omega))) ?_;refine oL _ rfl (run_load1 s2na4 (hv.load 1 1 rfl rfl)) ?_;refine wpIn_cond_split (t := b1) rfl (fun hc50 => ?_) (fun hc50 => ?_)
   ·apply uN;intro _ _;refine rW mixed [2, 3] [0,1,2,3,4] 45 rfl (by kernel_rfl) hv ?_;simp only [qm, opAt];refine dL (.agg #[vS t0, vS t1]) rfl (fun hv => ex_load rfl rfl (lM 0 v8wd211 hv rfl rfl rfl rfl)) ?_;refine dF (.agg #[.bool b0, .bool b1]) rfl (fun hv => ex_load rfl rfl (lM 1 v8wd212 hv rfl rfl rfl rfl)) fun f52 hf52 => ?_
    refine dS rfl fun w53 hv => zY 0 rfl hv v8sz211 rfl (fun w54 hv => ?_) (by exact ⟨rfl, rfl, trivial⟩)
    refine dV hv (fC (fun ww hv => hf52 ww ?_) fN) ?_
    ·exact ex_load rfl rfl (lM 1 v8wd212 hv rfl rfl rfl rfl)
    simp only [zP, po];refine dS rfl fun w55 hv => zY 1 rfl hv v8sz212 rfl (fun w56 hv => ?_) (by exact ⟨rfl, rfl, trivial⟩)
    refine dV hv (fK rfl fN) ?_;apply uN;refine dE fun w57 hv => ?_
    apply uN;refine bodyPost_ret (res_cct rfl rfl (lM 0 v8wd211 hv rfl rfl rfl rfl) rfl (lM 1 v8wd212 hv rfl rfl rfl rfl)) rfl (⟨t0, t1, b0, b1, 42, rfl, .inl ⟨rfl, .inr ⟨i, t0, t1, b0, b1, x, hot, hx, .inr (.inr ⟨hsm.1, hsm.2, hc50⟩)⟩⟩, (hv.kp [] 0 2)⟩)
   apply uN;obtain ⟨x2, hx2⟩ : ∃ x, args[(i + 1 : Nat)]? = some x := ⟨_, List.getElem?_eq_getElem (show (i + 1 : Nat) < args.length by omega)⟩;obtain ⟨b9, o9, had9, hrdx2⟩ := text_reads hra hx2;cases had9;apply uN;refine oG (vI ((i + 1 : Nat) : Int)) rfl (ex_add rfl rfl rfl (by rw [i64_in (by omega)]; omega)) ?_;refine oG (.pointer (some ⟨ab, ao + (i + 1 : Nat), none⟩)) rfl (ex_index rfl rfl rfl (run_idx1 (k := (i + 1 : Nat)) Tryz.underlying22 s9es22 (by omega))) ?_;refine oL _ rfl (run_load1 s9na9 (hrdx2 _ _ _ (Base.Le.refl _) no_res hv 0 _ rfl)) ?_;refine oG (.pointer (some ⟨b2, 1, none⟩)) rfl (ex_index rfl rfl rfl (run_idxA1 (k := 1) v8ua211 v8ea211 (by omega))) ?_;refine xV 0 (vS x2) rfl hv s12sz9 rfl rfl (fun w58 hv => ?_);simp only [zO, sp] at hv;refine oG (.pointer (some ⟨b4, 1, none⟩)) rfl (ex_index rfl rfl rfl (run_idxA1 (k := 1) v8ua212 v8ea212 (by omega))) ?_;refine xV 1 (.bool true) rfl hv v8sz4 rfl rfl (fun w59 hv => ?_);simp only [zS, zO, sp] at hv;apply uN;refine oG (vI ((i + 2 : Nat) : Int)) rfl (ex_add rfl rfl rfl (by rw [i64_in (by omega)]; omega)) ?_;refine then_normal ?_
   go_roundw
   case rel => exact ⟨i + 2, t0, x2, b0, true, rfl, by omega, .c (by rw [hc50] at hot; exact hot) hx hx2 hsm.1 hsm.2, ((hv.front 1 rfl).front 1 rfl)⟩
   case measure => show args.length - (((i + 2 : Nat) : Int)).toNat < args.length - ((i : Int)).toNat; omega
  intro _ _;refine rW mixed [2, 3] [0,1,2,3,4] 45 rfl (by kernel_rfl) hv ?_;simp only [qm, opAt];refine dL (.agg #[vS t0, vS t1]) rfl (fun hv => ex_load rfl rfl (lM 0 v8wd211 hv rfl rfl rfl rfl)) ?_;refine dF (.agg #[.bool b0, .bool b1]) rfl (fun hv => ex_load rfl rfl (lM 1 v8wd212 hv rfl rfl rfl rfl)) fun f61 hf61 => ?_
  refine dS rfl fun w62 hv => zY 0 rfl hv v8sz211 rfl (fun w63 hv => ?_) (by exact ⟨rfl, rfl, trivial⟩)
  refine dV hv (fC (fun ww hv => hf61 ww ?_) fN) ?_
  ·exact ex_load rfl rfl (lM 1 v8wd212 hv rfl rfl rfl rfl)
  simp only [zP, po];refine dS rfl fun w64 hv => zY 1 rfl hv v8sz212 rfl (fun w65 hv => ?_) (by exact ⟨rfl, rfl, trivial⟩)
  refine dV hv (fK rfl fN) ?_;apply uN;refine dE fun w66 hv => ?_
  apply uN;refine bodyPost_ret (res_cct rfl rfl (lM 0 v8wd211 hv rfl rfl rfl rfl) rfl (lM 1 v8wd212 hv rfl rfl rfl rfl)) rfl ?_;obtain rfl : i = args.length := by omega
  exact ⟨t0, t1, b0, b1, 0, rfl, .inr ⟨rfl, by omega, hot⟩, (hv.kp [] 0 2)⟩
def cntOf (t1 : List UInt8) (b1 : Bool) : List UInt8 := if b1 then t1 else [49, 48]
def PageR (n : Int) (args : List (List UInt8)) (fr to nx : Int) (mt : List UInt8) (ec : Int) : Prop :=
 (ec = 43 ∧ args = []) ∨
 ∃ a0 rest, args = a0 :: rest ∧ ((ec = 42 ∧ OptBad rest) ∨ ∃ t0 t1 b0 b1, OptR rest t0 t1 b0 b1 0 ∧
  ((ec = 41 ∧ (NumP a0 0 false ∨ NumP (cntOf t1 b1) 0 false)) ∨ ∃ k c : Int, NumP a0 k true ∧ NumP (cntOf t1 b1) c true ∧
   ((ec = 44 ∧ (k < 0 ∨ c < 1)) ∨ (ec = 0 ∧ 0 ≤ k ∧ 1 ≤ c ∧ mt = (if b0 then t0 else [42]) ∧ fr = min k (max n 0) ∧ to = fr + min c (max n 0 - fr) ∧ nx = (if to < max n 0 then to else 0)))))
def PgZ (fr to nx : Int) (mt : List UInt8) (ec : Int) : Prop := ec ≠ 0 → fr = 0 ∧ to = 0 ∧ nx = 0 ∧ mt = []
theorem PageR.bounds {n fr to nx ec : Int} {args : List (List UInt8)} {mt : List UInt8} (h : PageR n args fr to nx mt ec) (h0 : ec = 0) : 0 ≤ fr ∧ fr ≤ to ∧ to ≤ max n 0 := by
 rcases h with ⟨h1, -⟩ | ⟨a0, rest, -, ⟨h1, -⟩ | ⟨t0, t1, b0, b1, -, ⟨h1, -⟩ | ⟨k, c, -, -, ⟨h1, -⟩ | ⟨-, h1, h2, -, h3, h4, -⟩⟩⟩⟩
 all_goals omega
theorem numP_rng {s : List UInt8} {n : Int} (h : NumP s n true) : -9223372036854775808 ≤ n ∧ n ≤ 9223372036854775807 := h.elim (fun h => ⟨h.2.1, h.2.2.1⟩) (fun h => absurd h.1 (by decide))
theorem ints_two {s t : List UInt8} {ns : List Int} {ec : Int} (h : IntsR [s, t] ns ec) : (ec = 0 ∧ ∃ n m, ns = [n, m] ∧ NumP s n true ∧ NumP t m true) ∨ (ec = 41 ∧ ns = [] ∧ (NumP s 0 false ∨ NumP t 0 false)) := by
 rcases h with ⟨h1, h2, h3⟩ | ⟨h1, h2, x, hx, h3⟩
 ·match ns, h2 with
  | [n, m], _ => exact .inl ⟨h1, n, m, rfl, h3 0 s n rfl rfl, h3 1 t m rfl rfl⟩
 rcases List.mem_cons.1 hx with rfl | hx
 ·exact .inr ⟨h1, h2, .inl h3⟩
 rw [List.mem_singleton.1 hx] at h3; exact .inr ⟨h1, h2, .inr h3⟩
theorem v8al186 : AL Tryz.prog 186 [vI 0, vI 0, vI 0, vS []] := fun w => by kernel_rfl
theorem v8sz186 : (Tryz.prog.info? 186).map (·.size) = some 4 := by kernel_rfl
theorem v8wd186 : Wide Tryz.prog 186 4 := wide_of (fun w => by kernel_rfl) (by kernel_rfl)
theorem v8callable126 : Callable Tryz.prog 126 := cb Tryz.func126 (by kernel_rfl)
theorem v8callable71 : Callable Tryz.prog 71 := cb Tryz.func71 (by kernel_rfl)
theorem v8fa186_0 : FA Tryz.prog 186 0 0 := fun w b o => by kernel_rfl
theorem v8fa186_1 : FA Tryz.prog 186 1 1 := fun w b o => by kernel_rfl
theorem v8fa186_2 : FA Tryz.prog 186 2 2 := fun w b o => by kernel_rfl
theorem viewPagesZ (B : Base) (H : List Res) (w : World) (n : Int) (hn0 : -9223372036854775808 ≤ n) (hn1 : n ≤ 9223372036854775807) (aa : Option Addr) (ac : Nat) (args : List (List UInt8)) (hra : RdV B [] aa (textCells args)) (hma : args.length ≤ 10000) (hxl : ∀ x ∈ args, x.length ≤ 9223372036854775807) (hoka : SliceOk aa args.length ac) (hN : NumB B) (hv : Inv B H w) :
  Calls Tryz.prog 95 #[vI n, .slice aa args.length ac] w fun e w' => ∃ fr to nx mt ec, e = .returned (.tuple #[.agg #[vI fr, vI to, vI nx, vS mt], vI ec]) ∧ PgZ fr to nx mt ec ∧ PageR n args fr to nx mt ec ∧ Inv B H w' := by
 refine cW Tryz.func95 rfl Tryz.ntmps95 ?_;simp only [al];apply uN;intro _ _;refine sl_alloc tV (wn rfl) rfl hv v8al186 (fun b2 w3 hv => ?_);apply uN;intro _ _ _ _;refine oG (vI (args.length : Int)) rfl (ex_len0 Tryz.underlying22 rfl rfl) ?_;refine uB (fun hb6 => ?_) fun hb6 => ?_
 ·intro _ _;refine oG (.agg #[vI 0, vI 0, vI 0, vS []]) rfl (ex_buildN (vs := #[]) rfl (by simp only [List.map_toArray, List.map_nil]) (by kernel_rfl)) ?_;refine zX 0 rfl hv v8sz186 rfl fun w8 hv => ?_
  apply uN;refine bodyPost_ret (res_cell2 rfl rfl (lM 0 v8wd186 hv rfl rfl rfl rfl)) rfl (⟨0, 0, 0, [], 43, rfl, fun _ => ⟨rfl, rfl, rfl, rfl⟩, .inl ⟨rfl, List.eq_nil_of_length_eq_zero (by omega)⟩, ((hv.kp [] 0 1)).weak (Base.Le.refl _)⟩)
 intro _ _;have hal : 1 ≤ args.length := by omega
 have hd1 : (args.drop 1).length = args.length - 1 := List.length_drop;obtain ⟨a3, c3, ha3, ok3, hr3⟩ := sliced_fromV 1 hoka hra (textCells_len args) hal (by decide);rw [Nat.mul_one, pg_drop] at hr3;obtain ⟨a0, rest, hargs⟩ : ∃ a l, args = a :: l := by cases args with | nil => simp at hal | cons a l => exact ⟨a, l, rfl⟩
 have hdr : args.drop 1 = rest := by rw [hargs]; rfl
 apply uN;refine oG (.slice a3 ((args.drop 1).length) c3) rfl (ex_slice (lo' := some (vI ((1 : Nat) : Int))) rfl rfl (congrArg some rfl) rfl rfl ((run_fromAny Tryz.underlying22 s9es22 (by omega)).trans (by rw [ha3, hd1]))) ?_;refine xC v8callable126 rfl ((viewOptions B _ _ a3 c3 (args.drop 1) hr3 (by omega) (fun x hx => hxl x (List.mem_of_mem_drop hx)) hv).mono ?_) rfl;rintro e w10 ⟨t0, t1, b0, b1, eo, rfl, hopt, hv⟩;apply eR;refine sl_alloc tV (wn rfl) rfl hv v8al211 (fun b11 w12 hv => ?_);simp only [zP, po];refine sl_alloc tV (wn rfl) rfl hv v8al212 (fun b13 w14 hv => ?_);simp only [zP, po];refine zX 1 rfl hv v8sz211 rfl (fun w15 hv => ?_) (by exact ⟨rfl, rfl, trivial⟩);simp only [zP, po];refine zX 0 rfl hv v8sz212 rfl (fun w16 hv => ?_) (by exact ⟨rfl, rfl, trivial⟩);apply uN;intro _ _ _ _;refine uB (fun hb19 => ?_) fun hb19 => ?_
 ·intro _ _;refine oG (.agg #[vI 0, vI 0, vI 0, vS []]) rfl (ex_buildN (vs := #[]) rfl (by simp only [List.map_toArray, List.map_nil]) (by kernel_rfl)) ?_;refine zX 2 rfl hv v8sz186 rfl fun w21 hv => ?_
  apply uN;refine bodyPost_ret (res_cell2 rfl rfl (lM 2 v8wd186 hv rfl rfl rfl rfl)) rfl ?_;rw [hdr] at hopt;refine ⟨0, 0, 0, [], eo, rfl, fun _ => ⟨rfl, rfl, rfl, rfl⟩, .inr ⟨a0, rest, hargs, .inl ?_⟩, ((hv.kp [] 0 3)).weak (Base.Le.refl _)⟩;rcases hopt with ⟨h1, h2⟩ | ⟨h1, -⟩
  ·exact ⟨h1, h2⟩
  omega
 intro _ _;apply uN;intro K23 k23;replace k23 := k23.h;have hJ23 : ∀ (mt : List UInt8) (j28 j29 j30 j31 : Value) (w24 : World), (mt = (if b0 then t0 else [42])) → Inv B (Res.cell b13 [.bool b0, .bool b1] 212 :: Res.cell b11 [vS t0, vS t1] 211 :: Res.cell b2 [vI 0, vI 0, vI 0, vS []] 186 :: H) w24 → K23 { tmps := List.toArray (vI n :: .slice aa args.length ac :: undef :: undef :: vP b2 :: vI 0 :: vP b11 :: vP b13 :: vI eo :: vS mt :: vS [49, 48] :: undef :: undef :: .slice aa args.length ac :: vI (args.length : Int) :: .bool false :: undef :: .tuple #[.agg #[vS t0, vS t1], .agg #[.bool b0, .bool b1], vI eo] :: .slice aa args.length ac :: .slice a3 ((args.drop 1).length) c3 :: .tuple #[.agg #[vS t0, vS t1], .agg #[.bool b0, .bool b1], vI eo] :: .agg #[vS t0, vS t1] :: .agg #[.bool b0, .bool b1] :: vI eo :: vI eo :: .bool false :: undef :: undef :: j28 :: j29 :: j30 :: j31 :: undef :: undef :: undef :: undef :: undef :: undef :: undef :: undef :: undef :: undef :: undef :: undef :: undef :: undef :: undef :: undef :: undef :: undef :: undef :: undef :: undef :: undef :: undef :: undef :: undef :: undef :: undef :: undef :: undef :: undef :: undef :: undef :: undef :: undef :: undef :: undef :: undef :: undef :: undef :: undef :: undef :: undef :: undef :: undef :: undef :: undef :: undef :: undef :: undef :: undef :: undef :: undef :: undef :: undef :: undef :: undef :: undef :: []), defers := [] } w24 := by
  intro mt j28 j29 j30 j31 w24 hmt hv;refine k23 _ _ ?_;apply uN;intro K25 k25;replace k25 := k25.h;have hJ25 : ∀ (cnt : List UInt8) (j32 j33 j34 j35 : Value) (w26 : World), (cntOf t1 b1 = cnt) → Inv B (Res.cell b13 [.bool b0, .bool b1] 212 :: Res.cell b11 [vS t0, vS t1] 211 :: Res.cell b2 [vI 0, vI 0, vI 0, vS []] 186 :: H) w26 → K25 { tmps := List.toArray (vI n :: .slice aa args.length ac :: undef :: undef :: vP b2 :: vI 0 :: vP b11 :: vP b13 :: vI eo :: vS mt :: vS cnt :: undef :: undef :: .slice aa args.length ac :: vI (args.length : Int) :: .bool false :: undef :: .tuple #[.agg #[vS t0, vS t1], .agg #[.bool b0, .bool b1], vI eo] :: .slice aa args.length ac :: .slice a3 ((args.drop 1).length) c3 :: .tuple #[.agg #[vS t0, vS t1], .agg #[.bool b0, .bool b1], vI eo] :: .agg #[vS t0, vS t1] :: .agg #[.bool b0, .bool b1] :: vI eo :: vI eo :: .bool false :: undef :: undef :: j28 :: j29 :: j30 :: j31 :: j32 :: j33 :: j34 :: j35 :: undef :: undef :: undef :: undef :: undef :: undef :: undef :: undef :: undef :: undef :: undef :: undef :: undef :: undef :: undef :: undef :: undef :: undef :: undef :: undef :: undef :: undef :: undef :: undef :: undef :: undef :: undef :: undef :: undef :: undef :: undef :: undef :: undef :: undef :: undef :: undef :: undef :: undef :: undef :: undef :: undef :: undef :: undef :: undef :: undef :: undef :: undef :: undef :: undef :: undef :: undef :: undef :: undef :: []), defers := [] } w26 := by
   intro cnt j32 j33 j34 j35 w26 hcn hv;refine k25 _ _ ?_;apply uN;intro _ _;obtain ⟨ab, ao, had, hrdx0⟩ := text_reads hra (show args[0]? = some a0 by rw [hargs]; rfl);subst had;apply uN;refine oG (.pointer (some ⟨ab, ao + 0, none⟩)) rfl (ex_index rfl rfl rfl (run_idx1 (k := 0) Tryz.underlying22 s9es22 (by first | omega | simp))) ?_;refine oL _ rfl (run_load1 s9na9 (hrdx0 _ _ _ (Base.Le.refl _) no_res hv 0 _ rfl)) ?_;refine sl_rowN (pv := #[(0, vS a0), (1, vS cnt)]) (L := [vS a0, vS cnt]) (e := 9) tV (wn rfl) rfl (by simp only [List.map_toArray, List.map_cons, List.map_nil]; rfl) hv (fun w => by kernel_rfl) (fun b28 w29 hv => ?_);simp only [zP, po];obtain ⟨D1, hD1, hv, hrk, -, -⟩ := (hv.cellRow (n := 2) (c := 2) (size := 1) rfl (by decide) (by decide)).rowBy;refine xC v8callable71 rfl ((viewInts D1 _ _ _ 2 [a0, cnt] hrk (by simp) (hN.more hD1) hv).mono ?_) rfl;rintro e w30 ⟨E, ia, ic, ns, ei, hE, rfl, hri, hir, hv⟩;apply eR;have heo : eo = 0 := by omega
   subst heo;rcases ints_two hir with ⟨rfl, n0, n1, rfl, hn0, hn1⟩ | ⟨rfl, rfl, hnb⟩
   ·have hr0 := numP_rng hn0;have hr1 := numP_rng hn1;obtain ⟨ib, io, had, hrd0⟩ := int_reads hri (show [n0, n1][0]? = some n0 from rfl);obtain ⟨ib9, io9, had9, hrd1⟩ := int_reads hri (show [n0, n1][1]? = some n1 from rfl);subst had;cases had9;apply uN;intro _ _ _ _;refine oG (.bool false) rfl (ex_neq rfl rfl rfl (by decide)) ?_;intro _ _ _ _;refine oG (.pointer (some ⟨ib, io + 0, none⟩)) rfl (ex_index rfl rfl rfl (run_idx1 (k := 0) Tryz.underlying23 s11es23 (by first | omega | simp))) ?_;refine oL _ rfl (run_load1 s2na3 (hrd0 _ _ _ (Base.Le.refl _) no_res hv 0 _ rfl)) ?_;refine uB (fun hb35 => ?_) fun hb35 => ?_
    ·intro _ _;refine oG (.agg #[vI 0, vI 0, vI 0, vS []]) rfl (ex_buildN (vs := #[]) rfl (by simp only [List.map_toArray, List.map_nil]) (by kernel_rfl)) ?_;refine zX 2 rfl hv v8sz186 rfl fun w37 hv => ?_
     apply uN;refine bodyPost_ret (res_cell2 rfl rfl (lM 2 v8wd186 hv rfl rfl rfl rfl)) rfl ?_;rw [hdr] at hopt;have hn1c : NumP (cntOf t1 b1) n1 true := by rw [hcn]; exact hn1
     exact ⟨0, 0, 0, [], 44, rfl, fun _ => ⟨rfl, rfl, rfl, rfl⟩, .inr ⟨a0, rest, hargs, .inr ⟨t0, t1, b0, b1, hopt, .inr ⟨n0, n1, hn0, hn1c, .inl ⟨rfl, by omega⟩⟩⟩⟩, ((hv.kp [] 0 3)).weak (hD1.trans hE)⟩
    refine oG (.pointer (some ⟨ib, io + 1, none⟩)) rfl (ex_index rfl rfl rfl (run_idx1 (k := 1) Tryz.underlying23 s11es23 (by first | omega | simp))) ?_;refine oL _ rfl (run_load1 s2na3 (hrd1 _ _ _ (Base.Le.refl _) no_res hv 0 _ rfl)) ?_;refine uB (fun hb38 => ?_) fun hb38 => ?_
    ·intro _ _;refine oG (.agg #[vI 0, vI 0, vI 0, vS []]) rfl (ex_buildN (vs := #[]) rfl (by simp only [List.map_toArray, List.map_nil]) (by kernel_rfl)) ?_;refine zX 2 rfl hv v8sz186 rfl fun w40 hv => ?_
     apply uN;refine bodyPost_ret (res_cell2 rfl rfl (lM 2 v8wd186 hv rfl rfl rfl rfl)) rfl ?_;rw [hdr] at hopt;have hn1c : NumP (cntOf t1 b1) n1 true := by rw [hcn]; exact hn1
     exact ⟨0, 0, 0, [], 44, rfl, fun _ => ⟨rfl, rfl, rfl, rfl⟩, .inr ⟨a0, rest, hargs, .inr ⟨t0, t1, b0, b1, hopt, .inr ⟨n0, n1, hn0, hn1c, .inl ⟨rfl, by omega⟩⟩⟩⟩, ((hv.kp [] 0 3)).weak (hD1.trans hE)⟩
    intro _ _;refine oG (vI (max n 0)) rfl (ex_max2 (m := n) (n := 0) rfl rfl rfl (by split <;> omega)) ?_;intro _ _;have hk0 : 0 ≤ n0 := by omega
    have hk1 : 1 ≤ n1 := by omega
    apply uN;refine oG (.pointer (some ⟨ib, io + 0, none⟩)) rfl (ex_index rfl rfl rfl (run_idx1 (k := 0) Tryz.underlying23 s11es23 (by first | omega | simp))) ?_;refine oL _ rfl (run_load1 s2na3 (hrd0 _ _ _ (Base.Le.refl _) no_res hv 0 _ rfl)) ?_;refine oG (vI (min n0 (max n 0))) rfl (ex_min2 (m := n0) (n := (max n 0)) rfl rfl rfl (by split <;> omega)) ?_;refine oG (.agg #[vI (min n0 (max n 0)), vI 0, vI 0, vS mt]) rfl (ex_buildN (vs := #[(0, vI (min n0 (max n 0))), (3, vS mt)]) rfl (by simp only [List.map_toArray, List.map_cons, List.map_nil]; rfl) (by kernel_rfl)) ?_;refine sl_alloc tV (wn rfl) rfl hv v8al186 (fun b43 w44 hv => ?_);simp only [zP, po];refine zX 0 rfl hv v8sz186 rfl fun w45 hv => ?_
    apply uN;intro _ _;refine rW mixed [12] [0,1,2,3,4,5,6,7,8,9,10,11,12] 89 rfl (by kernel_rfl) hv ?_;simp only [qm, opAt];refine dG (vP b43) rfl (ex_field rfl rfl (v8fa186_0 _ _ _)) ?_;refine dL _ rfl (fun hv => ex_load rfl rfl (run_load1 s2na3 (hv.load 0 0 rfl rfl))) ?_;apply uN;refine dG (.pointer (some ⟨ib, io + 1, none⟩)) rfl (ex_index rfl rfl rfl (run_idx1 (k := 1) Tryz.underlying23 s11es23 (by first | omega | simp))) ?_;refine dL _ rfl (fun hv => ex_load rfl rfl (run_load1 s2na3 (hrd1 _ _ _ (Base.Le.refl _) no_res hv 0 _ rfl))) ?_;apply uN;refine dG (vP b43) rfl (ex_field rfl rfl (v8fa186_0 _ _ _)) ?_;refine dL _ rfl (fun hv => ex_load rfl rfl (run_load1 s2na3 (hv.load 0 0 rfl rfl))) ?_;refine dG (vI (max n 0 - (min n0 (max n 0)))) rfl (ex_sub rfl rfl rfl (by rw [i64_in (by omega)])) ?_;simp only [zP, po];refine dG (vI (min n1 (max n 0 - (min n0 (max n 0))))) rfl (ex_min2 (m := n1) (n := (max n 0 - (min n0 (max n 0)))) rfl rfl rfl (by split <;> omega)) ?_;refine dG (vI ((min n0 (max n 0)) + min n1 (max n 0 - (min n0 (max n 0))))) rfl (ex_add rfl rfl rfl (by rw [i64_in (by omega)])) ?_;refine dG (.pointer (some ⟨b43, 1, none⟩)) rfl (ex_field rfl rfl (v8fa186_1 _ _ _)) ?_;simp only [zP, po];refine dS rfl fun w47 hv => mV 0 (vI ((min n0 (max n 0)) + min n1 (max n 0 - (min n0 (max n 0))))) rfl hv x3sz3 rfl rfl (fun w48 hv => ?_)
    simp only [zO, sp] at hv;refine dW hv (dE fun w49 hv => ?_);apply uN;intro _ _ _ _;refine oF (.pointer (some ⟨b43, 1, none⟩)) rfl (v8fa186_1 _ _ _) ?_;refine oL _ rfl (run_load1 s2na3 (hv.load 0 1 rfl rfl)) ?_;refine uB (fun hb52 => ?_) fun hb52 => ?_
    ·refine oF (.pointer (some ⟨b43, 1, none⟩)) rfl (v8fa186_1 _ _ _) ?_;refine oL _ rfl (run_load1 s2na3 (hv.load 0 1 rfl rfl)) ?_;refine oF (.pointer (some ⟨b43, 2, none⟩)) rfl (v8fa186_2 _ _ _) ?_;refine xV 0 (vI ((min n0 (max n 0)) + min n1 (max n 0 - (min n0 (max n 0))))) rfl hv x3sz3 rfl rfl (fun w53 hv => ?_);simp only [zO, sp] at hv;apply uN;intro _ _;refine oL (.agg #[vI (min n0 (max n 0)), vI ((min n0 (max n 0)) + min n1 (max n 0 - (min n0 (max n 0)))), vI ((min n0 (max n 0)) + min n1 (max n 0 - (min n0 (max n 0)))), vS mt]) rfl (lM 0 v8wd186 hv rfl rfl rfl rfl) ?_;refine zX 3 rfl hv v8sz186 rfl fun w55 hv => ?_
     apply uN;refine bodyPost_ret (res_cell2 rfl rfl (lM 3 v8wd186 hv rfl rfl rfl rfl)) rfl ?_;rw [hdr] at hopt;have hn1c : NumP (cntOf t1 b1) n1 true := by rw [hcn]; exact hn1
     exact ⟨(min n0 (max n 0)), ((min n0 (max n 0)) + min n1 (max n 0 - (min n0 (max n 0)))), ((min n0 (max n 0)) + min n1 (max n 0 - (min n0 (max n 0)))), mt, 0, rfl, fun h9 => absurd rfl h9, .inr ⟨a0, rest, hargs, .inr ⟨t0, t1, b0, b1, hopt, .inr ⟨n0, n1, hn0, hn1c, .inr ⟨rfl, hk0, hk1, hmt, rfl, rfl, by rw [if_pos (by omega)]⟩⟩⟩⟩, ((hv.kp [] 0 4)).weak (hD1.trans hE)⟩
    intro _ _;refine oL (.agg #[vI (min n0 (max n 0)), vI ((min n0 (max n 0)) + min n1 (max n 0 - (min n0 (max n 0)))), vI 0, vS mt]) rfl (lM 0 v8wd186 hv rfl rfl rfl rfl) ?_;refine zX 3 rfl hv v8sz186 rfl fun w57 hv => ?_
    apply uN;refine bodyPost_ret (res_cell2 rfl rfl (lM 3 v8wd186 hv rfl rfl rfl rfl)) rfl ?_;rw [hdr] at hopt;have hn1c : NumP (cntOf t1 b1) n1 true := by rw [hcn]; exact hn1
    exact ⟨(min n0 (max n 0)), ((min n0 (max n 0)) + min n1 (max n 0 - (min n0 (max n 0)))), 0, mt, 0, rfl, fun h9 => absurd rfl h9, .inr ⟨a0, rest, hargs, .inr ⟨t0, t1, b0, b1, hopt, .inr ⟨n0, n1, hn0, hn1c, .inr ⟨rfl, hk0, hk1, hmt, rfl, rfl, by rw [if_neg (by omega)]⟩⟩⟩⟩, ((hv.kp [] 0 4)).weak (hD1.trans hE)⟩
   apply uN;intro _ _ _ _;refine oG (.bool true) rfl (ex_neq rfl rfl rfl (by decide)) ?_;intro _ _;refine oG (.agg #[vI 0, vI 0, vI 0, vS []]) rfl (ex_buildN (vs := #[]) rfl (by simp only [List.map_toArray, List.map_nil]) (by kernel_rfl)) ?_;refine zX 2 rfl hv v8sz186 rfl fun w61 hv => ?_
   apply uN;refine bodyPost_ret (res_cell2 rfl rfl (lM 2 v8wd186 hv rfl rfl rfl rfl)) rfl ?_;rw [hdr] at hopt;exact ⟨0, 0, 0, [], 41, rfl, fun _ => ⟨rfl, rfl, rfl, rfl⟩, .inr ⟨a0, rest, hargs, .inr ⟨t0, t1, b0, b1, hopt, .inl ⟨rfl, by rw [hcn]; exact hnb⟩⟩⟩, ((hv.kp [] 0 3)).weak (hD1.trans hE)⟩
  apply uN;intro _ _;refine oG (.pointer (some ⟨b13, 1, none⟩)) rfl (ex_index rfl rfl rfl (run_idxA1 (k := 1) v8ua212 v8ea212 (by omega))) ?_;refine oL _ rfl (run_load1 s2na4 (hv.load 0 1 rfl rfl)) ?_;refine wpIn_cond_split (t := b1) rfl (fun hc63 => ?_) (fun hc63 => ?_)
  ·apply uN;refine oG (.pointer (some ⟨b11, 1, none⟩)) rfl (ex_index rfl rfl rfl (run_idxA1 (k := 1) v8ua211 v8ea211 (by omega))) ?_;refine oL _ rfl (run_load1 s9na9 (hv.load 1 1 rfl rfl)) ?_;refine then_normal (hJ25 t1 _ _ _ _ _ (by rw [hc63]; rfl) hv)
  apply uN;refine then_normal (hJ25 ([49, 48] : List UInt8) _ _ _ _ _ (by rw [hc63]; rfl) hv)
 apply uN;intro _ _;refine oG (vP b13) rfl (ex_index rfl rfl rfl (run_idxA1 (k := 0) v8ua212 v8ea212 (by omega))) ?_;refine oL _ rfl (run_load1 s2na4 (hv.load 0 0 rfl rfl)) ?_;refine wpIn_cond_split (t := b0) rfl (fun hc65 => ?_) (fun hc65 => ?_)
 ·apply uN;refine oG (vP b11) rfl (ex_index rfl rfl rfl (run_idxA1 (k := 0) v8ua211 v8ea211 (by omega))) ?_;refine oL _ rfl (run_load1 s9na9 (hv.load 1 0 rfl rfl)) ?_;refine then_normal (hJ23 t0 _ _ _ _ _ (by rw [hc65]; rfl) hv)
 apply uN;refine then_normal (hJ23 ([42] : List UInt8) _ _ _ _ _ (by rw [hc65]; rfl) hv)
theorem viewPages (B : Base) (H : List Res) (w : World) (n : Int) (hn0 : -9223372036854775808 ≤ n) (hn1 : n ≤ 9223372036854775807) (aa : Option Addr) (ac : Nat) (args : List (List UInt8)) (hra : RdV B [] aa (textCells args)) (hma : args.length ≤ 10000) (hxl : ∀ x ∈ args, x.length ≤ 9223372036854775807) (hoka : SliceOk aa args.length ac) (hN : NumB B) (hv : Inv B H w) : Calls Tryz.prog 95 #[vI n, .slice aa args.length ac] w fun e w' => ∃ fr to nx mt ec, e = .returned (.tuple #[.agg #[vI fr, vI to, vI nx, vS mt], vI ec]) ∧ PageR n args fr to nx mt ec ∧ Inv B H w' := by
 refine (viewPagesZ B H w n hn0 hn1 aa ac args hra hma hxl hoka hN hv).mono ?_;rintro e w' ⟨fr, to, nx, mt, ec, h1, -, h2, h3⟩;exact ⟨fr, to, nx, mt, ec, h1, h2, h3⟩
theorem v8fa186_3 : FA Tryz.prog 186 3 3 := fun w b o => by kernel_rfl
theorem v8callable127 : Callable Tryz.prog 127 := cb Tryz.func127 (by kernel_rfl)
theorem pageFits (B : Base) (H : List Res) (w : World) (fr to nx : Int) (mt s : List UInt8) (hm : mt.length ≤ 1000000) (hs : s.length ≤ 1000000) (hv : Inv B H w) :
  Calls Tryz.prog 96 #[.agg #[vI fr, vI to, vI nx, vS mt], vS s] w fun e w' => ∃ b, e = .returned (.bool b) ∧ (b = true ↔ MatchP (divS mt true 0) s) ∧ Inv B H w' := by
 refine cW Tryz.func96 rfl Tryz.ntmps96 ?_;simp only [al];apply uN;intro _ _;refine sl_box (L := [vI fr, vI to, vI nx, vS mt]) tV (wn rfl) rfl rfl hv (fun w => by kernel_rfl) (fun b2 w3 hv => ?_);apply uN;intro _ _;refine oF (.pointer (some ⟨b2, 3, none⟩)) rfl (v8fa186_3 _ _ _) ?_;refine oL _ rfl (run_load1 s9na9 (hv.load 0 3 rfl rfl)) ?_;refine xC v8callable127 rfl ((globMatch B _ _ mt hm s hs hv).mono ?_) rfl;rintro e w5 ⟨b, rfl, hb, hv⟩;apply eR;refine bR rfl rfl (⟨b, rfl, hb, (hv.kp [] 0 1)⟩)
theorem valAt_open {C : Base} {v : Val} {p t z : Value} (h : ValAt C v p t z) : ∃ pa pc sa sc za zc, p = .slice pa v.pairs.length pc ∧ t = .slice sa v.texts.length sc ∧ z = .slice za v.zset.length zc ∧ SliceOk pa v.pairs.length pc ∧ RdV C [] pa (pairCells v.pairs) ∧ SliceOk sa v.texts.length sc ∧ RdV C [] sa (textCells v.texts) ∧ SliceOk za v.zset.length zc ∧ RdV C [] za (memCells v.zset) := by
 obtain ⟨⟨a1, c1, h1, h2, h3⟩, ⟨a2, c2, h4, h5, h6⟩, ⟨a3, c3, h7, h8, h9⟩, -⟩ := h;exact ⟨a1, c1, a2, c2, a3, c3, h1, h4, h7, h2, h3, h5, h6, h8, h9⟩
theorem tx_take (l : List (List UInt8)) (i : Nat) : (textCells l).take i = textCells (l.take i) := by simp [textCells]
theorem tx_drop (l : List (List UInt8)) (i : Nat) : (textCells l).drop i = textCells (l.drop i) := by simp [textCells]
theorem sliced_midV {B : Base} {ad : Option Addr} {n c l h : Nat} {xs : List Value} (size : Nat) (hok : SliceOk ad n c) (hr : RdV B [] ad xs) (hl : xs.length = n * size) (hlh : l ≤ h) (hh : h ≤ n) (hz : 0 < size) : ∃ a2 c2, sliced ad l h c size = .slice a2 (h - l) c2 ∧ SliceOk a2 (h - l) c2 ∧ RdV B [] a2 ((xs.drop (l * size)).take ((h - l) * size)) := by
 obtain ⟨a2, c2, h1, h2, h3⟩ := sliced_fromV size hok hr hl (show l ≤ n by omega) hz;have e : sliced ad l h c size = .slice a2 (h - l) c2 := by
  unfold sliced at h1 ⊢
  split at h1 <;> rename_i hc <;> simp only [hc, if_true, if_false] at h1 ⊢ <;> (injection h1 with e1 e2 e3; subst e1 e3; rfl)
 refine ⟨a2, c2, e, ⟨by have := h2.le; omega, h2.max, h2.nil⟩, fun i hi => ?_⟩;rw [List.length_take] at hi;obtain ⟨b, off, h5, h6⟩ := h3 i (by omega);refine ⟨b, off, h5, ?_⟩;rw [List.getElem_take];exact h6
section
variable {P : Program} {t : TypeId} {w : World}
theorem run_lhAny {ad : Option Addr} {n c l h size : Nat} (ht : P.underlying t = some (.slice (P.elem t))) (hs : ∀ w, (sizeOf (P.elem t)).run P w = .ok size w) (h1 : l ≤ h) (h2 : h ≤ c) :
  (Instr.sliceAt t (.slice ad n c) (some (vI l)) (some (vI h)) none).run P w = .ok (sliced ad l h c size) w := by
 rw [run_sliceAt_slice w t _ _ _ _ ht, run_slice_lh w t _ n c ht .i64 .i64 l h (by omega) (by omega) (by omega), hs];simp only [Result.andThen, Int.toNat_natCast]
theorem run_lhAnyI {ad : Option Addr} {n c l h size : Nat} {x y : Int} (hx : x = (l : Int)) (hy : y = (h : Int)) (ht : P.underlying t = some (.slice (P.elem t))) (hs : ∀ w, (sizeOf (P.elem t)).run P w = .ok size w) (h1 : l ≤ h) (h2 : h ≤ c) :
  (Instr.sliceAt t (.slice ad n c) (some (vI x)) (some (vI y)) none).run P w = .ok (sliced ad l h c size) w := by
 subst hx hy; exact run_lhAny ht hs h1 h2
end
def tleaf (s : List UInt8) : Leaf := ⟨3, s, 0⟩
theorem strs_leaf (l : List (List UInt8)) : strsCells l = lvC (l.map tleaf) none := by
 show l.flatMap _ = (l.map tleaf).flatMap leafN;rw [List.flatMap_map]; rfl
theorem listIn_two {B : Base} {s : List UInt8} {l : List (List UInt8)} {a : Option Addr} {c : Nat} (hok : SliceOk a l.length c) (hr : RdV B [] a (strsCells l)) (hm : l.length ≤ 1000000) :
  ListIn B 2 (rpCells 3 s 0 (vN) ++ rpCells 5 [] 0 (.slice a l.length c)) (rList [rStr s, rStrs l]) := by
 refine .inr ⟨[⟨3, s, 0⟩], l.map tleaf, ⟨5, [], 0⟩, a, c, rfl, ?_, ?_, ?_, ?_, ?_⟩
 ·rw [List.length_map]; rfl
 ·rw [List.length_map]; exact hok
 ·rw [← strs_leaf]; exact hr
 ·rw [List.length_map]; exact hm
 rw [List.map_map]; rfl
abbrev Tx := List (List UInt8)
section
variable {M M' : List (List UInt8 × Ver)} {clk exp ec : Int} {key : List UInt8} {x : Val} {y : Ver}
end
section
variable {M M' : List (List UInt8 × Ver)} {clk : Int} {key k l : List UInt8} {xs : Tx} {r : Rp} {front there fr to : Bool}
end
theorem NumP.uniq {s : List UInt8} {n m : Int} {b c : Bool} (h : NumP s n b) (h2 : NumP s m c) : n = m ∧ b = c := by
 rcases h with ⟨rfl, h0, h1, rfl⟩ | ⟨rfl, rfl, h⟩
 ·rcases h2 with ⟨rfl, k0, k1, e⟩ | ⟨rfl, rfl, h2⟩
  ·have := parse_itoa n h0 h1;rw [e, parse_itoa m k0 k1] at this;cases this; exact ⟨rfl, rfl⟩
  exact absurd rfl (h2 n h0 h1)
 rcases h2 with ⟨rfl, k0, k1, e⟩ | ⟨rfl, rfl, h2⟩
 ·exact absurd e (h m k0 k1)
 exact ⟨rfl, rfl⟩
end Go.Proofs.YtgbhdfpobgefgaaGreatDoor
namespace Go.Proofs
open Go.Shelf
def Tryz.laysKeys_ren : Go.Shelf.Ren := ⟨fun | 7 => 236 | 10 => 244 | n => n, fun | 23 => 139 | 26 => 9 | 3 => 91 | 28 => 328 | 0 => 0 | 27 => 327 | 33 => 189 | 4 => 4 | n => n, fun | n => n⟩
theorem Tryz.laysKeys : Go.Proofs.SlLaysZ.n7 Tryz.prog Tryz.laysKeys_ren := {
 mixed := by kernel_rfl
 f7 := ⟨Tryz.f236.name, by decide, Tryz.func236.trans (congrArg some (by kernel_rfl))⟩
 f10 := ⟨Tryz.f244.name, by decide, Tryz.func244.trans (congrArg some (by kernel_rfl))⟩
 t0 := Tryz.underlying0
 a0 := Tryz.isAgg0
 z0 := Tryz.sizeOf0
 v0 := Tryz.zeroValue0
 t4 := Tryz.underlying4
 a4 := Tryz.isAgg4
 z4 := Tryz.sizeOf4
 v4 := Tryz.zeroValue4
 t23 := Tryz.underlying139
 a23 := Tryz.isAgg139
 z23 := Tryz.sizeOf139
 v23 := Tryz.zeroValue139
 t26 := Tryz.underlying9
 a26 := Tryz.isAgg9
 z26 := Tryz.sizeOf9
 v26 := Tryz.zeroValue9
 t27 := Tryz.underlying327
 a27 := Tryz.isAgg327
 z27 := Tryz.sizeOf327
 v27 := Tryz.zeroValue327
 t28 := Tryz.underlying328
 a28 := Tryz.isAgg328
 z28 := Tryz.sizeOf328
 v28 := Tryz.zeroValue328
 t33 := Tryz.underlying189
 a33 := Tryz.isAgg189
 z33 := Tryz.sizeOf189
 v33 := Tryz.zeroValue189 }
def Tryz.laysKeys1_ren : Go.Shelf.Ren := ⟨fun | 10 => 244 | n => n, fun | 33 => 189 | 23 => 139 | 0 => 0 | 4 => 4 | 26 => 9 | 3 => 91 | n => n, fun | n => n⟩
theorem Tryz.laysKeys1 : Go.Proofs.SlLaysZ.n10 Tryz.prog Tryz.laysKeys1_ren := {
 mixed := by kernel_rfl
 f10 := ⟨Tryz.f244.name, by decide, Tryz.func244.trans (congrArg some (by kernel_rfl))⟩
 t0 := Tryz.underlying0
 a0 := Tryz.isAgg0
 z0 := Tryz.sizeOf0
 v0 := Tryz.zeroValue0
 t4 := Tryz.underlying4
 a4 := Tryz.isAgg4
 z4 := Tryz.sizeOf4
 v4 := Tryz.zeroValue4
 t23 := Tryz.underlying139
 a23 := Tryz.isAgg139
 z23 := Tryz.sizeOf139
 v23 := Tryz.zeroValue139
 t26 := Tryz.underlying9
 a26 := Tryz.isAgg9
 z26 := Tryz.sizeOf9
 v26 := Tryz.zeroValue9
 t33 := Tryz.underlying189
 a33 := Tryz.isAgg189
 z33 := Tryz.sizeOf189
 v33 := Tryz.zeroValue189 }
def Tryz.laysApp_ren : Go.Shelf.Ren := ⟨fun | 11 => 235 | n => n, fun | 24 => 22 | 26 => 9 | 28 => 328 | 0 => 0 | 33 => 189 | 4 => 4 | n => n, fun | n => n⟩
theorem Tryz.laysApp : Go.Proofs.SlLaysZ.n11 Tryz.prog Tryz.laysApp_ren := {
 mixed := by kernel_rfl
 f11 := ⟨Tryz.f235.name, by decide, Tryz.func235.trans (congrArg some (by kernel_rfl))⟩
 t0 := Tryz.underlying0
 a0 := Tryz.isAgg0
 z0 := Tryz.sizeOf0
 v0 := Tryz.zeroValue0
 t24 := Tryz.underlying22
 a24 := Tryz.isAgg22
 z24 := Tryz.sizeOf22
 v24 := Tryz.zeroValue22
 t26 := Tryz.underlying9
 a26 := Tryz.isAgg9
 z26 := Tryz.sizeOf9
 v26 := Tryz.zeroValue9
 t28 := Tryz.underlying328
 a28 := Tryz.isAgg328
 z28 := Tryz.sizeOf328
 v28 := Tryz.zeroValue328
 i26 := by kernel_rfl }
def Tryz.laysSort_ren : Go.Shelf.Ren := ⟨fun | 190 => 237 | 125 => 134 | 258 => 245 | 128 => 155 | 129 => 156 | 302 => 251 | 303 => 252 | 304 => 253 | 305 => 254 | 306 => 255 | 307 => 256 | 308 => 257 | 309 => 258 | 310 => 259 | 333 => 263 | 329 => 173 | 330 => 174 | 334 => 264 | 335 => 265 | 336 => 158 | 344 => 266 | n => n, fun | 31 => 22 | 9 => 9 | 3 => 3 | 46 => 230 | 0 => 0 | 51 => 250 | 53 => 71 | 4 => 4 | 183 => 244 | 182 => 243 | 131 => 32 | 5 => 5 | 218 => 269 | 222 => 273 | 228 => 286 | 229 => 180 | n => n, fun | n => n⟩
theorem Tryz.laysSort : Go.Proofs.Lays.n190 Tryz.prog Tryz.laysSort_ren := {
 mixed := by kernel_rfl
 f125 := Tryz.func134.trans (congrArg some (by kernel_rfl))
 f128 := Tryz.func155.trans (congrArg some (by kernel_rfl))
 f129 := Tryz.func156.trans (congrArg some (by kernel_rfl))
 f190 := Tryz.func237.trans (congrArg some (by kernel_rfl))
 f258 := Tryz.func245.trans (congrArg some (by kernel_rfl))
 f302 := Tryz.func251.trans (congrArg some (by kernel_rfl))
 f303 := Tryz.func252.trans (congrArg some (by kernel_rfl))
 f304 := Tryz.func253.trans (congrArg some (by kernel_rfl))
 f305 := Tryz.func254.trans (congrArg some (by kernel_rfl))
 f306 := Tryz.func255.trans (congrArg some (by kernel_rfl))
 f307 := Tryz.func256.trans (congrArg some (by kernel_rfl))
 f308 := Tryz.func257.trans (congrArg some (by kernel_rfl))
 f309 := Tryz.func258.trans (congrArg some (by kernel_rfl))
 f310 := Tryz.func259.trans (congrArg some (by kernel_rfl))
 f329 := Tryz.func173.trans (congrArg some (by kernel_rfl))
 f330 := Tryz.func174.trans (congrArg some (by kernel_rfl))
 f333 := Tryz.func263.trans (congrArg some (by kernel_rfl))
 f334 := Tryz.func264.trans (congrArg some (by kernel_rfl))
 f335 := Tryz.func265.trans (congrArg some (by kernel_rfl))
 f336 := Tryz.func158.trans (congrArg some (by kernel_rfl))
 f344 := Tryz.func266.trans (congrArg some (by kernel_rfl))
 t0 := Tryz.underlying0
 a0 := Tryz.isAgg0
 z0 := Tryz.sizeOf0
 v0 := Tryz.zeroValue0
 t3 := Tryz.underlying3
 a3 := Tryz.isAgg3
 z3 := Tryz.sizeOf3
 v3 := Tryz.zeroValue3
 t4 := Tryz.underlying4
 a4 := Tryz.isAgg4
 z4 := Tryz.sizeOf4
 v4 := Tryz.zeroValue4
 t5 := Tryz.underlying5
 a5 := Tryz.isAgg5
 z5 := Tryz.sizeOf5
 v5 := Tryz.zeroValue5
 t9 := Tryz.underlying9
 a9 := Tryz.isAgg9
 z9 := Tryz.sizeOf9
 v9 := Tryz.zeroValue9
 t31 := Tryz.underlying22
 a31 := Tryz.isAgg22
 z31 := Tryz.sizeOf22
 v31 := Tryz.zeroValue22
 t46 := Tryz.underlying230
 a46 := Tryz.isAgg230
 z46 := Tryz.sizeOf230
 v46 := Tryz.zeroValue230
 t51 := Tryz.underlying250
 a51 := Tryz.isAgg250
 z51 := Tryz.sizeOf250
 v51 := Tryz.zeroValue250
 t53 := Tryz.underlying71
 a53 := Tryz.isAgg71
 z53 := Tryz.sizeOf71
 v53 := Tryz.zeroValue71
 t131 := Tryz.underlying32
 a131 := Tryz.isAgg32
 z131 := Tryz.sizeOf32
 v131 := Tryz.zeroValue32
 t182 := Tryz.underlying243
 a182 := Tryz.isAgg243
 z182 := Tryz.sizeOf243
 v182 := Tryz.zeroValue243
 t183 := Tryz.underlying244
 a183 := Tryz.isAgg244
 z183 := Tryz.sizeOf244
 v183 := Tryz.zeroValue244
 t218 := Tryz.underlying269
 a218 := Tryz.isAgg269
 z218 := Tryz.sizeOf269
 v218 := Tryz.zeroValue269
 t222 := Tryz.underlying273
 a222 := Tryz.isAgg273
 z222 := Tryz.sizeOf273
 v222 := Tryz.zeroValue273
 t228 := Tryz.underlying286
 a228 := Tryz.isAgg286
 z228 := Tryz.sizeOf286
 v228 := Tryz.zeroValue286
 t229 := Tryz.underlying180
 a229 := Tryz.isAgg180
 z229 := Tryz.sizeOf180
 v229 := Tryz.zeroValue180 }
end Go.Proofs
namespace Go.Proofs.YtgbhdfpobgefgaaGreatDoor
open Go.RowKit Go.Pm Go.Sort Go.Shelf
abbrev keyT : TypeId := 9
theorem mapKeys (B : Base) (H : List Res) (w : World) (mb : Option Nat) (hv : Pm.Inv B H w) : Calls Tryz.prog 236 #[.map mb] w fun e w' => ∃ b, e = .returned (.func (.func 244) #[] #[.pointer (some ⟨b, 0, none⟩)]) ∧ Pm.Inv B (Res.cell b [.map mb] 139 :: H) w' := by
 have h := AnyZ.keys_in Tryz.laysKeys Fence.wide 5 trivial rfl mb w;refine (callsIn_wide (n := 5)).1 (h.mono ?_);rintro e w' ⟨rfl, rfl⟩;exact ⟨_, rfl, hv.alloc _ _⟩
abbrev RN (_ : Value) : Option (DataW Unit × List MemPlace) := some (.nil, [])
theorem rd_key (k : List UInt8) (hk : k.length ≤ maxLen) (v : Value) (n : Nat) : WideElems.rd Tryz.prog keyT RN { key := strV k, val := v, born := n } = some (.string k, .nil) := by
 have h : keyOf Tryz.prog keyT (strV k) = some (.string k) := by
  have h1 := WideMaps.keyOf_string_mk (P := Tryz.prog) (k := keyT) Tryz.underlying9 (s := ⟨k.toArray⟩) (by show k.toArray.size ≤ maxLen; simpa using hk)
  simpa using h1
 simp [WideElems.rd, h, RN]
theorem vmap_owns {w : World} {b : Nat} {es : List (List UInt8 × Value)} (h : (Res.vmap b es).holds w) (hk : ∀ x ∈ es, x.1.length ≤ maxLen) (hm : es.length ≤ maxLen) :
  ∃ D : DataW Unit, w.ownsMap Tryz.prog keyT RN b es.length D ∧ (strKeys D).Perm (es.map (·.1)) := by
 obtain ⟨E, clock, h1, h2, h3⟩ := h;have hl : E.size = es.length := by have := congrArg List.length h3; simpa using this
 have hrd : ∀ x ∈ E.toList, ∃ k, (∃ v, (k, v) ∈ es) ∧ x.key = strV k ∧ WideElems.rd Tryz.prog keyT RN x = some (.string k, .nil) := by
  intro x hx;obtain ⟨j, hj⟩ := List.mem_iff_getElem?.1 hx;have h9 := congrArg (fun l => l[j]?) h3;simp only [List.getElem?_map, hj, Option.map_some] at h9;cases hx2 : es[j]? with
  | none => rw [hx2] at h9; simp at h9
  | some y =>
   rw [hx2] at h9;simp only [Option.map_some, kv, Option.some.injEq, Prod.mk.injEq] at h9;have hy := List.mem_of_getElem? hx2;obtain ⟨xk, xv, xb⟩ := x;simp only at h9;obtain ⟨rfl, rfl⟩ := h9;exact ⟨y.1, ⟨y.2, hy⟩, rfl, rd_key y.1 (hk y hy) _ _⟩
 refine ⟨_, ⟨E, clock, h1, ⟨by omega, h2, fun x hx => by obtain ⟨k, -, -, h⟩ := hrd x hx; exact ⟨_, h⟩⟩, by omega, rfl⟩, ?_⟩;have hp : (strKeys (DataW.map ((E.toList.map (WideElems.rg Tryz.prog keyT RN)).foldr DataW.insert []))).Perm ((E.toList.map (WideElems.rg Tryz.prog keyT RN)).map fun p => strOf p.1) := (WideShapes.sorted_perm _).map _;refine hp.trans (List.Perm.of_eq ?_);rw [List.map_map];have h4 : E.toList.map (fun e => e.key) = es.map (fun x => strV x.1) := by
  have := congrArg (List.map Prod.fst) h3
  simpa [List.map_map, Function.comp_def, kv] using this
 have h5 : ∀ x ∈ E.toList, strV (((fun p : Lit × DataW Unit => strOf p.1) ∘ WideElems.rg Tryz.prog keyT RN) x) = x.key := by
  intro x hx;obtain ⟨k, -, hk1, h⟩ := hrd x hx
  simp [Function.comp, WideElems.rg, h, hk1, strOf]
 have h6 : (E.toList.map ((fun p : Lit × DataW Unit => strOf p.1) ∘ WideElems.rg Tryz.prog keyT RN)).map strV = (es.map (·.1)).map strV := by
  rw [List.map_map, List.map_map];have : E.toList.map (strV ∘ ((fun p : Lit × DataW Unit => strOf p.1) ∘ WideElems.rg Tryz.prog keyT RN)) = E.toList.map (fun e => e.key) := List.map_congr_left fun x hx => h5 x hx
  rw [this, h4]; rfl
 exact (List.map_inj_right (fun a b e => strV_inj e)).1 h6
theorem row_new {B : Base} {H : List Res} {w w' : World} {e : TypeId} {size n : Nat} {v : Value} {xs : List Value} (hv : Pm.Inv B H w) (h : w'.ownsRow w.heap.size e size v n xs) (hb : Below w.heap.size w w') : Pm.Inv B (Res.row e size v n xs :: H) w' := by
 have h0 : w'.ownsRow 0 e size v n xs := ⟨h.1, h.2.imp id fun ⟨g, cap, cur, h1, _, h3⟩ => ⟨g, cap, cur, h1, Nat.zero_le _, h3⟩⟩;refine hv.new hb (Res.row e size v n xs) h0 (fun b hb9 => ?_) ?_
 ·rcases h.2 with ⟨rfl, -⟩ | ⟨g, cap, cur, rfl, h2, h3, -⟩
  ·simp [Value.ownBlock] at hb9
  simp [Value.ownBlock] at hb9
  subst hb9;exact ⟨h2, (Array.getElem?_eq_some_iff.1 h3).1⟩
 show v.ownBlock.toList.Nodup;cases v.ownBlock with
 | none => exact List.Pairwise.nil
 | some b => simp
theorem appendKeys (B : Base) (H : List Res) (w : World) (b wb : Nat) (es : List (List UInt8 × Value)) (hk : ∀ x ∈ es, x.1.length ≤ maxLen) (hm : es.length ≤ 1000000) (hv : Pm.Inv B (Res.cell b [.map (some wb)] 139 :: Res.vmap wb es :: H) w) :
  Calls Tryz.prog 235 #[.slice none 0 0, .func (.func 244) #[] #[.pointer (some ⟨b, 0, none⟩)]] w fun e w' => ∃ v ss, e = .returned v ∧ ss.Perm (es.map (·.1)) ∧ Pm.Inv B (Res.row keyT 1 v ss.length (textCells ss) :: Res.cell b [.map (some wb)] 139 :: Res.vmap wb es :: H) w' := by
 obtain ⟨D, hown, hperm⟩ := vmap_owns (hv.get 1 rfl) hk (by unfold maxLen; omega);have hsz := hown.size_le;have hg := AnyZ.keys_gives Tryz.laysKeys1 Fence.wide 4 trivial rfl (by omega) b wb es.length D w (hv.lt _ (List.mem_cons_self) b (by simp)) (hv.load 0 0 rfl rfl) hown;have he : ∀ args w, (callFunc 244 args).run Tryz.prog w = .ok (.enter 244 args) w := Tryz.laysKeys1.f10.enters rfl;have h := AnyZ.appendSeq_in Tryz.laysApp Fence.wide 5 trivial rfl (by omega) 244 #[.pointer (some ⟨b, 0, none⟩)] trivial he _ (Maps.size D) (by unfold maxLen; omega) (by omega) w hg;refine (callsIn_wide (n := 5)).1 (h.mono ?_);rintro e w' ⟨v, ss, rfl, hS, hrow, -, hb⟩;exact ⟨v, ss, rfl, hS.trans hperm, row_new hv hrow hb⟩
theorem sortTexts (B : Base) (H : List Res) (w : World) (v : Value) (l : List (List UInt8)) (hm : l.length ≤ 1000000) (hv : Pm.Inv B (Res.row keyT 1 v l.length (textCells l) :: H) w) :
  Calls Tryz.prog 237 #[v] w fun e w' => e = .returned (.tuple #[]) ∧ Pm.Inv B (Res.row keyT 1 v l.length (textCells (l.mergeSort leB)) :: H) w' := by
 rcases (hv.head : w.ownsRow 0 keyT 1 v l.length (textCells l)).2 with ⟨rfl, hz⟩ | ⟨g, cap, cur, rfl, h0, hgb, r1, r2, r3, r4⟩
 ·have hl : l = [] := List.eq_nil_of_length_eq_zero hz;subst hl;refine (Any.slices_Sort_string_none Tryz.laysSort none 0 w).mono ?_;rintro e w' ⟨rfl, rfl⟩;exact ⟨rfl, by simpa using hv⟩
 have hH : Holds encStr w g 0 l.toArray := holds_of_block hgb (by rw [Nat.mul_one] at r4; exact r4);refine (Any.slices_Sort_string Tryz.laysSort g 0 cap l w hH (Array.getElem?_eq_some_iff.1 hgb).1 (by omega)).mono ?_;rintro e w' ⟨rfl, n, os, rfl⟩;have hgr := grownBy_sorted (w := w) (g := g) (n := n) (os := os) (l.mergeSort leB).toArray;have hr := ownsRow_sorted (n := n) (os := os) (ss := l) (ts := l.mergeSort leB) (by simp) h0 hgb r1 r2 r3;refine ⟨rfl, hv.upd _ ⟨hgr.os, hgr.tape, hgr.output, hgr.size, fun k hk hn => hgr.block k hk (fun e => hn (by cases e; simp [Value.ownBlock]))⟩ hr (fun b hb => .inl hb) (fun b hb => Nat.lt_of_lt_of_le (hv.headLt b hb) hgr.size) (by simp [Value.ownBlock])⟩
theorem s24es22 (w : World) : (sizeOf (Tryz.prog.elem 22)).run Tryz.prog w = .ok 1 w := by kernel_rfl
theorem s24na9 (w : World) : (isAgg 9).run Tryz.prog w = .ok false w := by kernel_rfl
theorem indexFuncO (B : Base) (H : List Res) (w : World) (f : FuncId) (cb : Array Value) (ra : Option Addr) (rc : Nat) (l : List (List UInt8)) (pr : List UInt8 → Bool) (hm : l.length ≤ 1000000) (hcal : Callable Tryz.prog f) (hf : ∀ (x : List UInt8) (r : Res) (w : World), Inv B (r :: H) w → Calls Tryz.prog f (#[vS x] ++ cb) w fun e w' => e = .returned (.bool (pr x)) ∧ Inv B (r :: H) w') (hv : Inv B (Res.row 9 1 (.slice ra l.length rc) l.length (textCells l) :: H) w) :
  Calls Tryz.prog 221 #[.slice ra l.length rc, .func (.func f) #[] cb] w fun e w' => ∃ r : Int, e = .returned (vI r) ∧ ((r = -1 ∧ ∀ y ∈ l, pr y = false) ∨ ∃ (i : Nat) (x : List UInt8), r = (i : Int) ∧ l[i]? = some x ∧ pr x = true ∧ ∀ y ∈ l.take i, pr y = false) ∧ Inv B (Res.row 9 1 (.slice ra l.length rc) l.length (textCells l) :: H) w' := by
 refine cW Tryz.func221 rfl Tryz.ntmps221 ?_;simp only [al];apply uN;intro _ _;apply uN;intro _ _ _ _;refine oG (vI (l.length : Int)) rfl (ex_len0 Tryz.underlying22 rfl rfl) ?_
 gi_loopw [8] (fun x8 wr => ∃ (i : Nat), x8 = vI i ∧ i ≤ l.length ∧ (∀ j x, j < i → l[j]? = some x → pr x = false) ∧ Inv B (Res.row 9 1 (.slice ra l.length rc) l.length (textCells l) :: H) wr) (fun x8 _ => l.length - (intOf x8).toNat)
 case atStart => exact ⟨0, rfl, Nat.zero_le _, fun j x h => by omega, hv⟩
 case round =>
  obtain ⟨i, rfl, hi, hno, hv⟩ := hrel;apply uN;intro _ _;refine uB (fun hb6 => ?_) fun hb6 => ?_
  ·intro _ _;apply uN;intro _ _ _ _;apply uN;intro _ _;obtain ⟨x, hx⟩ : ∃ x, l[i]? = some x := ⟨_, List.getElem?_eq_getElem (show i < l.length by omega)⟩;obtain ⟨b, rfl⟩ := row_some hv.head (by omega);apply uN;refine oG (.pointer (some ⟨b, 0 + i, none⟩)) rfl (ex_index rfl rfl rfl (run_idx1 (k := i) Tryz.underlying22 s24es22 (by omega))) ?_;refine oL _ rfl (run_load1 s24na9 (row_load (hv.get 0 rfl) (textCells_get hx))) ?_;refine wpi_callV hcal tV wideC rfl (wn rfl) rfl rfl (args := #[vS x]) (by simp only [List.map_toArray, List.map_cons, List.map_nil]; rfl) ((hf x _ _ hv).mono ?_);rintro e w11 ⟨rfl, hv⟩;apply eR;refine wpIn_cond_split (t := pr x) rfl (fun hc12 => ?_) (fun hc12 => ?_)
   ·apply uN;intro _ _;apply uN;refine bR rfl rfl (⟨_, rfl, .inr ⟨i, x, rfl, hx, by simpa using hc12, fun y hy => (by obtain ⟨j, hj⟩ := List.mem_iff_getElem?.1 hy; have h9 := (List.getElem?_eq_some_iff.1 hj).1; rw [List.length_take] at h9; rw [List.getElem?_take_of_lt (by omega)] at hj; exact hno j y (by omega) hj)⟩, hv⟩)
   apply uN;refine oG (vI ((i + 1 : Nat) : Int)) rfl (ex_add rfl rfl rfl (by rw [i64_in (by omega)]; omega)) ?_;refine then_normal ?_
   go_roundw
   case rel => exact ⟨i + 1, rfl, by omega, fun j x' hj hx' => (by
      rcases Nat.lt_or_ge j i with h | h
      ·exact hno j x' h hx'
      obtain rfl : j = i := by omega
      rw [hx] at hx'; cases hx'
      simpa using hc12), hv⟩
   case measure => show l.length - (((i + 1 : Nat) : Int)).toNat < l.length - ((i : Int)).toNat; omega
  intro _ _ _ _;apply uN;refine bR rfl rfl ?_;obtain rfl : i = l.length := by omega
  exact ⟨_, rfl, .inl ⟨rfl, fun y hy => (by obtain ⟨j, hj⟩ := List.mem_iff_getElem?.1 hy; exact hno j y (List.getElem?_eq_some_iff.1 hj).1 hj)⟩, hv⟩
theorem s24callable221 : Callable Tryz.prog 221 := cb Tryz.func221 (by kernel_rfl)
theorem s24sz9 : (Tryz.prog.info? 9).map (·.size) = some 1 := by kernel_rfl
theorem s24mk9 : (Tryz.prog.info? 9).map (fun i => (i.zero, i.size, i.bytes)) = some (some (vS []), 1, 16) := by kernel_rfl
theorem s24el22 : Elem Tryz.prog 22 9 (vS []) 1 16 := elem_of Tryz.underlying22 s24mk9 (by rfl) (by decide)
theorem deleteFunc (B : Base) (H : List Res) (w : World) (f : FuncId) (cb : Array Value) (ra : Option Addr) (rc : Nat) (l : List (List UInt8)) (pr : List UInt8 → Bool) (hm : l.length ≤ 1000000) (hcal : Callable Tryz.prog f) (hf : ∀ (x : List UInt8) (r : Res) (w : World), Inv B (r :: H) w → Calls Tryz.prog f (#[vS x] ++ cb) w fun e w' => e = .returned (.bool (pr x)) ∧ Inv B (r :: H) w') (hv : Inv B (Res.row 9 1 (.slice ra l.length rc) l.length (textCells l) :: H) w) :
  Calls Tryz.prog 214 #[.slice ra l.length rc, .func (.func f) #[] cb] w fun e w' => ∃ ra' rc', e = .returned (.slice ra' (l.filter fun y => !pr y).length rc') ∧ Inv B (Res.row 9 1 (.slice ra' (l.filter fun y => !pr y).length rc') (l.filter fun y => !pr y).length (textCells (l.filter fun y => !pr y)) :: H) w' := by
 refine cW Tryz.func214 rfl Tryz.ntmps214 ?_;simp only [al];apply uN;intro _ _;apply uN;intro _ _;refine xC s24callable221 rfl ((indexFuncO B H _ f cb ra rc l pr hm hcal hf hv).mono ?_) rfl;rintro e w3 ⟨r, rfl, hor, hv⟩;apply eR;rcases hor with ⟨rfl, hno⟩ | ⟨i0, x0, rfl, hx0, hp0, hno⟩
 ·apply uN;intro _ _ _ _;refine oG (.bool true) rfl (ex_eql rfl rfl rfl (by decide)) ?_;intro _ _;apply uN;refine bR rfl rfl ?_;have hfl : l.filter (fun y => !pr y) = l := List.filter_eq_self.2 (fun y hy => by rw [hno y hy]; rfl);rw [hfl];exact ⟨_, _, rfl, hv⟩
 have hi0 : i0 < l.length := (List.getElem?_eq_some_iff.1 hx0).1;obtain ⟨b, rfl⟩ := row_some hv.head (by omega);obtain ⟨hst, hsl⟩ := df_start hx0 hp0 hno;apply uN;intro _ _ _ _;refine uU (by omega) ?_;intro _ _ _ _;refine oG (vI ((i0 + 1 : Nat) : Int)) rfl (ex_add rfl rfl rfl (by rw [i64_in (by omega)]; omega)) ?_
 gi_loopw [5, 6] (fun x5 x6 wr => ∃ (i j : Nat) (kept mid : List (List UInt8)), x5 = vI i ∧ x6 = vI j ∧ j ≤ l.length ∧ kept = (l.take j).filter (fun y => !pr y) ∧ i = kept.length ∧ 0 < mid.length ∧ i + mid.length = j ∧ Inv B (Res.row 9 1 (.slice (some ⟨b, 0, none⟩) l.length rc) l.length (textCells (kept ++ mid ++ l.drop j)) :: H) wr) (fun x5 x6 _ => l.length - (intOf x6).toNat)
 case atStart => exact ⟨i0, i0 + 1, l.take i0, [x0], rfl, rfl, by omega, hst.symm, by rw [List.length_take]; omega, by simp, by simp, by rw [← hsl]; exact hv⟩
 case round =>
  obtain ⟨i, j, kept, mid, rfl, rfl, hj, hkept, hik, hmid, hij, hv⟩ := hrel;apply uN;intro _ _ _ _;refine oG (vI (l.length : Int)) rfl (ex_len0 Tryz.underlying22 rfl rfl) ?_;refine uB (fun hb14 => ?_) fun hb14 => ?_
  ·intro _ _ _ _;obtain ⟨x, hx⟩ : ∃ x, l[j]? = some x := ⟨_, List.getElem?_eq_getElem (show j < l.length by omega)⟩;apply uN;refine oG (.pointer (some ⟨b, 0 + j, none⟩)) rfl (ex_index rfl rfl rfl (run_idx1 (k := j) Tryz.underlying22 s24es22 (by omega))) ?_;refine oL (vS x) rfl (run_load1 s24na9 (row_load (hv.get 0 rfl) (df_get (kept := kept) (mid := mid) hx (by omega)))) ?_;intro _ _;refine wpi_callV hcal tV wideC rfl (wn rfl) rfl rfl (args := #[vS x]) (by simp only [List.map_toArray, List.map_cons, List.map_nil]; rfl) ((hf x _ _ hv).mono ?_);rintro e w18 ⟨rfl, hv⟩;apply eR;refine oG (.bool (!(pr x))) rfl (ex_not rfl rfl rfl) ?_;refine wpIn_cond_split (t := !(pr x)) rfl (fun hc19 => ?_) (fun hc19 => ?_)
   ·apply uN;intro _ _;have hpx : pr x = false := by simpa using hc19
    obtain ⟨g0, mid2, hmg⟩ : ∃ g0 m2, mid = g0 :: m2 := (by cases mid with | nil => simp at hmid | cons a m => exact ⟨a, m, rfl⟩);subst hmg;apply uN;refine oG (.pointer (some ⟨b, 0 + i, none⟩)) rfl (ex_index rfl rfl rfl (run_idx1 (k := i) Tryz.underlying22 s24es22 (by omega))) ?_;refine sl_storeRow (v := vS x) tV (wn rfl) rfl rfl rfl hv s24sz9 (by rw [textCells_n]; simp only [List.length_append, List.length_cons, List.length_drop]; omega) rfl rfl (fun w21 hv => ?_);rw [Nat.zero_add] at hv;apply uN;refine oG (vI ((i + 1 : Nat) : Int)) rfl (ex_add rfl rfl rfl (by rw [i64_in (by omega)]; omega)) ?_;refine oG (vI ((j + 1 : Nat) : Int)) rfl (ex_add rfl rfl rfl (by rw [i64_in (by omega)]; omega)) ?_;refine then_normal ?_
    go_roundw
    case rel => exact ⟨i + 1, j + 1, kept ++ [x], mid2 ++ [x], rfl, rfl, by omega, by rw [df_filter hx, ← hkept, hpx]; rfl, by rw [List.length_append]; simp; exact hik, by simp, by simp at hij ⊢; omega, by rw [hik, df_set hx] at hv; exact hv⟩
    case measure => show l.length - (((j + 1 : Nat) : Int)).toNat < l.length - ((j : Int)).toNat; omega
   apply uN;have hpx : pr x = true := by simpa using hc19
   apply uN;refine oG (vI ((j + 1 : Nat) : Int)) rfl (ex_add rfl rfl rfl (by rw [i64_in (by omega)]; omega)) ?_;refine then_normal ?_
   go_roundw
   case rel => exact ⟨i, j + 1, kept, mid ++ [x], rfl, rfl, by omega, by rw [df_filter hx, ← hkept, hpx]; simp, hik, by simp, by simp; omega, by rw [← df_skip hx]; exact hv⟩
   case measure => show l.length - (((j + 1 : Nat) : Int)).toNat < l.length - ((j : Int)).toNat; omega
  intro _ _;obtain rfl : j = l.length := by omega
  rw [List.drop_length, List.append_nil, textCells_app] at hv;rw [List.take_length] at hkept;obtain ⟨L, hL1, hL2, hL3, hL4, hv⟩ := hv.rowCell;obtain ⟨tl, hLe⟩ : ∃ tl, L = textCells kept ++ textCells mid ++ tl := ⟨L.drop (l.length * 1), by rw [← hL2, List.take_append_drop]⟩;subst hLe;have hkn : (textCells kept).length = i := by rw [textCells_n]; exact hik.symm
  apply uN;refine oG (.slice (some ⟨b, 0 + i, none⟩) (l.length - i) (rc - i)) rfl (ex_slice (lo' := some (vI i)) rfl rfl (congrArg some rfl) rfl rfl (run_from1 Tryz.underlying22 s24es22 (by omega) (by omega))) ?_;refine sl_clearAt 0 (pre := textCells kept) (mid := textCells mid) (post := tl) (m := l.length - i) tV (wn rfl) rfl rfl s24el22 (one_cons rfl one_nil) hv rfl rfl (by rw [hkn, Nat.zero_add]) (by rw [textCells_n]; omega) (fun zs w23 hzs hv => ?_);simp only [zO] at hv;apply uN;intro _ _;refine oG (.slice (some ⟨b, 0, none⟩) i rc) rfl (ex_slice (hi' := some (vI i)) rfl rfl rfl (congrArg some rfl) rfl (run_hi Tryz.underlying22 s24es22 (by omega))) ?_;refine bR rfl rfl ?_;have h8 := hv.cellRow (n := i) (c := rc) (size := 1) (by simp only [List.length_append, hzs] at hL1 ⊢; exact hL1) (by omega) hL4;rw [List.append_assoc, Nat.mul_one, List.take_left' hkn, hik, hkept] at h8;rw [hik, hkept];exact ⟨_, _, rfl, h8⟩
def deadNow (M : List (List UInt8 × Ver)) (clk : Int) (k : List UInt8) : Bool := match lookA M k with
 | some y => !aliveB y clk
 | none => false
def namesT (M : List (List UInt8 × Ver)) (clk : Int) : List (List UInt8) := ((M.map (·.1)).mergeSort leB).filter fun k => !deadNow M clk k
theorem vmap_nodup {w : World} {b : Nat} {es : List (List UInt8 × Value)} (h : (Res.vmap b es).holds w) : (es.map (·.1)).Nodup := by
 obtain ⟨E, clock, -, ⟨-, -, h2⟩, h3⟩ := h;have h4 : E.toList.map (fun e => e.key) = (es.map (·.1)).map strV := by
  have := congrArg (List.map Prod.fst) h3
  simpa [List.map_map, Function.comp_def, kv] using this
 rw [h4] at h2;exact List.Pairwise.imp (fun hab e => hab (by rw [e])) (List.pairwise_map.1 h2)
theorem adj_ne {l : List (List UInt8)} (h : l.Nodup) (j : Nat) (x y : List UInt8) (hx : l[j]? = some x) (hy : l[j + 1]? = some y) : ¬ y = x := by
 intro e; subst e;have hj := (List.getElem?_eq_some_iff.1 hx).1;have := (List.getElem?_inj hj h).1 (hx.trans hy.symm);omega
theorem compactTexts (B : Base) (H : List Res) (w : World) (ra : Option Addr) (rc : Nat) (l : List (List UInt8)) (hnd : l.Nodup) (hm : l.length ≤ 1000000) (hv : Inv B (Res.row 9 1 (.slice ra l.length rc) l.length (textCells l) :: H) w) :
  Calls Tryz.prog 238 #[.slice ra l.length rc] w fun e w' => e = .returned (.slice ra l.length rc) ∧ Inv B (Res.row 9 1 (.slice ra l.length rc) l.length (textCells l) :: H) w' := by
 refine cW Tryz.func238 rfl Tryz.ntmps238 ?_;simp only [al];apply uN;intro _ _;apply uN;intro _ _ _ _;refine oG (vI (l.length : Int)) rfl (ex_len0 Tryz.underlying22 rfl rfl) ?_;refine uB (fun hb4 => ?_) fun hb4 => ?_
 ·intro _ _;apply uN;refine bR rfl rfl (⟨rfl, hv⟩)
 intro _ _ _ _;apply uN
 gi_loopw [3] (fun x3 wr => ∃ (j : Nat), x3 = vI ((j + 1 : Nat) : Int) ∧ j + 1 ≤ l.length ∧ Inv B (Res.row 9 1 (.slice ra l.length rc) l.length (textCells l) :: H) wr) (fun x3 _ => l.length - (intOf x3).toNat)
 case atStart => exact ⟨0, rfl, by omega, hv⟩
 case round =>
  obtain ⟨j, rfl, hj, hv⟩ := hrel;apply uN;intro _ _ _ _;refine oG (vI (l.length : Int)) rfl (ex_len0 Tryz.underlying22 rfl rfl) ?_;refine uB (fun hb11 => ?_) fun hb11 => ?_
  ·intro _ _ _ _;obtain ⟨x, hx⟩ : ∃ x, l[j]? = some x := ⟨_, List.getElem?_eq_getElem (show j < l.length by omega)⟩;obtain ⟨y, hy⟩ : ∃ y, l[j + 1]? = some y := ⟨_, List.getElem?_eq_getElem (show j + 1 < l.length by omega)⟩;obtain ⟨b, rfl⟩ := row_some hv.head (by omega);refine rW mixed [] [0,1,2,3,4,5,6,7,8,9] 61 rfl (by kernel_rfl) hv ?_;simp only [qm, opAt];apply uN;refine dG (.pointer (some ⟨b, 0 + (j + 1 : Nat), none⟩)) rfl (ex_index rfl rfl rfl (run_idx1 (k := (j + 1 : Nat)) Tryz.underlying22 s9es22 (by omega))) ?_;simp only [zP, po];refine dL _ rfl (fun hv => ex_load rfl rfl (run_load1 s9na9 (row_load (hv.get 0 rfl) (textCells_get hy)))) ?_;apply uN;refine dG (vI j) rfl (ex_sub rfl rfl rfl (by rw [i64_in (by omega)]; omega)) ?_;refine dG (.pointer (some ⟨b, 0 + j, none⟩)) rfl (ex_index rfl rfl rfl (run_idx1 (k := j) Tryz.underlying22 s9es22 (by omega))) ?_;refine dL _ rfl (fun hv => ex_load rfl rfl (run_load1 s9na9 (row_load (hv.get 0 rfl) (textCells_get hx)))) ?_;simp only [zP, po];refine dG (.bool false) rfl (ex_seql rfl rfl rfl (qF (adj_ne hnd j x y hx hy))) (dE fun w14 hv => ?_);apply uN;refine oG (vI ((j + 1 + 1 : Nat) : Int)) rfl (ex_add rfl rfl rfl (by rw [i64_in (by omega)]; omega)) ?_;refine then_normal ?_
   go_roundw
   case rel => exact ⟨j + 1, rfl, by omega, hv⟩
   case measure => show l.length - (((j + 1 + 1 : Nat) : Int)).toNat < l.length - (((j + 1 : Nat) : Int)).toNat; omega
  intro _ _;apply uN;refine bR rfl rfl ?_;exact ⟨rfl, hv⟩
theorem x6al91 : AL Tryz.prog 91 [vI 0, .bool false, vI 0, vI 0, vS [], vN, vN, vN] := fun w => by kernel_rfl
theorem namesDead (B : Base) (H : List Res) (w : World) (g1 t m wb : Nat) (clk : Int) (es : List (List UInt8 × Value)) (M : List (List UInt8 × Ver)) (key : List UInt8) (hM : VM B es M) (hv : Inv B (Res.cell g1 [vP t] 66 :: Res.cell t [vP m, vI 0, vI clk, .bool false, .map (some wb)] 141 :: Res.vmap wb es :: H) w) :
  Calls Tryz.prog 239 #[vS key, vP g1] w fun e w' => e = .returned (.bool (deadNow M clk key)) ∧ Inv B (Res.cell g1 [vP t] 66 :: Res.cell t [vP m, vI 0, vI clk, .bool false, .map (some wb)] 141 :: Res.vmap wb es :: H) w' := by
 refine cW Tryz.func239 rfl Tryz.ntmps239 ?_;simp only [al];apply uN;intro _ _;apply uN;intro _ _;refine oL _ rfl (run_load1 x1na66 (hv.load 0 0 rfl rfl)) ?_;refine oG (vP t) rfl (ex_nil rfl rfl) ?_;refine oF (.pointer (some ⟨t, 4, none⟩)) rfl (x2fa141_4 _ _ _) ?_;refine oL _ rfl (run_load1 x2na139 (hv.load 1 4 rfl rfl)) ?_;rcases VM.look key hM with ⟨hl, hlM⟩ | ⟨x, xp, xt, xz, hl, hlM, hxv⟩
 ·refine oG (.tuple #[.agg #[vI 0, .bool false, vI 0, vI 0, vS [], vN, vN, vN], .bool false]) rfl (ex_lookN (z := .agg #[vI 0, .bool false, vI 0, vI 0, vS [], vN, vN, vN]) 2 rfl rfl rfl Tryz.underlying139 Tryz.underlying9 (fun w => by kernel_rfl) hv rfl hl) ?_;refine sl_alloc tV (wn rfl) rfl hv x6al91 (fun b3 w4 hv => ?_);refine zX 0 rfl hv x0sz91 rfl (fun w5 hv => ?_) (by exact ⟨rfl, rfl, rfl, rfl, rfl, rfl, rfl, rfl, trivial⟩);apply uN;intro _ _;refine rW mixed [7] [0,1,2,3,4,5,6,7,8,9,10] 25 rfl (by kernel_rfl) hv ?_;simp only [qm, opAt];apply uN;refine dE fun w7 hv => ?_
  apply uN;refine bR rfl rfl (⟨congrArg (fun b => Ending.returned (Value.bool b)) (by unfold deadNow; rw [hlM]), (hv.kp [3, 3, 3] 3 1)⟩)
 refine oG (.tuple #[.agg #[vI x.stamp, .bool x.gone, vI x.expire, vI x.val.kind, vS x.val.text, xp, xt, xz], .bool true]) rfl (ex_lookS (z := .agg #[vI 0, .bool false, vI 0, vI 0, vS [], vN, vN, vN]) 2 rfl rfl rfl Tryz.underlying139 Tryz.underlying9 (fun w => by kernel_rfl) hv rfl hl) ?_;refine sl_alloc tV (wn rfl) rfl hv x6al91 (fun b8 w9 hv => ?_);refine zX 0 rfl hv x0sz91 rfl (fun w10 hv => ?_) (by exact ⟨rfl, rfl, rfl, rfl, rfl, hxv.p.one, hxv.t.one, hxv.z.one, trivial⟩);apply uN;intro _ _;refine rW mixed [7] [0,1,2,3,4,5,6,7,8,9,10] 25 rfl (by kernel_rfl) hv ?_;simp only [qm, opAt];apply uN;refine dL (.agg #[vI x.stamp, .bool x.gone, vI x.expire, vI x.val.kind, vS x.val.text, xp, xt, xz]) rfl (fun hv => ex_load rfl rfl (lM 0 x0wd91 hv rfl rfl rfl rfl)) ?_;simp only [zP, po];refine dL _ rfl (fun hv => ex_load rfl rfl (run_load1 x1na66 (hv.load 1 0 rfl rfl))) ?_;refine dG (vP t) rfl (ex_nil rfl rfl) ?_;refine dG (.pointer (some ⟨t, 2, none⟩)) rfl (ex_field rfl rfl (x2fa141_2 _ _ _)) ?_;simp only [zP, po];refine dL _ rfl (fun hv => ex_load rfl rfl (run_load1 s2na3 (hv.load 2 2 rfl rfl))) (dS rfl fun w12 hv => ?_);refine mC x2callable223 rfl ((chainAlive B _ _ x xp xt xz clk hv).mono ?_) rfl;rintro e w13 ⟨rfl, hv⟩;refine ⟨_, rfl, dW hv ?_⟩;refine dG (.bool (!(aliveB x clk))) rfl (ex_not rfl rfl rfl) ?_;apply uN;refine dE fun w14 hv => ?_
 apply uN;refine bR rfl rfl (⟨congrArg (fun b => Ending.returned (Value.bool b)) (by unfold deadNow; rw [hlM]), (hv.kp [3, 3, 3] 3 1)⟩)
theorem x6callable211 : Callable Tryz.prog 211 := cb Tryz.func211 (by kernel_rfl)
theorem x6callable236 : Callable Tryz.prog 236 := cb Tryz.func236 (by kernel_rfl)
theorem x6callable235 : Callable Tryz.prog 235 := cb Tryz.func235 (by kernel_rfl)
theorem x6callable237 : Callable Tryz.prog 237 := cb Tryz.func237 (by kernel_rfl)
theorem x6callable238 : Callable Tryz.prog 238 := cb Tryz.func238 (by kernel_rfl)
theorem x6callable239 : Callable Tryz.prog 239 := cb Tryz.func239 (by kernel_rfl)
theorem txnNames (B : Base) (H : List Res) (w : World) (t m s p wb : Nat) (va : Option Addr) (vc : Nat) (sv : Value) (clk : Int) (es : List (List UInt8 × Value)) (M : List (List UInt8 × Ver)) (hM : VM B es M) (hkl : ∀ k ∈ M.map (·.1), k.length ≤ 256) (hMl : M.length ≤ 1000000) (hv : Inv B (txR t m s p wb va vc sv clk es :: H) w) :
  Calls Tryz.prog 232 #[vP t] w fun e w' => ∃ ra rc, e = .returned (.slice ra (namesT M clk).length rc) ∧ Inv B (Res.row 9 1 (.slice ra (namesT M clk).length rc) (namesT M clk).length (textCells (namesT M clk)) :: txR t m s p wb va vc sv clk es :: H) w' := by
 refine cW Tryz.func232 rfl Tryz.ntmps232 ?_;simp only [al];apply uN;intro _ _;replace hv := Inv.unstar hv;simp only [txL, List.cons_append, List.nil_append] at hv;apply uN;refine sl_box (L := [vP t]) tV (wn rfl) rfl rfl hv (fun w => by kernel_rfl) (fun b2 w3 hv => ?_);apply uN;intro _ _;refine rW mixed [15] [0,1,2,3,4,5,6,7,8,9,10,11,12,13,14,15,16] 33 rfl (by kernel_rfl) hv ?_;simp only [qm, opAt];refine dL _ rfl (fun hv => ex_load rfl rfl (run_load1 x1na66 (hv.load 0 0 rfl rfl))) ?_;refine dG (vP t) rfl (ex_nil rfl rfl) ?_;refine dG (vP t) rfl (ex_field rfl rfl (x1fa141_0 _ _ _)) ?_;simp only [zP, po];refine dL _ rfl (fun hv => ex_load rfl rfl (run_load1 x1na57 (hv.load 1 0 rfl rfl))) ?_;refine dG (vP m) rfl (ex_nil rfl rfl) ?_;refine dG (vP m) rfl (ex_field rfl rfl (x2fa102_0 _ _ _)) ?_;simp only [zP, po];refine dL _ rfl (fun hv => ex_load rfl rfl (run_load1 x0na61 (hv.load 2 0 rfl rfl))) ?_;refine dL _ rfl (fun hv => ex_load rfl rfl (run_load1 x1na66 (hv.load 0 0 rfl rfl))) ?_;refine dG (vP t) rfl (ex_nil rfl rfl) ?_;simp only [zP, po];refine dG (.pointer (some ⟨t, 1, none⟩)) rfl (ex_field rfl rfl (x2fa141_1 _ _ _)) ?_;refine dL _ rfl (fun hv => ex_load rfl rfl (run_load1 s2na3 (hv.load 1 1 rfl rfl))) ?_;refine dL _ rfl (fun hv => ex_load rfl rfl (run_load1 x1na66 (hv.load 0 0 rfl rfl))) ?_;simp only [zP, po];refine dG (vP t) rfl (ex_nil rfl rfl) ?_;refine dG (.pointer (some ⟨t, 2, none⟩)) rfl (ex_field rfl rfl (x2fa141_2 _ _ _)) ?_;refine dL _ rfl (fun hv => ex_load rfl rfl (run_load1 s2na3 (hv.load 1 2 rfl rfl))) ?_;simp only [zP, po];refine dS rfl fun w5 hv => ?_
 replace hv := hv.front 6 rfl;simp only [eS, eZ] at hv;replace hv := hv.front 6 rfl;simp only [eS, eZ] at hv;refine mC x6callable211 rfl ((storeNames0 B _ _ s p 0 clk hv).mono ?_) rfl;rintro e w6 ⟨rfl, hv⟩;refine ⟨_, rfl, dW hv ?_⟩;apply uN;refine dE fun w7 hv => ?_
 apply uN;intro _ _;refine oL _ rfl (run_load1 x1na66 (hv.load 2 0 rfl rfl)) ?_;refine oG (vP t) rfl (ex_nil rfl rfl) ?_;refine oF (.pointer (some ⟨t, 4, none⟩)) rfl (x2fa141_4 _ _ _) ?_;refine oL _ rfl (run_load1 x2na139 (hv.load 3 4 rfl rfl)) ?_;refine xC x6callable236 rfl ((mapKeys B _ _ (some wb) hv).mono ?_) rfl;rintro e w9 ⟨b9, rfl, hv⟩;apply eR;simp only [zP, po];replace hv := hv.front 7 rfl;simp only [eS, eZ] at hv;replace hv := hv.front 1 rfl;simp only [eS, eZ] at hv;have hnd := vmap_nodup (hv.get 1 rfl);have hke := VM.keys hM;have hle : es.length = M.length := by have := congrArg List.length hke; simpa using this
 refine xC x6callable235 rfl ((appendKeys B _ _ b9 wb es (fun x hx => Nat.le_trans (hkl x.1 (by rw [← hke]; exact List.mem_map.2 ⟨x, hx, rfl⟩)) (by unfold maxLen; omega)) (by omega) hv).mono ?_) rfl;rintro e w10 ⟨v9, ss, rfl, hperm, hv⟩;apply eR;obtain ⟨va9, vc9, rfl⟩ := row_slice hv.head;have hsl : ss.length = M.length := by have := hperm.length_eq; rw [List.length_map] at this; omega
 apply uN;intro _ _;refine xC x6callable237 rfl ((sortTexts B _ _ _ ss (by omega) hv).mono ?_) rfl;rintro e w12 ⟨rfl, hv⟩;apply eR;have hms : ss.mergeSort leB = (M.map (·.1)).mergeSort leB := by rw [mergeSort_of_perm hperm, hke]
 rw [hms] at hv;obtain ⟨l, hl⟩ : ∃ l, (M.map (·.1)).mergeSort leB = l := ⟨_, rfl⟩;rw [hl] at hv hms;have hll : ss.length = l.length := by rw [← hms]; simp
 rw [hll] at hv ⊢;have hln : l.Nodup := by rw [← hms]; exact ((List.mergeSort_perm ss leB).nodup_iff).2 ((hperm.nodup_iff).2 hnd)
 apply uN;intro _ _;refine xC x6callable238 rfl ((compactTexts B _ _ va9 vc9 l hln (by omega) hv).mono ?_) rfl;rintro e w14 ⟨rfl, hv⟩;apply eR;refine oG (.func (.func 239) #[] #[vP b2]) rfl (ex_makeFunc (c' := #[vP b2]) rfl (by simp only [List.map_toArray, List.map_nil]) (by simp only [List.map_toArray, List.map_cons, List.map_nil]; rfl)) ?_;have hfn : ∀ (x : List UInt8) (r9 : Res) (w : World), Inv B (r9 :: (Res.cell b9 [.map (some wb)] 139 :: Res.vmap wb es :: Res.cell s [vP p, vI 0, vI 0] 106 :: Res.cell p [vN, vI 0] 138 :: Res.cell b2 [vP t] 66 :: Res.cell t [vP m, vI 0, vI clk, .bool false, .map (some wb)] 141 :: Res.cell m [vP s, sv, vI clk, .slice va 1 vc] 102 :: Res.row 66 1 (.slice va 1 vc) 1 [vP t] :: H)) w → Calls Tryz.prog 239 (#[vS x] ++ #[vP b2]) w fun e w' => e = .returned (.bool (deadNow M clk x)) ∧ Inv B (r9 :: (Res.cell b9 [.map (some wb)] 139 :: Res.vmap wb es :: Res.cell s [vP p, vI 0, vI 0] 106 :: Res.cell p [vN, vI 0] 138 :: Res.cell b2 [vP t] 66 :: Res.cell t [vP m, vI 0, vI clk, .bool false, .map (some wb)] 141 :: Res.cell m [vP s, sv, vI clk, .slice va 1 vc] 102 :: Res.row 66 1 (.slice va 1 vc) 1 [vP t] :: H)) w' := fun x r9 w hv =>
  (namesDead B _ w b2 t m wb clk es M x hM (((((((((hv.front 8 rfl).front 8 rfl).front 6 rfl).front 6 rfl).front 5 rfl).front 5 rfl).front 6 rfl).front 8 rfl).front 8 rfl)).mono fun e w' ⟨h7, h8⟩ => ⟨h7, (((((((((h8.front 8 rfl).front 8 rfl).front 3 rfl).front 3 rfl).front 8 rfl).front 8 rfl).front 6 rfl).front 8 rfl).front 8 rfl)⟩
 refine xC x0callable214 rfl ((deleteFunc B _ _ 239 _ va9 vc9 l (deadNow M clk) (by omega) x6callable239 hfn hv).mono ?_) rfl;rintro e w15 ⟨ra, rc, rfl, hv⟩;apply eR;refine bR rfl rfl ?_;subst hl;exact ⟨_, _, rfl, Inv.front (Inv.star (K := txL _ _ _ _ _ _ _ _ _ _) ((hv.kp [4, 4, 4, 8, 8, 8] 7 2))) 1 rfl⟩
theorem itoa_small (n : Nat) (h : n ≤ 9) : Lib.itoa (n : Int) = [UInt8.ofNat (48 + n)] := by
 unfold Lib.itoa;rw [if_neg (by omega), Lib.decDigits, dif_pos (by omega), Int.toNat_natCast]
theorem same_refl (s : List UInt8) : SameC s s := ⟨rfl, fun k a b ha hb => by rw [ha] at hb; cases hb; rfl⟩
def spanF (a b : Int) (n : Nat) : Nat × Nat :=
 let s := if a < 0 then max (a + n) 0 else a
 let t := min (if b < 0 then b + n else b) ((n : Int) - 1)
 if s > t then (0, 0) else (s.toNat, (t + 1).toNat)
section
variable {M M' : List (List UInt8 × Ver)} {t out xs : Tx} {y : Ver} {ec : Int} {r : Rp} {x : List UInt8} {fr : Bool}
end
def turned (l : Tx) (i : Nat) : Tx := l.drop i ++ l.take i
theorem numSpan (B : Base) (H : List Res) (w : World) (a b : Int) (ha : -9223372036854775808 ≤ a ∧ a ≤ 9223372036854775807) (hb0 : -9223372036854775808 ≤ b ∧ b ≤ 9223372036854775807) (n : Nat) (hn : n ≤ 1000000) (hv : Inv B H w) :
  Calls Tryz.prog 92 #[vI a, vI b, vI n] w fun e w' => ∃ lo hi : Nat, e = .returned (.tuple #[vI lo, vI hi]) ∧ spanF a b n = (lo, hi) ∧ lo ≤ hi ∧ hi ≤ n ∧ Inv B H w' := by
 refine cW Tryz.func92 rfl Tryz.ntmps92 ?_;simp only [al];apply uN;intro _ _;apply uN;intro _ _;refine oG (vI n) rfl (ex_max2 (m := (n : Int)) (n := 0) rfl rfl rfl (if_neg (by omega))) ?_;intro _ _ _ _;refine uB (fun hb5 => ?_) fun hb5 => ?_
 ·refine oG (vI (a + (n : Int))) rfl (ex_add rfl rfl rfl (i64_in (by omega))) ?_;refine oG (vI (if 0 > (a + (n : Int)) then 0 else (a + (n : Int)))) rfl (ex_max2 (m := (a + (n : Int))) (n := 0) rfl rfl rfl rfl) ?_;intro _ _ _ _;refine uB (fun hb8 => ?_) fun hb8 => ?_
  ·refine oG (vI (b + (n : Int))) rfl (ex_add rfl rfl rfl (i64_in (by omega))) ?_;intro _ _;refine oG (vI ((n : Int) - 1)) rfl (ex_sub rfl rfl rfl (i64_in (by omega))) ?_;refine oG (vI (if ((n : Int) - 1) < (b + (n : Int)) then ((n : Int) - 1) else (b + (n : Int)))) rfl (ex_min2 (m := (b + (n : Int))) (n := ((n : Int) - 1)) rfl rfl rfl rfl) ?_;intro _ _ _ _;obtain ⟨s0, hs0⟩ : ∃ s : Int, s = (if 0 > (a + (n : Int)) then 0 else (a + (n : Int))) := ⟨_, rfl⟩;obtain ⟨t9, ht9⟩ : ∃ s : Int, s = (if ((n : Int) - 1) < (b + (n : Int)) then ((n : Int) - 1) else (b + (n : Int))) := ⟨_, rfl⟩;rw [← hs0];rw [← ht9];have hss : (if a < 0 then max (a + (n : Int)) 0 else a) = s0 := by rw [hs0]; (repeat' split) <;> omega
   have htt : min (if b < 0 then b + (n : Int) else b) ((n : Int) - 1) = t9 := by rw [ht9]; (repeat' split) <;> omega
   have hs9 : 0 ≤ s0 := by rw [← hss]; split <;> omega
   have ht8 : t9 ≤ (n : Int) - 1 := by rw [← htt]; omega
   apply uN;refine uB (fun hb12 => ?_) fun hb12 => ?_
   ·intro _ _;apply uN;refine bodyPost_ret (results_tmp2 rfl _ _ _) rfl (⟨0, 0, rfl, by unfold spanF; simp only [hss, htt]; exact if_pos (by omega), Nat.le_refl _, Nat.zero_le _, hv⟩)
   intro _ _;refine oG (vI (t9 + 1)) rfl (ex_add rfl rfl rfl (i64_in (by omega))) ?_;refine bodyPost_ret (results_tmp2 rfl _ _ _) rfl ?_;exact ⟨(s0).toNat, (t9 + 1).toNat, by show Ending.returned (Value.tuple #[vI s0, vI (t9 + 1)]) = _; rw [Int.toNat_of_nonneg (by omega), Int.toNat_of_nonneg (by omega)], by unfold spanF; simp only [hss, htt]; exact if_neg (by omega), by omega, by omega, hv⟩
  intro _ _;refine oG (vI ((n : Int) - 1)) rfl (ex_sub rfl rfl rfl (i64_in (by omega))) ?_;refine oG (vI (if ((n : Int) - 1) < b then ((n : Int) - 1) else b)) rfl (ex_min2 (m := b) (n := ((n : Int) - 1)) rfl rfl rfl rfl) ?_;intro _ _ _ _;obtain ⟨s0, hs0⟩ : ∃ s : Int, s = (if 0 > (a + (n : Int)) then 0 else (a + (n : Int))) := ⟨_, rfl⟩;obtain ⟨t9, ht9⟩ : ∃ s : Int, s = (if ((n : Int) - 1) < b then ((n : Int) - 1) else b) := ⟨_, rfl⟩;rw [← hs0];rw [← ht9];have hss : (if a < 0 then max (a + (n : Int)) 0 else a) = s0 := by rw [hs0]; (repeat' split) <;> omega
  have htt : min (if b < 0 then b + (n : Int) else b) ((n : Int) - 1) = t9 := by rw [ht9]; (repeat' split) <;> omega
  have hs9 : 0 ≤ s0 := by rw [← hss]; split <;> omega
  have ht8 : t9 ≤ (n : Int) - 1 := by rw [← htt]; omega
  apply uN;refine uB (fun hb18 => ?_) fun hb18 => ?_
  ·intro _ _;apply uN;refine bodyPost_ret (results_tmp2 rfl _ _ _) rfl (⟨0, 0, rfl, by unfold spanF; simp only [hss, htt]; exact if_pos (by omega), Nat.le_refl _, Nat.zero_le _, hv⟩)
  intro _ _;refine oG (vI (t9 + 1)) rfl (ex_add rfl rfl rfl (i64_in (by omega))) ?_;refine bodyPost_ret (results_tmp2 rfl _ _ _) rfl ?_;exact ⟨(s0).toNat, (t9 + 1).toNat, by show Ending.returned (Value.tuple #[vI s0, vI (t9 + 1)]) = _; rw [Int.toNat_of_nonneg (by omega), Int.toNat_of_nonneg (by omega)], by unfold spanF; simp only [hss, htt]; exact if_neg (by omega), by omega, by omega, hv⟩
 intro _ _ _ _;refine uB (fun hb23 => ?_) fun hb23 => ?_
 ·refine oG (vI (b + (n : Int))) rfl (ex_add rfl rfl rfl (i64_in (by omega))) ?_;intro _ _;refine oG (vI ((n : Int) - 1)) rfl (ex_sub rfl rfl rfl (i64_in (by omega))) ?_;refine oG (vI (if ((n : Int) - 1) < (b + (n : Int)) then ((n : Int) - 1) else (b + (n : Int)))) rfl (ex_min2 (m := (b + (n : Int))) (n := ((n : Int) - 1)) rfl rfl rfl rfl) ?_;intro _ _ _ _;obtain ⟨s0, hs0⟩ : ∃ s : Int, s = a := ⟨_, rfl⟩;obtain ⟨t9, ht9⟩ : ∃ s : Int, s = (if ((n : Int) - 1) < (b + (n : Int)) then ((n : Int) - 1) else (b + (n : Int))) := ⟨_, rfl⟩
  skip
  rw [← ht9];have hss : (if a < 0 then max (a + (n : Int)) 0 else a) = s0 := by rw [hs0]; (repeat' split) <;> omega
  have htt : min (if b < 0 then b + (n : Int) else b) ((n : Int) - 1) = t9 := by rw [ht9]; (repeat' split) <;> omega
  have hs9 : 0 ≤ s0 := by rw [← hss]; split <;> omega
  have ht8 : t9 ≤ (n : Int) - 1 := by rw [← htt]; omega
  apply uN;refine uB (fun hb27 => ?_) fun hb27 => ?_
  ·intro _ _;apply uN;refine bodyPost_ret (results_tmp2 rfl _ _ _) rfl (⟨0, 0, rfl, by unfold spanF; simp only [hss, htt]; exact if_pos (by omega), Nat.le_refl _, Nat.zero_le _, hv⟩)
  intro _ _;refine oG (vI (t9 + 1)) rfl (ex_add rfl rfl rfl (i64_in (by omega))) ?_;refine bodyPost_ret (results_tmp2 rfl _ _ _) rfl ?_;exact ⟨(a).toNat, (t9 + 1).toNat, by show Ending.returned (Value.tuple #[vI a, vI (t9 + 1)]) = _; rw [Int.toNat_of_nonneg (by omega), Int.toNat_of_nonneg (by omega)], by unfold spanF; simp only [hss, htt]; rw [if_neg (by omega), hs0], by omega, by omega, hv⟩
 intro _ _;refine oG (vI ((n : Int) - 1)) rfl (ex_sub rfl rfl rfl (i64_in (by omega))) ?_;refine oG (vI (if ((n : Int) - 1) < b then ((n : Int) - 1) else b)) rfl (ex_min2 (m := b) (n := ((n : Int) - 1)) rfl rfl rfl rfl) ?_;intro _ _ _ _;obtain ⟨s0, hs0⟩ : ∃ s : Int, s = a := ⟨_, rfl⟩;obtain ⟨t9, ht9⟩ : ∃ s : Int, s = (if ((n : Int) - 1) < b then ((n : Int) - 1) else b) := ⟨_, rfl⟩
 skip
 rw [← ht9];have hss : (if a < 0 then max (a + (n : Int)) 0 else a) = s0 := by rw [hs0]; (repeat' split) <;> omega
 have htt : min (if b < 0 then b + (n : Int) else b) ((n : Int) - 1) = t9 := by rw [ht9]; (repeat' split) <;> omega
 have hs9 : 0 ≤ s0 := by rw [← hss]; split <;> omega
 have ht8 : t9 ≤ (n : Int) - 1 := by rw [← htt]; omega
 apply uN;refine uB (fun hb33 => ?_) fun hb33 => ?_
 ·intro _ _;apply uN;refine bodyPost_ret (results_tmp2 rfl _ _ _) rfl (⟨0, 0, rfl, by unfold spanF; simp only [hss, htt]; exact if_pos (by omega), Nat.le_refl _, Nat.zero_le _, hv⟩)
 intro _ _;refine oG (vI (t9 + 1)) rfl (ex_add rfl rfl rfl (i64_in (by omega))) ?_;refine bodyPost_ret (results_tmp2 rfl _ _ _) rfl ?_;exact ⟨(a).toNat, (t9 + 1).toNat, by show Ending.returned (Value.tuple #[vI a, vI (t9 + 1)]) = _; rw [Int.toNat_of_nonneg (by omega), Int.toNat_of_nonneg (by omega)], by unfold spanF; simp only [hss, htt]; rw [if_neg (by omega), hs0], by omega, by omega, hv⟩
def InG (g : List (List UInt8 × Int)) (l : List (List UInt8)) : Prop := ∀ k, (lookA g k).isSome = true ↔ k ∈ l
theorem InG.nil : InG [] [] := fun k => by simp [lookA]
theorem InG.next {g : List (List UInt8 × Int)} {l : List (List UInt8)} {i : Nat} {x : List UInt8} (h : InG g (l.take i)) (hx : l[i]? = some x) (n : Int) : InG (updA g x n) (l.take (i + 1)) := fun k => by
 rw [look_upd, take_next hx, List.mem_append, List.mem_singleton];by_cases e : x = k
 ·rw [if_pos e]; exact ⟨fun _ => .inr e.symm, fun _ => rfl⟩
 rw [if_neg e]; exact (h k).trans ⟨.inl, fun h9 => h9.elim id fun h8 => absurd h8.symm e⟩
theorem InG.filter {g : List (List UInt8 × Int)} {l : List (List UInt8)} (h : InG g l) (z : Zs) : (z.filter fun y => !(lookA g y.2).isSome) = z.filter fun y => decide (y.2 ∉ l) := by
 congr 1
 funext y
 rw [Bool.eq_iff_iff, Bool.not_eq_true', decide_eq_true_iff, ← h y.2]
 simp
theorem zc4na149 (w : World) : (isAgg 149).run Tryz.prog w = .ok false w := by kernel_rfl
theorem zDelF (B : Base) (H : List Res) (w : World) (gb mb : Nat) (g9 : List (List UInt8 × Int)) (x : Int × List UInt8) (hv : Inv B (Res.cell gb [.map (some mb)] 149 :: Res.vmap mb (intE g9) :: H) w) :
  Calls Tryz.prog 125 #[.agg #[vI x.1, vS x.2], vP gb] w fun e w' => e = .returned (.bool (lookA g9 x.2).isSome) ∧ Inv B (Res.cell gb [.map (some mb)] 149 :: Res.vmap mb (intE g9) :: H) w' := by
 refine cW Tryz.func125 rfl Tryz.ntmps125 ?_;simp only [al];apply uN;intro _ _;refine sl_box (L := [vI x.1, vS x.2]) tV (wn rfl) rfl rfl hv (fun w => by kernel_rfl) (fun b2 w3 hv => ?_);apply uN;intro _ _;refine oL _ rfl (run_load1 zc4na149 (hv.load 1 0 rfl rfl)) ?_;refine oF (.pointer (some ⟨b2, 1, none⟩)) rfl (s9fa123_1 _ _ _) ?_;refine oL _ rfl (run_load1 s9na9 (hv.load 0 1 rfl rfl)) ?_;refine oG (.tuple #[vI ((lookA g9 x.2).getD 0), .bool ((lookA g9 x.2).isSome)]) rfl (ex_lookI1 2 rfl rfl rfl Tryz.underlying149 Tryz.underlying9 (fun w => by kernel_rfl) hv rfl) ?_;intro _ _;apply uN;refine bR rfl rfl ?_;exact ⟨rfl, (hv.kp [2, 2] 2 1)⟩
theorem zc4al149 : AL Tryz.prog 149 [.map none] := fun w => by kernel_rfl
theorem zc4sz149 : (Tryz.prog.info? 149).map (·.size) = some 1 := by kernel_rfl
theorem zc4callable125 : Callable Tryz.prog 125 := cb Tryz.func125 (by kernel_rfl)
theorem zc4callable115 : Callable Tryz.prog 115 := cb Tryz.func115 (by kernel_rfl)
theorem zsetDel (B : Base) (H : List Res) (w : World) (za : Option Addr) (zc : Nat) (z : Zs) (hokz : SliceOk za z.length zc) (hrz : RdV B [] za (memCells z)) (hmz : z.length ≤ 1000000) (xa : Option Addr) (xc : Nat) (xs : List (List UInt8)) (hrx : RdV B [] xa (textCells xs)) (hmx : xs.length ≤ 1000000) (hv : Inv B H w) :
  Calls Tryz.prog 94 #[.slice za z.length zc, .slice xa xs.length xc] w fun e w' => ∃ D oa oc out n, B.Le D ∧ e = .returned (.tuple #[.slice oa out.length oc, vI n]) ∧ SliceOk oa out.length oc ∧ RdV D [] oa (memCells out) ∧ out = z.filter (fun y => decide (y.2 ∉ xs)) ∧ n = (z.length : Int) - (out.length : Int) ∧ Inv D H w' := by
 refine cW Tryz.func94 rfl Tryz.ntmps94 ?_;simp only [al];apply uN;intro _ _;apply uN;intro _ _;refine oG (vI (xs.length : Int)) rfl (ex_len0 Tryz.underlying22 rfl rfl) ?_;refine sl_makeMapV (m := (xs.length : Int)) tV (wn rfl) rfl rfl Tryz.underlying149 hv (fun mp3 w4 hv => ?_);simp only [zP, po];refine sl_alloc tV (wn rfl) rfl hv zc4al149 (fun b5 w6 hv => ?_);refine xV 0 (.map (some mp3)) rfl hv zc4sz149 rfl rfl (fun w7 hv => ?_);simp only [zO, sp] at hv;apply uN;intro _ _ _ _;refine oG (vI (xs.length : Int)) rfl (ex_len0 Tryz.underlying22 rfl rfl) ?_
 gi_loopw [15] (fun x15 wr => ∃ (i : Nat) (g9 : List (List UInt8 × Int)), x15 = vI i ∧ i ≤ xs.length ∧ InG g9 (xs.take i) ∧ Inv B (Res.cell b5 [.map (some mp3)] 149 :: Res.vmap mp3 (intE g9) :: H) wr) (fun x15 _ => xs.length - (intOf x15).toNat)
 case atStart => exact ⟨0, [], rfl, Nat.zero_le _, InG.nil, ((hv.front 1 rfl).front 1 rfl)⟩
 case round =>
  obtain ⟨i, g9, rfl, hi, hg, hv⟩ := hrel;apply uN;intro _ _;refine uB (fun hb12 => ?_) fun hb12 => ?_
  ·intro _ _;apply uN;intro _ _ _ _;obtain ⟨x, hx⟩ : ∃ x, xs[i]? = some x := ⟨_, List.getElem?_eq_getElem (show i < xs.length by omega)⟩;obtain ⟨xb9, xo9, had, hrdx⟩ := text_reads hrx hx;subst had;apply uN;refine oG (.pointer (some ⟨xb9, xo9 + i, none⟩)) rfl (ex_index rfl rfl rfl (run_idx1 (k := i) Tryz.underlying22 s9es22 (by omega))) ?_;refine oL _ rfl (run_load1 s9na9 (hrdx _ _ _ (Base.Le.refl _) no_res hv 0 _ rfl)) ?_;refine oL _ rfl (run_load1 zc4na149 (hv.load 0 0 rfl rfl)) ?_;replace hv := hv.front 1 rfl;simp only [eS, eZ] at hv;refine sl_updI (k := x) (vI := (i : Int)) tV (wn rfl) rfl rfl rfl rfl Tryz.underlying149 Tryz.underlying9 hv (fun w16 hv => ?_);apply uN;refine oG (vI ((i + 1 : Nat) : Int)) rfl (ex_add rfl rfl rfl (by rw [i64_in (by omega)]; omega)) ?_;refine then_normal ?_
   go_roundw
   case rel => exact ⟨i + 1, _, rfl, by omega, hg.next hx _, (hv.front 1 rfl)⟩
   case measure => show xs.length - (((i + 1 : Nat) : Int)).toNat < xs.length - ((i : Int)).toNat; omega
  intro _ _ _ _;refine xC s1callable105 rfl ((cloneMem B _ _ za z.length zc (memCells z) hokz (memCells_len _) (memCells_one _) (by omega) hrz hv).mono ?_) rfl;rintro e w19 ⟨va, vc, rfl, hv⟩;apply eR;refine oG (.func (.func 125) #[] #[vP b5]) rfl (ex_makeFunc (c' := #[vP b5]) rfl (by simp only [List.map_toArray, List.map_nil]) (by simp only [List.map_toArray, List.map_cons, List.map_nil]; rfl)) ?_;replace hv := hv.front 2 rfl;simp only [eS, eZ] at hv;replace hv := hv.front 2 rfl;simp only [eS, eZ] at hv;replace hv := hv.front 2 rfl;simp only [eS, eZ] at hv;refine xC zc4callable115 rfl ((deleteMem B _ _ 125 #[vP b5] va vc z (fun y => (lookA g9 y.2).isSome) hmz zc4callable125 (fun K x w hv => (zDelF B _ w b5 mp3 g9 x (Inv.mid2.1 hv)).mono (fun e w2 h => ⟨h.1, Inv.mid2.2 h.2⟩)) hv).mono ?_) rfl;rintro e w20 ⟨ra, rc, rfl, hv⟩;apply eR;have hfl : (z.filter fun y => !(lookA g9 y.2).isSome).length ≤ z.length := List.length_filter_le _ _;apply uN;intro _ _;refine oG (vI (z.length : Int)) rfl (ex_len0 Tryz.underlying82 rfl rfl) ?_;refine oG (vI (((z.filter fun y => !(lookA g9 y.2).isSome).length) : Int)) rfl (ex_len0 Tryz.underlying82 rfl rfl) ?_;refine oG (vI ((z.length : Int) - (((z.filter fun y => !(lookA g9 y.2).isSome).length) : Int))) rfl (ex_sub rfl rfl rfl (i64_in (by omega))) ?_;refine bodyPost_ret (results_tmp2 rfl _ _ _) rfl ?_;obtain rfl : i = xs.length := by omega
  rw [List.take_length] at hg;have hft := hg.filter z;obtain ⟨D, hD, hv, hro, hoko, -⟩ := ((hv.sub (sC _ (sD _ (sD _ (sR _)))))).rowBy;exact ⟨D, ra, rc, _, _, hD, rfl, hoko, hro, hft, rfl, hv⟩
def rangeZ (z : Zs) (a b : Int) : Zs := (z.take (spanF a b z.length).2).drop (spanF a b z.length).1
theorem rangeZ_le (z : Zs) (a b : Int) : (rangeZ z a b).length ≤ z.length := by unfold rangeZ; rw [List.length_drop, List.length_take]; omega
theorem zc4callable92 : Callable Tryz.prog 92 := cb Tryz.func92 (by kernel_rfl)
theorem zsetRanks (B : Base) (H : List Res) (w : World) (za : Option Addr) (zc : Nat) (z : Zs) (hokz : SliceOk za z.length zc) (hrz : RdV B [] za (memCells z)) (hmz : z.length ≤ 1000000) (a b : Int) (ha : -9223372036854775808 ≤ a ∧ a ≤ 9223372036854775807) (hb0 : -9223372036854775808 ≤ b ∧ b ≤ 9223372036854775807) (hv : Inv B H w) :
  Calls Tryz.prog 91 #[.slice za z.length zc, vI a, vI b] w fun e w' => ∃ D oa oc out, B.Le D ∧ e = .returned (.slice oa out.length oc) ∧ SliceOk oa out.length oc ∧ RdV D [] oa (memCells out) ∧ out = rangeZ z a b ∧ Inv D H w' := by
 refine cW Tryz.func91 rfl Tryz.ntmps91 ?_;simp only [al];apply uN;intro _ _;apply uN;intro _ _;refine oG (vI (z.length : Int)) rfl (ex_len0 Tryz.underlying82 rfl rfl) ?_;refine xC zc4callable92 rfl ((numSpan B _ _ a b ha hb0 z.length hmz hv).mono ?_) rfl;rintro e w3 ⟨lo, hi, rfl, hsp, hlo, hhi, hv⟩;apply eR;intro _ _;obtain ⟨a5, c5, ha5, ok5, hr5⟩ := sliced_midV 2 hokz hrz (memCells_len _) hlo hhi (by decide);rw [mem_drop, mem_take] at hr5;have hrf : (z.drop lo).take (hi - lo) = rangeZ z a b := by unfold rangeZ; rw [hsp]; exact List.drop_take.symm
 rw [hrf] at hr5;have hml5 : (rangeZ z a b).length = hi - lo := by rw [← hrf, List.length_take, List.length_drop]; omega
 rw [← hml5] at ok5 ha5;apply uN;refine oG (.slice a5 ((rangeZ z a b).length) c5) rfl (ex_slice (lo' := some (vI lo)) (hi' := some (vI hi)) rfl rfl (congrArg some rfl) (congrArg some rfl) rfl ((run_lhAny Tryz.underlying82 s9es82 hlo (by have := hokz.le; omega)).trans (by rw [ha5]))) ?_;refine xC s1callable105 rfl ((cloneMem B _ _ a5 (rangeZ z a b).length c5 (memCells (rangeZ z a b)) ok5 (memCells_len _) (memCells_one _) (by omega) hr5 hv).mono ?_) rfl;rintro e w5 ⟨va, vc, rfl, hv⟩;apply eR;refine bR rfl rfl ?_;obtain ⟨D, hD, hv, hro, hoko, -⟩ := hv.rowBy;exact ⟨D, va, vc, _, hD, rfl, hoko, hro, rfl, hv⟩
theorem zScoresF (B : Base) (H : List Res) (w : World) (lb hb : Nat) (lo hi : Int) (x : Int × List UInt8) (hv : Inv B (Res.cell lb [vI lo] 3 :: Res.cell hb [vI hi] 3 :: H) w) :
  Calls Tryz.prog 116 #[.agg #[vI x.1, vS x.2], vP lb, vP hb] w fun e w' => e = .returned (.bool (decide (x.1 < lo) || decide (x.1 > hi))) ∧ Inv B (Res.cell lb [vI lo] 3 :: Res.cell hb [vI hi] 3 :: H) w' := by
 refine cW Tryz.func116 rfl Tryz.ntmps116 ?_;simp only [al];apply uN;intro _ _;refine sl_box (L := [vI x.1, vS x.2]) tV (wn rfl) rfl rfl hv (fun w => by kernel_rfl) (fun b2 w3 hv => ?_);apply uN;intro _ _;refine oF (vP b2) rfl (s11fa123_0 _ _ _) ?_;refine oL _ rfl (run_load1 s2na3 (hv.load 0 0 rfl rfl)) ?_;refine oL _ rfl (run_load1 s2na3 (hv.load 1 0 rfl rfl)) ?_;refine uB (fun hb5 => ?_) fun hb5 => ?_
 ·refine bR rfl rfl (⟨congrArg (fun b => Ending.returned (Value.bool b)) (by first | (rw [qT (show x.1 < lo by assumption)]; rfl) | (rw [qF (show ¬ x.1 < lo by assumption)]; rfl)), (hv.kp [2, 2] 2 1)⟩)
 refine oF (vP b2) rfl (s11fa123_0 _ _ _) ?_;refine oL _ rfl (run_load1 s2na3 (hv.load 0 0 rfl rfl)) ?_;refine oL _ rfl (run_load1 s2na3 (hv.load 2 0 rfl rfl)) ?_;refine oG (.bool (decide (x.1 > hi))) rfl (ex_gtr rfl rfl rfl rfl) ?_;refine bR rfl rfl ?_;exact ⟨congrArg (fun b => Ending.returned (Value.bool b)) (by first | (rw [qT (show x.1 < lo by assumption)]; rfl) | (rw [qF (show ¬ x.1 < lo by assumption)]; rfl)), (hv.kp [2, 2] 2 1)⟩
theorem zc4callable116 : Callable Tryz.prog 116 := cb Tryz.func116 (by kernel_rfl)
theorem zsetScores (B : Base) (H : List Res) (w : World) (za : Option Addr) (zc : Nat) (z : Zs) (hokz : SliceOk za z.length zc) (hrz : RdV B [] za (memCells z)) (hmz : z.length ≤ 1000000) (lo hi : Int) (hv : Inv B H w) :
  Calls Tryz.prog 80 #[.slice za z.length zc, vI lo, vI hi] w fun e w' => ∃ D oa oc out, B.Le D ∧ e = .returned (.slice oa out.length oc) ∧ SliceOk oa out.length oc ∧ RdV D [] oa (memCells out) ∧ out = z.filter (fun y => !(decide (y.1 < lo) || decide (y.1 > hi))) ∧ Inv D H w' := by
 refine cW Tryz.func80 rfl Tryz.ntmps80 ?_;simp only [al];apply uN;intro _ _;refine sl_box (L := [vI lo]) tV (wn rfl) rfl rfl hv (fun w => by kernel_rfl) (fun b2 w3 hv => ?_);refine sl_box (L := [vI hi]) tV (wn rfl) rfl rfl hv (fun w => by kernel_rfl) (fun b4 w5 hv => ?_);apply uN;intro _ _;refine xC s1callable105 rfl ((cloneMem B _ _ za z.length zc (memCells z) hokz (memCells_len _) (memCells_one _) (by omega) hrz hv).mono ?_) rfl;rintro e w7 ⟨va, vc, rfl, hv⟩;apply eR;refine oG (.func (.func 116) #[] #[vP b2, vP b4]) rfl (ex_makeFunc (c' := #[vP b2, vP b4]) rfl (by simp only [List.map_toArray, List.map_nil]) (by simp only [List.map_toArray, List.map_cons, List.map_nil]; rfl)) ?_;replace hv := hv.front 1 rfl;simp only [eS, eZ] at hv;replace hv := hv.front 2 rfl;simp only [eS, eZ] at hv;replace hv := hv.front 2 rfl;simp only [eS, eZ] at hv;refine xC zc4callable115 rfl ((deleteMem B _ _ 116 #[vP b2, vP b4] va vc z (fun y => decide (y.1 < lo) || decide (y.1 > hi)) hmz zc4callable116 (fun K x w hv => (zScoresF B _ w b2 b4 lo hi x (Inv.mid2.1 hv)).mono (fun e w2 h => ⟨h.1, Inv.mid2.2 h.2⟩)) hv).mono ?_) rfl;rintro e w8 ⟨ra, rc, rfl, hv⟩;apply eR;refine bR rfl rfl ?_;obtain ⟨D, hD, hv, hro, hoko, -⟩ := ((hv.sub (sC _ (sD _ (sD _ (sR _)))))).rowBy;exact ⟨D, ra, rc, _, hD, rfl, hoko, hro, rfl, hv⟩
theorem zc4callable124 : Callable Tryz.prog 124 := cb Tryz.func124 (by kernel_rfl)
theorem zsetBack (B : Base) (H : List Res) (w : World) (za : Option Addr) (zc : Nat) (z : Zs) (hokz : SliceOk za z.length zc) (hrz : RdV B [] za (memCells z)) (hmz : z.length ≤ 1000000) (hv : Inv B H w) :
  Calls Tryz.prog 89 #[.slice za z.length zc] w fun e w' => ∃ D oa oc out, B.Le D ∧ e = .returned (.slice oa out.length oc) ∧ SliceOk oa out.length oc ∧ RdV D [] oa (memCells out) ∧ out = z.reverse ∧ Inv D H w' := by
 refine cW Tryz.func89 rfl Tryz.ntmps89 ?_;simp only [al];apply uN;intro _ _;apply uN;intro _ _;refine xC s1callable105 rfl ((cloneMem B _ _ za z.length zc (memCells z) hokz (memCells_len _) (memCells_one _) (by omega) hrz hv).mono ?_) rfl;rintro e w3 ⟨va, vc, rfl, hv⟩;apply eR;intro _ _;refine xC zc4callable124 rfl ((revMems B _ _ va vc z hmz hv).mono ?_) rfl;rintro e w5 ⟨rfl, hv⟩;apply eR;intro _ _;apply uN;refine bR rfl rfl ?_;obtain ⟨D, hD, hv, hro, hoko, -⟩ := (hv).rowBy;exact ⟨D, va, vc, z.reverse, hD, by rw [List.length_reverse]; rfl, by rw [List.length_reverse]; exact hoko, hro, rfl, hv⟩
abbrev fitsI := ZFit
instance (n : Int) : Decidable (ZFit n) := inferInstanceAs (Decidable (_ ∧ _))
def addF (a : Int) : List Int → Option Int
 | [] => some a
 | b :: bs => if fitsI (a + b) then addF (a + b) bs else none
theorem addF_at {bs : List Int} {i : Nat} {b s : Int} {r : Option Int} (h : r = addF s (bs.drop i)) (hb : bs[i]? = some b) : r = if fitsI (s + b) then addF (s + b) (bs.drop (i + 1)) else none := by
 obtain ⟨hi, rfl⟩ := List.getElem?_eq_some_iff.1 hb;rw [h, List.drop_eq_getElem_cons hi]; rfl
theorem ndes23 (w : World) : (sizeOf (Tryz.prog.elem 23)).run Tryz.prog w = .ok 1 w := by kernel_rfl
theorem ndna3 (w : World) : (isAgg 3).run Tryz.prog w = .ok false w := by kernel_rfl
theorem numAdd (B : Base) (H : List Res) (w : World) (a : Int) (ha : -9223372036854775808 ≤ a ∧ a ≤ 9223372036854775807) (ba : Option Addr) (bc : Nat) (bs : List Int) (hrb : RdV B [] ba (intCells bs)) (hm : bs.length ≤ 1000000) (hbs : ∀ b ∈ bs, -9223372036854775808 ≤ b ∧ b ≤ 9223372036854775807) (hv : Inv B H w) :
  Calls Tryz.prog 76 #[vI a, .slice ba bs.length bc] w fun e w' => ∃ r ok, e = .returned (.tuple #[vI r, .bool ok]) ∧ ((ok = true ∧ (-9223372036854775808 ≤ r ∧ r ≤ 9223372036854775807) ∧ addF a bs = some r) ∨ (ok = false ∧ addF a bs = none)) ∧ Inv B H w' := by
 refine cW Tryz.func76 rfl Tryz.ntmps76 ?_;simp only [al];apply uN;intro _ _;apply uN;intro _ _;apply uN;intro _ _ _ _;refine oG (vI (bs.length : Int)) rfl (ex_len0 Tryz.underlying23 rfl rfl) ?_
 gi_loopw [6, 12] (fun x6 x12 wr => ∃ (i : Nat) (s : Int), x6 = vI s ∧ x12 = vI i ∧ i ≤ bs.length ∧ (-9223372036854775808 ≤ s ∧ s ≤ 9223372036854775807) ∧ addF a bs = addF s (bs.drop i) ∧ Inv B H wr) (fun x6 x12 _ => bs.length - (intOf x12).toNat)
 case atStart => exact ⟨0, a, rfl, rfl, Nat.zero_le _, ha, rfl, hv⟩
 case round =>
  obtain ⟨i, s, rfl, rfl, hi, hs, hsum, hv⟩ := hrel;apply uN;intro _ _;refine uB (fun hb7 => ?_) fun hb7 => ?_
  ·intro _ _;apply uN;intro _ _ _ _;obtain ⟨b, hb⟩ : ∃ x, bs[i]? = some x := ⟨_, List.getElem?_eq_getElem (show i < bs.length by omega)⟩;have hbf : -9223372036854775808 ≤ b ∧ b ≤ 9223372036854775807 := hbs b (List.mem_of_getElem? hb);obtain ⟨ib, io, had, hrdb⟩ := int_reads hrb hb;subst had;apply uN;refine oG (.pointer (some ⟨ib, io + i, none⟩)) rfl (ex_index rfl rfl rfl (run_idx1 (k := i) Tryz.underlying23 ndes23 (by omega))) ?_;refine oL _ rfl (run_load1 ndna3 (hrdb _ _ _ (Base.Le.refl _) no_res hv 0 _ rfl)) ?_;intro _ _ _ _;refine uB (fun hb13 => ?_) fun hb13 => ?_
   ·refine oG (vI (9223372036854775807 - b)) rfl (ex_sub rfl rfl rfl (i64_in (by omega))) ?_;refine uB (fun hb14 => ?_) fun hb14 => ?_
    ·intro _ _;apply uN;refine bodyPost_ret (results_tmp2 rfl _ _ _) rfl ?_;exact ⟨0, false, rfl, .inr ⟨rfl, by rw [addF_at hsum hb, if_neg (fun h9 : fitsI (s + b) => by have h8 := h9.1; have h7 := h9.2; omega)]⟩, hv⟩
    intro _ _ _ _;refine uB (fun hb18 => ?_) fun hb18 => ?_
    ·refine oG (vI ((-9223372036854775808) - b)) rfl (ex_sub rfl rfl rfl (i64_in (by omega))) ?_;refine uB (fun hb19 => ?_) fun hb19 => ?_
     ·intro _ _;apply uN;refine bodyPost_ret (results_tmp2 rfl _ _ _) rfl ?_;exact ⟨0, false, rfl, .inr ⟨rfl, by rw [addF_at hsum hb, if_neg (fun h9 : fitsI (s + b) => by have h8 := h9.1; have h7 := h9.2; omega)]⟩, hv⟩
     refine oG (vI (s + b)) rfl (ex_add rfl rfl rfl (i64_in (by omega))) ?_;refine oG (vI ((i + 1 : Nat) : Int)) rfl (ex_add rfl rfl rfl (by rw [i64_in (by omega)]; omega)) ?_;refine then_normal ?_
     go_roundw
     case rel => exact ⟨i + 1, s + b, rfl, rfl, by omega, by omega, by rw [addF_at hsum hb, if_pos (show fitsI (s + b) from ⟨by omega, by omega⟩)], hv⟩
     case measure => show bs.length - (((i + 1 : Nat) : Int)).toNat < bs.length - ((i : Int)).toNat; omega
    refine oG (vI (s + b)) rfl (ex_add rfl rfl rfl (i64_in (by omega))) ?_;refine oG (vI ((i + 1 : Nat) : Int)) rfl (ex_add rfl rfl rfl (by rw [i64_in (by omega)]; omega)) ?_;refine then_normal ?_
    go_roundw
    case rel => exact ⟨i + 1, s + b, rfl, rfl, by omega, by omega, by rw [addF_at hsum hb, if_pos (show fitsI (s + b) from ⟨by omega, by omega⟩)], hv⟩
    case measure => show bs.length - (((i + 1 : Nat) : Int)).toNat < bs.length - ((i : Int)).toNat; omega
   intro _ _ _ _;refine uB (fun hb23 => ?_) fun hb23 => ?_
   ·refine oG (vI ((-9223372036854775808) - b)) rfl (ex_sub rfl rfl rfl (i64_in (by omega))) ?_;refine uB (fun hb24 => ?_) fun hb24 => ?_
    ·intro _ _;apply uN;refine bodyPost_ret (results_tmp2 rfl _ _ _) rfl ?_;exact ⟨0, false, rfl, .inr ⟨rfl, by rw [addF_at hsum hb, if_neg (fun h9 : fitsI (s + b) => by have h8 := h9.1; have h7 := h9.2; omega)]⟩, hv⟩
    refine oG (vI (s + b)) rfl (ex_add rfl rfl rfl (i64_in (by omega))) ?_;refine oG (vI ((i + 1 : Nat) : Int)) rfl (ex_add rfl rfl rfl (by rw [i64_in (by omega)]; omega)) ?_;refine then_normal ?_
    go_roundw
    case rel => exact ⟨i + 1, s + b, rfl, rfl, by omega, by omega, by rw [addF_at hsum hb, if_pos (show fitsI (s + b) from ⟨by omega, by omega⟩)], hv⟩
    case measure => show bs.length - (((i + 1 : Nat) : Int)).toNat < bs.length - ((i : Int)).toNat; omega
   refine oG (vI (s + b)) rfl (ex_add rfl rfl rfl (i64_in (by omega))) ?_;refine oG (vI ((i + 1 : Nat) : Int)) rfl (ex_add rfl rfl rfl (by rw [i64_in (by omega)]; omega)) ?_;refine then_normal ?_
   go_roundw
   case rel => exact ⟨i + 1, s + b, rfl, rfl, by omega, by omega, by rw [addF_at hsum hb, if_pos (show fitsI (s + b) from ⟨by omega, by omega⟩)], hv⟩
   case measure => show bs.length - (((i + 1 : Nat) : Int)).toNat < bs.length - ((i : Int)).toNat; omega
  intro _ _ _ _;apply uN;refine bodyPost_ret (results_tmp2 rfl _ _ _) rfl ?_;obtain rfl : i = bs.length := by omega
  rw [List.drop_length] at hsum;exact ⟨s, true, rfl, .inl ⟨rfl, hs, hsum⟩, hv⟩
end Go.Proofs.YtgbhdfpobgefgaaGreatDoor
