/- zset.collect, Sum, Common. -/
import Derived.Test.YtgbhdfpobgefgaaGreatDoorCzNamC
import Derived.Test.YtgbhdfpobgefgaaGreatDoorCzNamD
import Derived.Test.YtgbhdfpobgefgaaGreatDoorCzNamH
import Derived.Test.YtgbhdfpobgefgaaGreatDoorCzNamB
import Derived.Test.YtgbhdfpobgefgaaGreatDoorRows
import Derived.Test.YtgbhdfpobgefgaaGreatDoorCzNamF
import Derived.Test.YtgbhdfpobgefgaaGreatDoorCzNamE
import Derived.Test.YtgbhdfpobgefgaaGreatDoorCzNamG
import Derived.Test.YtgbhdfpobgefgaaGreatDoorCzNamA
import Derived.Laws.Strings2
import Derived.Laws.IdiomStrings
set_option maxRecDepth 100000
set_option maxHeartbeats 16000000
set_option synthInstance.maxSize 65536
set_option synthInstance.maxHeartbeats 4000000
namespace Go.Proofs.YtgbhdfpobgefgaaGreatDoor
open Go.RowKit Go.Pm
def RowZ (B : Base) (v : Value) : Prop := ∃ (za : Option Addr) (zc : Nat) (z : Zs), v = .slice za z.length zc ∧ SliceOk za z.length zc ∧ RdV B [] za (memCells z) ∧ z.length ≤ 1000000 ∧ ∀ m ∈ z, ZFit m.1
theorem RowZ.more {B C : Base} {v : Value} (h : RowZ B v) (hB : B.Le C) : RowZ C v := by
 obtain ⟨za, zc, z, h1, h2, h3, h4⟩ := h;exact ⟨za, zc, z, h1, h2, h3.more hB (fun _ h => h), h4⟩
def FitG (g : List (List UInt8 × Int)) : Prop := ∀ e ∈ g, ZFit e.2
theorem FitG.nil : FitG [] := fun e h => by cases h
theorem FitG.upd {g : List (List UInt8 × Int)} (h : FitG g) (k : List UInt8) {n : Int} (hn : ZFit n) : FitG (updA g k n) := fun e he => (updA_mem g k n e he).elim (fun h9 => by rw [h9]; exact hn) (h e)
theorem FitG.get {g : List (List UInt8 × Int)} (h : FitG g) (k : List UInt8) : ZFit ((lookA g k).getD 0) := by
 induction g with
 | nil => exact (⟨by decide, by decide⟩ : ZFit 0)
 | cons e g ih =>
  unfold lookA
  split
  ·exact h e List.mem_cons_self
  exact ih fun x hx => h x (List.mem_cons_of_mem _ hx)
theorem wrap_fit (n : Int) : ZFit (IntKind.wrap .i64 n) := by
 unfold ZFit IntKind.wrap;simp only [IntKind.bits, IntKind.signed];by_cases h : n % 2 ^ 64 ≥ 2 ^ (64 - 1)
 ·simp only [h, decide_true, Bool.and_self, if_true]; omega
 simp only [h, decide_false, Bool.and_false, Bool.false_eq_true, if_false]; omega
theorem zc5es168 (w : World) : (sizeOf (Tryz.prog.elem 168)).run Tryz.prog w = .ok 1 w := by kernel_rfl
theorem zc5al123 : AL Tryz.prog 123 [vI 0, vS []] := fun w => by kernel_rfl
theorem zc5mk3 : (Tryz.prog.info? 3).map (fun i => (i.zero, i.size, i.bytes)) = some (some (vI 0), 1, 8) := by kernel_rfl
theorem zc5el23 : Elem Tryz.prog 23 3 (vI 0) 1 8 := elem_of Tryz.underlying23 zc5mk3 (by rfl) (by decide)
theorem zc5callable76 : Callable Tryz.prog 76 := cb Tryz.func76 (by kernel_rfl)
theorem zc5mk123 : (Tryz.prog.info? 123).map (fun i => (i.zero, i.size, i.bytes)) = some (some (.agg #[vI 0, vS []]), 2, 24) := by kernel_rfl
theorem zc5el82 : Elem Tryz.prog 82 123 (.agg #[vI 0, vS []]) 2 24 := elem_of Tryz.underlying82 zc5mk123 (by rfl) (by decide)
theorem zCollect (B : Base) (H : List Res) (w : World) (xa : Option Addr) (xc : Nat) (xs : List Value) (hrx : RdV B [] xa xs) (hzx : ∀ v ∈ xs, RowZ B v) (hmx : xs.length ≤ 1000000) (f : FuncId) (cb : Array Value) (hcal : Callable Tryz.prog f) (hf : ∀ (K : List Res) (s : List UInt8) (w : World), Inv B (K ++ H) w → Calls Tryz.prog f (#[vS s] ++ cb) w fun e w' => ∃ b, e = .returned (.bool b) ∧ Inv B (K ++ H) w') (hv : Inv B H w) :
  Calls Tryz.prog 121 #[.slice xa xs.length xc, .func (.func f) #[] cb] w fun e w' => ∃ D oa oc out ec, B.Le D ∧ e = .returned (.tuple #[.slice oa out.length oc, vI ec]) ∧ SliceOk oa out.length oc ∧ RdV D [] oa (memCells out) ∧ out.length ≤ 1000000 ∧ (∀ m ∈ out, ZFit m.1) ∧ Inv D H w' := by
 refine cW Tryz.func121 rfl Tryz.ntmps121 ?_;simp only [al];apply uN;intro _ _;apply uN;intro _ _;refine sl_newMapV tV (wn rfl) rfl hv (fun mp3 w4 hv => ?_);apply uN;intro _ _ _ _;refine oG (vI (xs.length : Int)) rfl (ex_len0 Tryz.underlying168 rfl rfl) ?_
 gi_loopw [19] (fun x19 wr => ∃ (i : Nat) (g9 : List (List UInt8 × Int)), x19 = vI i ∧ i ≤ xs.length ∧ FitG g9 ∧ Inv B (Res.vmap mp3 (intE g9) :: H) wr) (fun x19 _ => xs.length - (intOf x19).toNat)
 case atStart => exact ⟨0, [], rfl, Nat.zero_le _, FitG.nil, hv⟩
 case round =>
  obtain ⟨i, g9, rfl, hi, hfg, hv⟩ := hrel;apply uN;intro _ _;refine uB (fun hb9 => ?_) fun hb9 => ?_
  ·intro _ _;apply uN;intro _ _ _ _;obtain ⟨v9, hv9x⟩ : ∃ x, xs[i]? = some x := ⟨_, List.getElem?_eq_getElem (show i < xs.length by omega)⟩;obtain ⟨za, zc, z, hvz, hokz, hrz, hmz, hfz⟩ := hzx v9 (List.mem_of_getElem? hv9x);subst hvz;have hv8 := hv;obtain ⟨xb9, xo9, had9, hrdz⟩ := row1_reads (hrx.rdW []) hv9x;subst had9;have hv := hv8;clear hv8;apply uN;refine oG (.pointer (some ⟨xb9, xo9 + i, none⟩)) rfl (ex_index rfl rfl rfl (run_idx1 (k := i) Tryz.underlying168 zc5es168 (by omega))) ?_;refine oL _ rfl (run_load1 s1na82 (hrdz _ _ _ (Base.Le.refl _) no_res hv 0 _ rfl)) ?_;intro _ _;refine oG (vI (z.length : Int)) rfl (ex_len0 Tryz.underlying82 rfl rfl) ?_
   gi_loopw [25] (fun x25 wr => ∃ (j : Nat) (g8 : List (List UInt8 × Int)), x25 = vI j ∧ j ≤ z.length ∧ FitG g8 ∧ Inv B (Res.vmap mp3 (intE g8) :: H) wr) (fun x25 _ => z.length - (intOf x25).toNat)
   case atStart => exact ⟨0, g9, rfl, Nat.zero_le _, hfg, hv⟩
   case round =>
    obtain ⟨j, g8, rfl, hj, hfg8, hv⟩ := hrel;apply uN;intro _ _;refine uB (fun hb16 => ?_) fun hb16 => ?_
    ·intro _ _;apply uN;intro _ _ _ _;obtain ⟨m, hm⟩ : ∃ x, z[j]? = some x := ⟨_, List.getElem?_eq_getElem (show j < z.length by omega)⟩;obtain ⟨zb9, zo9, had, hrdm⟩ := mem_reads hrz hm;subst had;apply uN;refine oG (.pointer (some ⟨zb9, zo9 + j * 2, none⟩)) rfl (ex_index rfl rfl rfl (run_idx (k := j) Tryz.underlying82 s9es82 (by omega))) ?_;refine oL (.agg #[vI m.1, vS m.2]) rfl (run_loadR (cs := [vI m.1, vS m.2]) s9wd123 (Reads.mid (pre := []) (mid := [vI m.1, vS m.2]) (post := []) hrdm _ _ _ (Base.Le.refl _) no_res hv)) ?_;refine sl_alloc tV (wn rfl) rfl hv zc5al123 (fun b20 w21 hv => ?_);simp only [zP, po];refine zX 0 rfl hv s11sz123 rfl (fun w22 hv => ?_) (by exact ⟨rfl, rfl, trivial⟩);apply uN;intro _ _ _ _;refine oF (.pointer (some ⟨b20, 1, none⟩)) rfl (s9fa123_1 _ _ _) ?_;refine oL _ rfl (run_load1 s9na9 (hv.load 0 1 rfl rfl)) ?_;refine wpi_callV hcal tV wideC rfl (wn rfl) rfl rfl (args := #[vS m.2]) (by simp only [List.map_toArray, List.map_cons, List.map_nil]; rfl) ((hf [_, _] _ _ hv).mono ?_);rintro e w25 ⟨inb, rfl, hv⟩;apply eR;replace hv : Inv B (Res.cell b20 [vI m.1, vS m.2] 123 :: Res.vmap mp3 (intE g8) :: H) _ := hv;refine oG (.bool (!inb)) rfl (ex_not rfl rfl rfl) ?_;refine wpIn_cond_split (t := !inb) rfl (fun hc26 => ?_) (fun hc26 => ?_)
     ·apply uN;refine oG (vI ((j + 1 : Nat) : Int)) rfl (ex_add rfl rfl rfl (by rw [i64_in (by omega)]; omega)) ?_;refine then_normal ?_
      go_roundw
      case rel => exact ⟨j + 1, g8, rfl, by omega, hfg8, ((hv.kp [1] 1 1)).weak (Base.Le.refl _)⟩
      case measure => show z.length - (((j + 1 : Nat) : Int)).toNat < z.length - ((j : Int)).toNat; omega
     apply uN;intro _ _;refine oF (.pointer (some ⟨b20, 1, none⟩)) rfl (s9fa123_1 _ _ _) ?_;refine oL _ rfl (run_load1 s9na9 (hv.load 0 1 rfl rfl)) ?_;refine oG (vI ((lookA g8 m.2).getD 0)) rfl (ex_lookI0 1 rfl rfl rfl Tryz.underlying149 Tryz.underlying9 (fun w => by kernel_rfl) hv rfl) ?_;refine oF (vP b20) rfl (s11fa123_0 _ _ _) ?_;refine oL _ rfl (run_load1 s2na3 (hv.load 0 0 rfl rfl)) ?_;refine sl_rowOne (v := vI m.1) tV (wn rfl) rfl rfl hv zc5el23 rfl (fun b28 w29 hv => ?_);simp only [zP, po];obtain ⟨K30, hK30, hv, hrK30, -, -⟩ := (hv.cellRow (n := 1) (c := 1) (size := 1) rfl (by decide) (by decide)).rowBy;refine xC zc5callable76 rfl ((numAdd K30 _ _ ((lookA g8 m.2).getD 0) (hfg8.get m.2) _ 1 [m.1] hrK30 (Nat.le_of_ble_eq_true rfl) (fun b9 hb9 => by rw [List.mem_singleton.1 hb9]; exact (hfz m (List.mem_of_getElem? hm))) hv).mono ?_) rfl;rintro e w31 ⟨sum, sok, rfl, hsum, hv⟩;apply eR;intro _ _ _ _;refine oG (.bool (!sok)) rfl (ex_not rfl rfl rfl) ?_;refine wpIn_cond_split (t := !sok) rfl (fun hc34 => ?_) (fun hc34 => ?_)
     ·apply uN;intro _ _;apply uN;refine bodyPost_ret (results_tmp2 rfl _ _ _) rfl ?_;exact ⟨B, none, 0, [], 13, Base.Le.refl _, rfl, okZ0, rdV_nil, Nat.zero_le _, (fun _ h9 => by cases h9), ((hv.kp [] 0 2)).weak hK30⟩
     apply uN;have hsf : ZFit sum := hsum.elim (fun h9 => h9.2.1) (fun h9 => by rw [h9.1] at hc34; simp at hc34);apply uN;refine oF (.pointer (some ⟨b20, 1, none⟩)) rfl (s9fa123_1 _ _ _) ?_;refine oL _ rfl (run_load1 s9na9 (hv.load 0 1 rfl rfl)) ?_;replace hv := hv.front 1 rfl;simp only [eS, eZ] at hv;refine sl_updI (k := m.2) (vI := sum) tV (wn rfl) rfl rfl rfl rfl Tryz.underlying149 Tryz.underlying9 hv (fun w36 hv => ?_);apply uN;refine oG (vI ((j + 1 : Nat) : Int)) rfl (ex_add rfl rfl rfl (by rw [i64_in (by omega)]; omega)) ?_;refine then_normal ?_
     go_roundw
     case rel => exact ⟨j + 1, _, rfl, by omega, hfg8.upd _ hsf, ((hv.kp [] 1 1)).weak hK30⟩
     case measure => show z.length - (((j + 1 : Nat) : Int)).toNat < z.length - ((j : Int)).toNat; omega
    intro _ _;refine oG (vI ((i + 1 : Nat) : Int)) rfl (ex_add rfl rfl rfl (by rw [i64_in (by omega)]; omega)) ?_;refine then_normal ?_
    go_roundw
    case rel => exact ⟨i + 1, _, rfl, by omega, hfg8, hv⟩
    case measure => show xs.length - (((i + 1 : Nat) : Int)).toNat < xs.length - ((i : Int)).toNat; omega
  intro _ _ _ _ _ _;refine oG (vI (g9.length : Int)) rfl (ex_lenI 0 Tryz.underlying149 rfl rfl hv rfl) ?_;refine uB (fun hb41 => ?_) fun hb41 => ?_
  ·intro _ _;apply uN;refine bodyPost_ret (results_tmp2 rfl _ _ _) rfl (⟨B, none, 0, [], 22, Base.Le.refl _, rfl, okZ0, rdV_nil, Nat.zero_le _, (fun _ h9 => by cases h9), ((hv.kp [] 0 1)).weak (Base.Le.refl _)⟩)
  intro _ _;refine oG (vI (g9.length : Int)) rfl (ex_lenI 0 Tryz.underlying149 rfl rfl hv rfl) ?_;refine sl_makeRow (cap := g9.length) tV (wn rfl) rfl rfl rfl zc5el82 (by unfold maxLen; omega) (by omega) hv (fun b44 w45 hv => ?_);apply uN;intro _ _ _ _;replace hv := hv.front 1 rfl;simp only [eS, eZ] at hv;refine sl_rangeI tV (wn rfl) rfl rfl Tryz.underlying149 hv (fun it48 w49 hv => ?_);apply uN
  gi_loopw [13] (fun x13 wr => ∃ (d : List (List UInt8 × Int)) (oa : Option Addr) (oc : Nat), x13 = .slice oa d.length oc ∧ Inv B (Res.mit it48 mp3 (intE g9) (intE d) :: Res.row 123 2 (.slice oa d.length oc) d.length (memCells (d.map (fun e => (e.2, e.1)))) :: H) wr) (fun x13 _ => g9.length - slLen x13)
  case atStart => exact ⟨[], _, _, rfl, ((hv.front 1 rfl).front 1 rfl)⟩
  case round =>
   obtain ⟨d, oa, oc, rfl, hv⟩ := hrel;apply uN;intro _ _;refine sl_nextI tV (wn rfl) rfl rfl hv (fun hpm => ?_) (fun mk52 mv53 w54 hmem hlt hv => ?_)
   ·apply uN;intro _ _ _ _;replace hv := hv.front 1 rfl;simp only [eS, eZ] at hv;have hdl := hpm.length_eq;have hml : (d.map (fun e => (e.2, e.1))).length = d.length := List.length_map _;rw [← hml] at hv;rw [← hml];refine xC zc3callable110 rfl ((sortMem B _ _ _ (d.map (fun e => (e.2, e.1))) (by omega) hv).mono ?_) rfl;rintro e w57 ⟨rfl, hv⟩;apply eR;intro _ _;apply uN;refine bodyPost_ret (results_tmp2 rfl _ _ _) rfl ?_;obtain ⟨D, hD, hv, hro, hoko, -⟩ := ((hv.sub (sC _ (sD _ (sR _))))).rowBy;have hsl := (sortZ_perm (d.map (fun e => (e.2, e.1)))).length_eq;exact ⟨D, oa, oc, sortZ (d.map (fun e => (e.2, e.1))), 0, hD, by rw [hsl]; rfl, by rw [hsl]; exact hoko, hro, by rw [hsl]; omega, (fun m h9 => by
      obtain ⟨e, he, rfl⟩ := List.mem_map.1 ((sortZ_perm (d.map (fun e => (e.2, e.1)))).mem_iff.1 h9);exact hfg e (hpm.mem_iff.1 he)), hv⟩
   apply uN;intro _ _;apply uN;intro _ _;refine oG (.tuple #[vS mk52, vI mv53]) rfl (ex_entryI 0 rfl rfl hv rfl) ?_;refine oG (.agg #[vI mv53, vS mk52]) rfl (ex_buildN (vs := #[(0, vI mv53), (1, vS mk52)]) rfl (by simp only [List.map_toArray, List.map_cons, List.map_nil]; rfl) (by kernel_rfl)) ?_;refine sl_rowAgg (L := [vI mv53, vS mk52]) tV (wn rfl) rfl rfl hv zc5el82 rfl (by decide) (fun b61 w62 hv => ?_);simp only [zP, po];replace hv := hv.front 2 rfl;simp only [eS, eZ] at hv;refine sl_append (news := [vI mv53, vS mk52]) tV (wn rfl) rfl rfl rfl zc5el82 hv (ok_full (by omega)) rfl (rd_all (hv.get 1 rfl)) (by intro u hu; simp only [List.mem_cons, List.not_mem_nil, or_false] at hu; rcases hu with rfl | rfl <;> rfl) (by unfold maxLen; omega) (by omega) (fun rv63 w66 hv => ?_);obtain ⟨ra64, rc65, rfl⟩ := row_slice hv.head;apply uN;refine then_normal ?_
   go_roundw
   case rel => exact ⟨d ++ [(mk52, mv53)], _, _, by rw [List.length_append]; rfl, by rw [List.length_append, List.map_append, List.map_singleton, ← mem_snoc]; exact (hv.kp [2] 2 1)⟩
   case measure => show _ - slLen _ < _ - slLen _; simp only [slLen]; omega
theorem zSumF (B : Base) (H : List Res) (w : World) (s : List UInt8) (hv : Inv B H w) :
  Calls Tryz.prog 123 #[vS s] w fun e w' => ∃ b, e = .returned (.bool b) ∧ Inv B H w' := by
 refine cW Tryz.func123 rfl Tryz.ntmps123 ?_;simp only [al];apply uN;intro _ _;apply uN;intro _ _;apply uN;refine bR rfl rfl (⟨_, rfl, hv⟩)
theorem zc5callable123 : Callable Tryz.prog 123 := cb Tryz.func123 (by kernel_rfl)
theorem zc5callable121 : Callable Tryz.prog 121 := cb Tryz.func121 (by kernel_rfl)
theorem zSum (B : Base) (H : List Res) (w : World) (xa : Option Addr) (xc : Nat) (xs : List Value) (hrx : RdV B [] xa xs) (hzx : ∀ v ∈ xs, RowZ B v) (hmx : xs.length ≤ 1000000) (hv : Inv B H w) :
  Calls Tryz.prog 88 #[.slice xa xs.length xc] w fun e w' => ∃ D oa oc out ec, B.Le D ∧ e = .returned (.tuple #[.slice oa out.length oc, vI ec]) ∧ SliceOk oa out.length oc ∧ RdV D [] oa (memCells out) ∧ out.length ≤ 1000000 ∧ (∀ m ∈ out, ZFit m.1) ∧ Inv D H w' := by
 refine cW Tryz.func88 rfl Tryz.ntmps88 ?_;simp only [al];apply uN;intro _ _;apply uN;intro _ _;refine xC zc5callable121 rfl ((zCollect B _ _ xa xc xs hrx hzx hmx 123 #[] zc5callable123 (fun K s w hv => zSumF B _ w s hv) hv).mono ?_) rfl;rintro e w3 ⟨D, oa, oc, out, ec, hD, rfl, hoko, hro, hol, hof, hv⟩;apply eR;refine bodyPost_ret (results_tmp2 rfl _ _ _) rfl ?_;exact ⟨D, oa, oc, out, ec, hD, rfl, hoko, hro, hol, hof, hv⟩
theorem zc5na149 (w : World) : (isAgg 149).run Tryz.prog w = .ok false w := by kernel_rfl
theorem zc5na168 (w : World) : (isAgg 168).run Tryz.prog w = .ok false w := by kernel_rfl
theorem zCommonF (B : Base) (H : List Res) (w : World) (gb mb sb : Nat) (g9 : List (List UInt8 × Int)) (xa : Option Addr) (xc : Nat) (xs : List Value) (s : List UInt8) (hv : Inv B (Res.cell gb [.map (some mb)] 149 :: Res.vmap mb (intE g9) :: Res.cell sb [.slice xa xs.length xc] 168 :: H) w) :
  Calls Tryz.prog 122 #[vS s, vP gb, vP sb] w fun e w' => ∃ b, e = .returned (.bool b) ∧ Inv B (Res.cell gb [.map (some mb)] 149 :: Res.vmap mb (intE g9) :: Res.cell sb [.slice xa xs.length xc] 168 :: H) w' := by
 refine cW Tryz.func122 rfl Tryz.ntmps122 ?_;simp only [al];apply uN;intro _ _;apply uN;intro _ _;refine oL _ rfl (run_load1 zc5na149 (hv.load 0 0 rfl rfl)) ?_;refine oG (vI ((lookA g9 s).getD 0)) rfl (ex_lookI0 1 rfl rfl rfl Tryz.underlying149 Tryz.underlying9 (fun w => by kernel_rfl) hv rfl) ?_;refine oL _ rfl (run_load1 zc5na168 (hv.load 2 0 rfl rfl)) ?_;refine oG (vI (xs.length : Int)) rfl (ex_len0 Tryz.underlying168 rfl rfl) ?_;refine oG (.bool (decide (((lookA g9 s).getD 0) = (xs.length : Int)))) rfl (ex_eql rfl rfl rfl rfl) ?_;refine bR rfl rfl (⟨_, rfl, (((hv.front 2 rfl).front 2 rfl).front 2 rfl)⟩)
theorem zc5al149 : AL Tryz.prog 149 [.map none] := fun w => by kernel_rfl
theorem zc5sz149 : (Tryz.prog.info? 149).map (·.size) = some 1 := by kernel_rfl
theorem zc5callable122 : Callable Tryz.prog 122 := cb Tryz.func122 (by kernel_rfl)
theorem zCommon (B : Base) (H : List Res) (w : World) (xa : Option Addr) (xc : Nat) (xs : List Value) (hrx : RdV B [] xa xs) (hzx : ∀ v ∈ xs, RowZ B v) (hmx : xs.length ≤ 1000000) (hv : Inv B H w) :
  Calls Tryz.prog 87 #[.slice xa xs.length xc] w fun e w' => ∃ D oa oc out ec, B.Le D ∧ e = .returned (.tuple #[.slice oa out.length oc, vI ec]) ∧ SliceOk oa out.length oc ∧ RdV D [] oa (memCells out) ∧ out.length ≤ 1000000 ∧ (∀ m ∈ out, ZFit m.1) ∧ Inv D H w' := by
 refine cW Tryz.func87 rfl Tryz.ntmps87 ?_;simp only [al];apply uN;intro _ _;refine sl_box (L := [.slice xa xs.length xc]) tV (wn rfl) rfl rfl hv (fun w => by kernel_rfl) (fun b2 w3 hv => ?_);apply uN;intro _ _;refine sl_newMapV tV (wn rfl) rfl hv (fun mp5 w6 hv => ?_);refine sl_alloc tV (wn rfl) rfl hv zc5al149 (fun b7 w8 hv => ?_);refine xV 0 (.map (some mp5)) rfl hv zc5sz149 rfl rfl (fun w9 hv => ?_);simp only [zO, sp] at hv;apply uN;intro _ _ _ _;refine oL _ rfl (run_load1 zc5na168 (hv.load 2 0 rfl rfl)) ?_;refine oG (vI (xs.length : Int)) rfl (ex_len0 Tryz.underlying168 rfl rfl) ?_
 gi_loopw [12] (fun x12 wr => ∃ (i : Nat) (g9 : List (List UInt8 × Int)), x12 = vI i ∧ i ≤ xs.length ∧ FitG g9 ∧ Inv B (Res.cell b7 [.map (some mp5)] 149 :: Res.cell b2 [.slice xa xs.length xc] 168 :: Res.vmap mp5 (intE g9) :: H) wr) (fun x12 _ => xs.length - (intOf x12).toNat)
 case atStart => exact ⟨0, [], rfl, Nat.zero_le _, FitG.nil, (((hv.front 1 rfl).front 2 rfl).front 2 rfl)⟩
 case round =>
  obtain ⟨i, g9, rfl, hi, hfg, hv⟩ := hrel;apply uN;intro _ _;refine uB (fun hb14 => ?_) fun hb14 => ?_
  ·intro _ _;apply uN;intro _ _ _ _;obtain ⟨v9, hv9x⟩ : ∃ x, xs[i]? = some x := ⟨_, List.getElem?_eq_getElem (show i < xs.length by omega)⟩;obtain ⟨za, zc, z, hvz, hokz, hrz, hmz, hfz⟩ := hzx v9 (List.mem_of_getElem? hv9x);subst hvz;have hv8 := hv;obtain ⟨xb9, xo9, had9, hrdz⟩ := row1_reads (hrx.rdW []) hv9x;subst had9;have hv := hv8;clear hv8;apply uN;refine oG (.pointer (some ⟨xb9, xo9 + i, none⟩)) rfl (ex_index rfl rfl rfl (run_idx1 (k := i) Tryz.underlying168 zc5es168 (by omega))) ?_;refine oL _ rfl (run_load1 s1na82 (hrdz _ _ _ (Base.Le.refl _) no_res hv 0 _ rfl)) ?_;intro _ _;refine oG (vI (z.length : Int)) rfl (ex_len0 Tryz.underlying82 rfl rfl) ?_
   gi_loopw [18] (fun x18 wr => ∃ (j : Nat) (g8 : List (List UInt8 × Int)), x18 = vI j ∧ j ≤ z.length ∧ FitG g8 ∧ Inv B (Res.cell b7 [.map (some mp5)] 149 :: Res.cell b2 [.slice (some ⟨xb9, xo9, none⟩) xs.length xc] 168 :: Res.vmap mp5 (intE g8) :: H) wr) (fun x18 _ => z.length - (intOf x18).toNat)
   case atStart => exact ⟨0, g9, rfl, Nat.zero_le _, hfg, (((hv.front 2 rfl).front 2 rfl).front 2 rfl)⟩
   case round =>
    obtain ⟨j, g8, rfl, hj, hfg8, hv⟩ := hrel;apply uN;intro _ _;refine uB (fun hb21 => ?_) fun hb21 => ?_
    ·intro _ _;apply uN;intro _ _ _ _;obtain ⟨m, hm⟩ : ∃ x, z[j]? = some x := ⟨_, List.getElem?_eq_getElem (show j < z.length by omega)⟩;obtain ⟨zb9, zo9, had, hrdm⟩ := mem_reads hrz hm;subst had;apply uN;refine oG (.pointer (some ⟨zb9, zo9 + j * 2, none⟩)) rfl (ex_index rfl rfl rfl (run_idx (k := j) Tryz.underlying82 s9es82 (by omega))) ?_;refine oL (.agg #[vI m.1, vS m.2]) rfl (run_loadR (cs := [vI m.1, vS m.2]) s9wd123 (Reads.mid (pre := []) (mid := [vI m.1, vS m.2]) (post := []) hrdm _ _ _ (Base.Le.refl _) no_res hv)) ?_;refine sl_alloc tV (wn rfl) rfl hv zc5al123 (fun b25 w26 hv => ?_);simp only [zP, po];refine zX 0 rfl hv s11sz123 rfl (fun w27 hv => ?_) (by exact ⟨rfl, rfl, trivial⟩);apply uN;refine oL _ rfl (run_load1 zc5na149 (hv.load 1 0 rfl rfl)) ?_;refine oF (.pointer (some ⟨b25, 1, none⟩)) rfl (s9fa123_1 _ _ _) ?_;refine oL _ rfl (run_load1 s9na9 (hv.load 0 1 rfl rfl)) ?_;refine oG (vI ((lookA g8 m.2).getD 0)) rfl (ex_lookI0 3 rfl rfl rfl Tryz.underlying149 Tryz.underlying9 (fun w => by kernel_rfl) hv rfl) ?_;refine oG (vI (IntKind.wrap .i64 ((lookA g8 m.2).getD 0 + 1))) rfl (ex_add rfl rfl rfl (rfl)) ?_;replace hv := hv.front 3 rfl;simp only [eS, eZ] at hv;refine sl_updI (k := m.2) (vI := (IntKind.wrap .i64 ((lookA g8 m.2).getD 0 + 1))) tV (wn rfl) rfl rfl rfl rfl Tryz.underlying149 Tryz.underlying9 hv (fun w28 hv => ?_);apply uN;refine oG (vI ((j + 1 : Nat) : Int)) rfl (ex_add rfl rfl rfl (by rw [i64_in (by omega)]; omega)) ?_;refine then_normal ?_
     go_roundw
     case rel => exact ⟨j + 1, _, rfl, by omega, hfg8.upd _ (wrap_fit _), (hv.kp [3, 3] 3 1)⟩
     case measure => show z.length - (((j + 1 : Nat) : Int)).toNat < z.length - ((j : Int)).toNat; omega
    intro _ _;refine oG (vI ((i + 1 : Nat) : Int)) rfl (ex_add rfl rfl rfl (by rw [i64_in (by omega)]; omega)) ?_;refine then_normal ?_
    go_roundw
    case rel => exact ⟨i + 1, _, rfl, by omega, hfg8, (((hv.front 2 rfl).front 2 rfl).front 2 rfl)⟩
    case measure => show xs.length - (((i + 1 : Nat) : Int)).toNat < xs.length - ((i : Int)).toNat; omega
  intro _ _ _ _;replace hv := hv.front 1 rfl;simp only [eS, eZ] at hv;replace hv := hv.front 2 rfl;simp only [eS, eZ] at hv;replace hv := hv.front 2 rfl;simp only [eS, eZ] at hv;apply uN;refine oL _ rfl (run_load1 zc5na168 (hv.load 2 0 rfl rfl)) ?_;refine oG (.func (.func 122) #[] #[vP b7, vP b2]) rfl (ex_makeFunc (c' := #[vP b7, vP b2]) rfl (by simp only [List.map_toArray, List.map_nil]) (by simp only [List.map_toArray, List.map_cons, List.map_nil]; rfl)) ?_;refine xC zc5callable121 rfl ((zCollect B _ _ xa xc xs hrx hzx hmx 122 #[vP b7, vP b2] zc5callable122 (fun K s w hv => (zCommonF B _ w b7 mp5 b2 g9 xa xc xs s (Inv.mid3.1 hv)).mono (fun e w2 h => by obtain ⟨b, h1, h2⟩ := h; exact ⟨b, h1, Inv.mid3.2 h2⟩)) hv).mono ?_) rfl;rintro e w32 ⟨D, oa, oc, out, ec, hD, rfl, hoko, hro, hol, hof, hv⟩;apply eR;refine bodyPost_ret (results_tmp2 rfl _ _ _) rfl ?_;exact ⟨D, oa, oc, out, ec, hD, rfl, hoko, hro, hol, hof, (hv.kp [] 0 3)⟩
end Go.Proofs.YtgbhdfpobgefgaaGreatDoor
namespace Go.Pm
open Go.RowKit
def DW2 (P : Program) (ops : Array Oper) (mem : List Nat) (R : Act → World → Prop) (l1 l2 : List (Nat × Oper)) : List (Nat × Oper) → List (Nat × (World → Prop)) → (World → Prop) → Act → Prop
 | [], Fl, J, a => DW P ops mem R l1 Fl J a ∧ DW P ops mem R l2 Fl J a
 | x :: is, Fl, J, a =>
  (Region.wanted x.2 (yielded ops a.tmps) = false ∧ DW2 P ops mem R l1 l2 is Fl J (a.put x.2.dst undef)) ∨ (Region.wanted x.2 (yielded ops a.tmps) = true ∧
  ∃ v, ((∀ w, Adds P x.2 a w v) ∧ DW2 P ops mem R l1 l2 is Fl J (a.put x.2.dst v)) ∨ ∃ f : World → Prop, (∀ w, f w → Adds P x.2 a w v) ∧ (∀ w, J w → f w) ∧ DW2 P ops mem R l1 l2 is ((x.1, f) :: Fl) J (a.put x.2.dst v))
structure Rd (ops : Array Oper) (listed : Array Bool) (i : Nat) (o : Oper) : Prop where
 ho : ops[i]? = some o
 lt : i < ops.size
 lf : listed.getD i false = false
 prT : ∀ j, ahead ops j i = true → listed.getD j false = true
 not_ : ∀ q, ahead ops i q = true → listed.getD q false = false
 ct : toCome ops (listed.setIfInBounds i true) < toCome ops listed
 ls : ∀ q, (listed.setIfInBounds i true).getD q false = true ↔ q = i ∨ listed.getD q false = true
 closed : ∀ (j : Nat) (oj : Oper), ops[j]? = some oj → (listed.setIfInBounds i true).getD j false = true → ∀ k, binder oj k = true → (listed.setIfInBounds i true).getD k false = true
theorem rd_of {ops : Array Oper} {listed : Array Bool} {i : Nat} (hs : listed.size = ops.size) (hcl : ∀ (j : Nat) (o : Oper), ops[j]? = some o → listed.getD j false = true → ∀ k, binder o k = true → listed.getD k false = true) (hi : i ∈ Region.ready .any ops listed) : ∃ o, Rd ops listed i o := by
 obtain ⟨o, ho, hi2, hl, hpr⟩ := mem_ready hi;have hlf : listed.getD i false = false := by
  simp only [Array.getD_eq_getD_getElem?] at hl ⊢;rw [Array.getElem?_eq_getElem (by rw [hs]; exact hi2)] at hl ⊢
  simpa using hl
 have hls : ∀ q, (listed.setIfInBounds i true).getD q false = true ↔ q = i ∨ listed.getD q false = true := by
  intro q
  constructor
  ·exact getD_false_set
  rintro (rfl | h)
  ·simp only [Array.getD_eq_getD_getElem?];rw [Array.getElem?_setIfInBounds_self_of_lt (by rw [hs]; exact hi2)]
   rfl
  exact getD_set_true h
 refine ⟨o, ho, hi2, hlf, fun j hj => ?_, fun q hq => ?_, by have := toCome_set hi2 hl; omega, hls, fun j oj hj hlj k hk => ?_⟩
 ·cases ahead_reach hj with
  | one h hb => rw [ho] at h; cases h; exact hpr _ hb
  | step h hb hr => rw [ho] at h; cases h; exact hr.listed hcl (hpr _ hb)
 ·cases hlq : listed.getD q false with
  | false => rfl
  | true => rw [(ahead_reach hq).listed hcl hlq] at hlf; cases hlf
 rcases (hls j).1 hlj with e | e
 ·subst e; rw [ho] at hj; cases hj;exact (hls k).2 (.inr (hpr k hk))
 exact (hls k).2 (.inr (hcl j oj hj e k hk))
section
variable {P : Program} {ops : Array Oper} {mem perm pre is : List Nat} {R : Act → World → Prop} {Q : Exit → Act → World → Prop} {a0 a aS : Act} {listed : Array Bool} {w w' : World} {val : Nat → Value} {Fl : List (Nat × (World → Prop))} {J : World → Prop} {i : Nat} {o : Oper} {K : Act → World → Prop}
theorem Rd.lf2 (r : Rd ops listed i o) (q : Nat) (hq : (listed.setIfInBounds i true).getD q false = false) : q ≠ i ∧ listed.getD q false = false := by
 refine ⟨fun e => ?_, ?_⟩
 ·rw [(r.ls q).2 (.inl e)] at hq; cases hq
 cases h : listed.getD q false with
 | false => rfl
 | true => rw [(r.ls q).2 (.inr h)] at hq; cases hq
theorem DI.agr (hsel : ∀ (j : Nat) (o : Oper), ops[j]? = some o → notSel o = true) (hlook : ∀ (i : Nat) (o : Oper), ops[i]? = some o → ∀ t ∈ o.looksAt ops, ∀ (q : Nat) (o' : Oper), ops[q]? = some o' → o'.dst = some t → q = i ∨ ahead ops q i = true ∨ ahead ops i q = true)
  (I : DI P ops mem R a0 perm listed a w pre is val Fl J aS) (r : Rd ops listed i o) (ai : Act) (L : Nat → Prop) (hT : Tk ops L val a0 ai) (h1 : ∀ q, ahead ops q i = true → L q) (h2 : ∀ q, L q → q ≠ i ∧ ahead ops i q = false) :
  execOp ai.eval o = execOp a.eval o ∧ Region.wanted o (yielded ops ai.tmps) = Region.wanted o (yielded ops a.tmps) := by
 refine same_of (by rw [hT.size, I.tk.size]) (hsel i o r.ho) fun t ht => hT.agree I.tk t fun q o' hq hd => ?_
 rcases hlook i o r.ho t ht q o' hq hd with h | h | h
 ·subst h;exact ⟨fun h => ((h2 _ h).1 rfl).elim, fun h => by rw [r.lf] at h; cases h⟩
 ·exact ⟨fun _ => r.prT q h, fun _ => h1 q h⟩
 exact ⟨fun h3 => (by rw [(h2 q h3).2] at h; cases h), fun h3 => by rw [r.not_ q h] at h3; cases h3⟩
theorem DI.fired (hnd : onceDst ops = true) (hfit : ∀ (j : Nat) (o : Oper) (d : Tmp), ops[j]? = some o → o.dst = some d → d < a0.tmps.size) (I : DI P ops mem R a0 perm listed a w pre is val Fl J aS) (r : Rd ops listed i o) (hip : i ∈ pre) (hx : Ext w w') :
  DI P ops mem R a0 perm (listed.setIfInBounds i true) (a.put o.dst (val i)) w' pre is val Fl J aS := by
 refine ⟨by simpa using I.lsize, r.closed, (Tk.put hnd hfit I.tk r.ho (by rw [r.lf]; decide) rfl).iff (fun q => (r.ls q).symm) (fun _ _ => rfl), I.perm, I.tkS, I.dw, I.st, I.st _ _ I.inv hx, fun f hf hq => I.fl f hf (r.lf2 _ hq).2, fun q hq => ?_, fun q hq h => (r.ls q).2 (.inr (I.memd q hq h)), fun q hq h => I.pend q hq (r.lf2 q h).2⟩;rcases (r.ls q).1 hq with h | h
 ·subst h; exact hip
 exact I.sub q h
theorem DI.fire (hsel : ∀ (j : Nat) (o : Oper), ops[j]? = some o → notSel o = true) (hlook : ∀ (i : Nat) (o : Oper), ops[i]? = some o → ∀ t ∈ o.looksAt ops, ∀ (q : Nat) (o' : Oper), ops[q]? = some o' → o'.dst = some t → q = i ∨ ahead ops q i = true ∨ ahead ops i q = true)
  (I : DI P ops mem R a0 perm listed a w pre is val Fl J aS) (r : Rd ops listed i o) (hip : i ∈ pre) (hK : ∀ w', Ext w w' → K (a.put o.dst (val i)) w') : wpOp P ops Q i K a w := by
 obtain ⟨o', ai, L, h1, h2, h3, h4, h5, h6⟩ := I.pend i hip r.lf;rw [r.ho] at h1; cases h1;obtain ⟨he, hw⟩ := I.agr hsel hlook r ai L h2 h3 h4;unfold wpOp;rw [r.ho];simp only [];rcases h6 with ⟨h6, h7⟩ | ⟨h6, h7⟩
 ·rw [← hw, h6];simp only [Bool.false_eq_true, if_false];have := hK w (Ext.rfl' _);rw [h7] at this;exact this
 rw [← hw, h6];simp only [if_true];have hA : Adds P o ai w (val i) := by
  rcases h7 with h7 | ⟨h7, -⟩ | ⟨f, h7, h8⟩
  ·exact h7 w
  ·exact h7 w I.inv
  exact h8 w (I.fl _ h7 r.lf w I.inv)
 refine .inl (Oper.wp_mono (fun a' w' ⟨v, ha, hv, hx⟩ => ?_) (wp_move he (by rw [h2.size, I.tk.size]) hA));rw [ha, hv];exact hK w' hx
theorem DI.step (hnd : onceDst ops = true) (hfit : ∀ (j : Nat) (o : Oper) (d : Tmp), ops[j]? = some o → o.dst = some d → d < a0.tmps.size) (hsel : ∀ (j : Nat) (o : Oper), ops[j]? = some o → notSel o = true) (hlook : ∀ (i : Nat) (o : Oper), ops[i]? = some o → ∀ t ∈ o.looksAt ops, ∀ (q : Nat) (o' : Oper), ops[q]? = some o' → o'.dst = some t → q = i ∨ ahead ops q i = true ∨ ahead ops i q = true)
  (hnp : perm.Nodup) (hpo : pwOk ops [] perm = true) (I : DI P ops mem R a0 perm listed a w pre (i :: is) val Fl J aS) (hm : i ∈ mem) (r : Rd ops listed i o)
  (hK : ∀ a' w' val' J' aS', DI P ops mem R a0 perm (listed.setIfInBounds i true) a' w' (pre ++ [i]) is val' Fl J' aS' → K a' w') : wpOp P ops Q i K a w := by
 have hnp2 : (pre ++ i :: is).Nodup := I.perm ▸ hnp;have hpw2 : pwOk ops [] (pre ++ i :: is) = true := I.perm ▸ hpo;have hmp2 : i ∉ pre := fun h => by
  rw [List.nodup_append] at hnp2;exact hnp2.2.2 i h i (by simp) rfl
 have hpb : ∀ q, q ∈ pre → q ≠ i ∧ ahead ops i q = false := by
  intro q hq;refine ⟨fun e => hmp2 (e ▸ hq), ?_⟩;obtain ⟨p1, p2, rfl⟩ := List.append_of_mem hq;rw [List.append_assoc, List.cons_append] at hpw2;exact (pwOk_at hpw2 i (by simp)).1
 obtain ⟨he, hw⟩ := I.agr hsel hlook r aS (· ∈ pre) I.tkS (fun q hq => I.sub q (r.prT q hq)) hpb;have hdw := I.dw;simp only [pm, List.map_cons, DWE] at hdw;rw [if_pos (by simpa using hm)] at hdw;have hoo : ops.getD i default = o := by simp [Array.getD_eq_getD_getElem?, r.ho]
 rw [hoo] at hdw;unfold wpOp;rw [r.ho];simp only []
 suffices nx : ∀ v J' w', (∀ w w', J' w → Ext w w' → J' w') → J' w' → (∀ f ∈ Fl, ahead ops f.1 i = false → ∀ w, listed.getD f.1 false = false → J' w → f.2 w) → DW P ops mem R (pm ops is) Fl J' (aS.put o.dst v) → K (a.put o.dst v) w' by
  rcases hdw with ⟨h1, h2⟩ | ⟨h1, h2⟩
  ·rw [← hw, h1];simp only [Bool.false_eq_true, if_false];exact nx undef J w I.st I.inv (fun f hf _ w hl hJ => I.fl f hf hl w hJ) h2
  rw [← hw, h1];simp only [if_true];refine .inl (Oper.wp_mono (fun a' w' ⟨v, ha, J', hst, hJ', hfl, hdw'⟩ => ?_) (wp_move he (by rw [I.tkS.size, I.tk.size]) (h2 w I.inv)));rw [ha];exact nx v J' w' hst hJ' (fun f hf ha w _ => hfl.at f hf ha w) hdw'
 intro v J' w' hst hJ' hfl hdw';have hval : ∀ q, q ∈ pre → val q = if q = i then v else val q := fun q hq => by rw [if_neg (hpb q hq).1]
 refine hK _ _ (fun q => if q = i then v else val q) J' (aS.put o.dst v) ⟨by simpa using I.lsize, r.closed, ?_, by rw [I.perm]; simp, ?_, hdw', hst, hJ', ?_, ?_, ?_, ?_⟩
 ·exact (Tk.put hnd hfit (I.tk.iff (fun _ => Iff.rfl) fun q hq => hval q (I.sub q hq)) r.ho (by rw [r.lf]; decide) (if_pos rfl)).iff (fun q => (r.ls q).symm) (fun _ _ => rfl)
 ·refine (Tk.put hnd hfit (I.tkS.iff (fun _ => Iff.rfl) hval) r.ho hmp2 (if_pos rfl)).iff (fun q => ?_) (fun _ _ => rfl)
  simp [or_comm]
 ·intro f hf hq;refine fun w => hfl f hf ?_ w (r.lf2 _ hq).2
  cases ha : ahead ops f.1 i with
  | false => rfl
  | true => have h9 := (r.lf2 _ hq).2; rw [r.prT _ ha] at h9; cases h9
 ·intro q hq;rcases (r.ls q).1 hq with h | h
  ·subst h; simp
  simp [I.sub q h]
 ·intro q hq hqp;rcases List.mem_append.1 hqp with h | h
  ·exact (r.ls q).2 (.inr (I.memd q hq h))
  exact (r.ls q).2 (.inl (List.mem_singleton.1 h))
 intro q hq hlq;obtain ⟨hqi, hlq⟩ := r.lf2 q hlq;have hqp : q ∈ pre := by
  rcases List.mem_append.1 hq with h | h
  ·exact h
  exact (hqi (List.mem_singleton.1 h)).elim
 obtain ⟨o2, ai, L, h1, h2, h3, h4, h5, h6⟩ := I.pend q hqp hlq;have hqv := hval q hqp;refine ⟨o2, ai, L, h1, h2.iff (fun _ => Iff.rfl) (fun r hr => hval r (h5 r hr)), h3, h4, fun r hr => by simp [h5 r hr], ?_⟩;simp only [← hqv];rcases h6 with h6 | ⟨h6, h7⟩
 ·exact .inl h6
 refine .inr ⟨h6, ?_⟩;rcases h7 with h7 | ⟨h7, h8⟩ | ⟨f, h7, h8⟩
 ·exact .inl h7
 ·exfalso;simp only [pm, List.map_cons, tied] at h8;rw [show mem.contains i = true by simpa using hm] at h8;rw [r.prT q h8] at hlq; cases hlq
 exact .inr (.inr ⟨f, h7, h8⟩)
end
structure Pre2 (P : Program) (ops : Array Oper) (a0 : Act) (pre : List Nat) (val : Nat → Value) (Fl : List (Nat × (World → Prop))) (J : World → Prop) (aS : Act) : Prop where
 tkS : Tk ops (· ∈ pre) val a0 aS
 fl : ∀ f ∈ Fl, ∀ w, J w → f.2 w
 pend : ∀ i, i ∈ pre → ∃ (o : Oper) (ai : Act) (L : Nat → Prop), ops[i]? = some o ∧ Tk ops L val a0 ai ∧ (∀ q, ahead ops q i = true → L q) ∧ (∀ q, L q → q ≠ i ∧ ahead ops i q = false) ∧ (∀ q, L q → q ∈ pre) ∧
  ((Region.wanted o (yielded ops ai.tmps) = false ∧ val i = undef) ∨ (Region.wanted o (yielded ops ai.tmps) = true ∧ ((∀ w, Adds P o ai w (val i)) ∨ ∃ f : World → Prop, (i, f) ∈ Fl ∧ ∀ w, f w → Adds P o ai w (val i))))
theorem walk2 {P : Program} {ops : Array Oper} {mem perm r0 : List Nat} {R : Act → World → Prop} {a0 : Act} {J : World → Prop} {l1 l2 : List (Nat × Oper)} (hnd : onceDst ops = true) (hfit : ∀ (j : Nat) (o : Oper) (d : Tmp), ops[j]? = some o → o.dst = some d → d < a0.tmps.size) (hno : ∀ i, ahead ops i i = false)
  (hnp : perm.Nodup) (hlt : ∀ i ∈ perm, i < ops.size) (hpo : pwOk ops [] perm = true) (hpre : ∀ i q, i ∈ perm → ahead ops q i = true → q ∈ perm) :
  ∀ (is pre : List Nat) (val : Nat → Value) (Fl : List (Nat × (World → Prop))) (aS : Act), perm = pre ++ (is ++ r0) → Pre2 P ops a0 pre val Fl J aS → DW2 P ops mem R l1 l2 (pm ops is) Fl J aS →
  ∃ val' Fl' aS', Pre2 P ops a0 (pre ++ is) val' Fl' J aS' ∧ DW P ops mem R l1 Fl' J aS' ∧ DW P ops mem R l2 Fl' J aS' := by
 intro is
 induction is with
 | nil => intro pre val Fl aS hp I h; exact ⟨val, Fl, aS, by rw [List.append_nil]; exact I, h.1, h.2⟩
 | cons i is ih =>
  intro pre val Fl aS hp I hdw;have hip : i ∈ perm := by rw [hp]; simp
  have hi := hlt i hip;have hp' : perm = pre ++ i :: (is ++ r0) := hp;have hnd2 : (pre ++ i :: (is ++ r0)).Nodup := hp' ▸ hnp;have hpo2 : pwOk ops [] (pre ++ i :: (is ++ r0)) = true := hp' ▸ hpo;have hipre : i ∉ pre := fun h => by
   rw [List.nodup_append] at hnd2;exact hnd2.2.2 i h i (by simp) rfl
  have hio : ops[i]? = some (ops.getD i default) := by simp [Array.getD, hi]
  have hpa : ∀ q, ahead ops q i = true → q ∈ pre := by
   intro q hq;have hqp := hpre i q hip hq;rw [hp'] at hqp;rcases List.mem_append.1 hqp with h | h
   ·exact h
   rcases List.mem_cons.1 h with h | h
   ·subst h; rw [hno] at hq; cases hq
   have := (pwOk_at hpo2 q h).1;rw [this] at hq; cases hq
  have hpb : ∀ q, q ∈ pre → q ≠ i ∧ ahead ops i q = false := by
   intro q hq;refine ⟨fun e => hipre (e ▸ hq), ?_⟩;obtain ⟨p1, p2, rfl⟩ := List.append_of_mem hq;have h2 := hpo2;rw [List.append_assoc, List.cons_append] at h2;exact (pwOk_at h2 i (by simp)).1
  have next : ∀ v Fl', (∀ f ∈ Fl, f ∈ Fl') → (∀ f ∈ Fl', f ∈ Fl ∨ ∀ w, J w → f.2 w) → DW2 P ops mem R l1 l2 (pm ops is) Fl' J (aS.put (ops.getD i default).dst v) →
    ((Region.wanted (ops.getD i default) (yielded ops aS.tmps) = false ∧ v = undef) ∨ (Region.wanted (ops.getD i default) (yielded ops aS.tmps) = true ∧
     ((∀ w, Adds P (ops.getD i default) aS w v) ∨ ∃ f : World → Prop, (i, f) ∈ Fl' ∧ ∀ w, f w → Adds P (ops.getD i default) aS w v))) →
    ∃ val' Fl' aS', Pre2 P ops a0 (pre ++ i :: is) val' Fl' J aS' ∧ DW P ops mem R l1 Fl' J aS' ∧ DW P ops mem R l2 Fl' J aS' := by
   intro v Fl' hF1 hF2 hdw hob;have hval : ∀ q, q ∈ pre → val q = if q = i then v else val q := fun q hq => by rw [if_neg (hpb q hq).1]
   have hg := ih (pre ++ [i]) (fun q => if q = i then v else val q) Fl' _ (by rw [hp]; simp) ⟨?_, ?_, ?_⟩ hdw
   ·rw [List.append_assoc] at hg; exact hg
   ·refine (Tk.put hnd hfit (I.tkS.iff (fun _ => Iff.rfl) hval) hio hipre (if_pos rfl)).iff (fun q => ?_) (fun _ _ => rfl)
    simp [or_comm]
   ·intro f hf;rcases hF2 f hf with h | h
    ·exact I.fl f h
    exact h
   intro q hq;rcases List.mem_append.1 hq with h | h
   ·obtain ⟨o, ai, L, h1, h2, h3, h4, h5, h6⟩ := I.pend q h;have hqv := hval q h;refine ⟨o, ai, L, h1, h2.iff (fun _ => Iff.rfl) (fun r hr => hval r (h5 r hr)), h3, h4, fun r hr => by simp [h5 r hr], ?_⟩;simp only [← hqv];rcases h6 with h6 | ⟨h6, h7⟩
    ·exact .inl h6
    refine .inr ⟨h6, ?_⟩;rcases h7 with h7 | ⟨f, h7, h8⟩
    ·exact .inl h7
    exact .inr ⟨f, hF1 _ h7, h8⟩
   have := List.mem_singleton.1 h;subst this;refine ⟨_, aS, (· ∈ pre), hio, I.tkS.iff (fun _ => Iff.rfl) hval, hpa, hpb, fun r hr => by simp [hr], ?_⟩
   simpa using hob
  simp only [pm, List.map_cons, DW2] at hdw;rcases hdw with ⟨h1, h2⟩ | ⟨h1, v, ⟨h2, h3⟩ | ⟨f, h2, h3, h4⟩⟩
  ·exact next undef Fl (fun _ h => h) (fun _ h => .inl h) h2 (.inl ⟨h1, rfl⟩)
  ·exact next v Fl (fun _ h => h) (fun _ h => .inl h) h3 (.inr ⟨h1, .inl h2⟩)
  refine next v ((i, f) :: Fl) (fun _ h => List.mem_cons_of_mem _ h) (fun g hg => ?_) h4 (.inr ⟨h1, .inr ⟨f, by simp, h2⟩⟩);rcases List.mem_cons.1 hg with rfl | hg
  ·exact .inr h3
  exact .inl hg
def okT (ops : Array Oper) (mem pre r1 r2 : List Nat) (x y k : Nat) : Bool :=
 backward ops && (onceDst ops && (fitsDst ops k && (ops.all notSel && (lookOk ops && (pre.all (fun i => !mem.contains i) && (mem.contains x && (mem.contains y && (r1.all (fun i => i == y || ahead ops x i) &&
 (pwOk ops mem r1 && (pwOk ops mem r2 && (decide (pre ++ (x :: r1)).Nodup && (decide (pre ++ (y :: r2)).Nodup && (decide ((pre ++ (x :: r1)).length = ops.size) && (decide ((pre ++ (y :: r2)).length = ops.size) &&
 ((pre ++ (x :: r1)).all (· < ops.size) && ((pre ++ (y :: r2)).all (· < ops.size) && (pwOk ops [] (pre ++ (x :: r1)) && pwOk ops [] (pre ++ (y :: r2)))))))))))))))))))
theorem all_in {n : Nat} {perm : List Nat} (hnp : perm.Nodup) (hpl : perm.length = n) (hlt : ∀ i ∈ perm, i < n) (i : Nat) : i ∈ perm ↔ i < n := ⟨hlt i, fun hi => by
 have hsub : perm ⊆ List.range n := fun x hx => List.mem_range.2 (hlt x hx)
 exact Classical.byContradiction fun hni => by
  have h1 : (i :: perm).Nodup := List.nodup_cons.2 ⟨hni, hnp⟩;have h2 : (i :: perm).length ≤ (List.range n).length := List.Nodup.length_le_of_subset h1 (fun x hx => by
   rcases List.mem_cons.1 hx with rfl | hx
   ·exact List.mem_range.2 hi
   exact hsub hx)
  simp at h2
  omega⟩
section
variable {n : Nat} {P : Program} {ops : Array Oper} {Q : Exit → Act → World → Prop} {a0 : Act} {w0 : World} {B : Base} {H : List Res}
theorem any_t {J : World → Prop} (mem pre r1 r2 : List Nat) (x y k : Nat) (hsize : a0.tmps.size = k) (hck : okT ops mem pre r1 r2 x y k = true) (hst : ∀ w w', J w → Ext w w' → J w') (hv : J w0)
    (h : DW2 P ops mem (Q .normal) (pm ops (x :: r1)) (pm ops (y :: r2)) (pm ops pre) [] J a0) : wpAny P .any ops Q ops.size (Array.replicate ops.size false) a0 { w0 with drawn := w0.drawn + 1 } := by
  unfold okT at hck;simp only [Bool.and_eq_true] at hck;obtain ⟨hbk, hnd, hft, hns, hlk, hpm, hx, hy, hxr, hm1, hm2, hn1, hn2, hl1, hl2, ht1, ht2, ho1, ho2⟩ := hck;have hn1 := of_decide_eq_true hn1;have hn2 := of_decide_eq_true hn2;have hl1 := of_decide_eq_true hl1;have hl2 := of_decide_eq_true hl2;have hx : x ∈ mem := by simpa using hx
  have hy : y ∈ mem := by simpa using hy
  have hlt1 : ∀ i ∈ pre ++ (x :: r1), i < ops.size := fun i hi => by simpa using List.all_eq_true.1 ht1 i hi
  have hlt2 : ∀ i ∈ pre ++ (y :: r2), i < ops.size := fun i hi => by simpa using List.all_eq_true.1 ht2 i hi
  have ha1 := all_in hn1 hl1 hlt1;have ha2 := all_in hn2 hl2 hlt2;have hfit : ∀ (j : Nat) (o : Oper) (d : Tmp), ops[j]? = some o → o.dst = some d → d < a0.tmps.size := by
    intro j o d hj hd;have := List.all_eq_true.1 hft o (by rw [List.mem_iff_getElem?]; exact ⟨j, by simpa using hj⟩);rw [hd] at this;rw [hsize]
    simpa using this
  have hsel : ∀ (j : Nat) (o : Oper), ops[j]? = some o → notSel o = true := fun j o hj => by
    obtain ⟨hj2, rfl⟩ := Array.getElem?_eq_some_iff.1 hj;exact (Array.all_eq_true.1 hns) j hj2
  have hlook : ∀ (i : Nat) (o : Oper), ops[i]? = some o → ∀ t ∈ o.looksAt ops, ∀ (q : Nat) (o' : Oper), ops[q]? = some o' → o'.dst = some t → q = i ∨ ahead ops q i = true ∨ ahead ops i q = true := fun i o hi t ht q o' hq hd => by
    have h1 := List.all_eq_true.1 hlk (o, i) (by rw [List.mem_iff_getElem?]; exact ⟨i, by simp [hi]⟩);have h2 := List.all_eq_true.1 h1 t ht;have h3 := List.all_eq_true.1 h2 (o', q) (by rw [List.mem_iff_getElem?]; exact ⟨q, by simp [hq]⟩)
    simpa [hd] using h3
  have hno : ∀ i, ahead ops i i = false := fun i => by
    cases h : ahead ops i i with
    | false => rfl
    | true => have := ahead_lt hbk h; omega
  have hpre1 : ∀ i q, i ∈ pre ++ (x :: r1) → ahead ops q i = true → q ∈ pre ++ (x :: r1) := fun i q hi hq => (ha1 q).2 (Nat.lt_trans (ahead_lt hbk hq) (hlt1 i hi))
  obtain ⟨val, Fl, aS, I0, hd1, hd2⟩ := walk2 (r0 := x :: r1) hnd hfit hno hn1 hlt1 ho1 hpre1 pre [] (fun _ => undef) [] a0 rfl ⟨(Tk.start (val := fun _ => undef)).iff (fun q => by simp) (fun _ _ => rfl), fun f hf => (by cases hf), fun i hi => (by cases hi)⟩ h;rw [List.nil_append] at I0;have hxp : x ∉ pre := fun h => by
    rw [List.nodup_append] at hn1;exact hn1.2.2 x h x (by simp) rfl
  have two : ∀ (fuel : Nat) (listed : Array Bool) (a : Act) (w : World), toCome ops listed ≤ fuel → DI P ops mem (Q .normal) a0 (pre ++ (x :: r1)) listed a w pre (x :: r1) val Fl J aS → DI P ops mem (Q .normal) a0 (pre ++ (y :: r2)) listed a w pre (y :: r2) val Fl J aS → wpAny P .any ops Q fuel listed a w := by
    have emp : ∀ (listed : Array Bool) (a : Act) (w : World), DI P ops mem (Q .normal) a0 (pre ++ (x :: r1)) listed a w pre (x :: r1) val Fl J aS → Region.ready .any ops listed = [] → False := fun listed a w I hr =>
      hxp (I.sub x (all_listed hbk I.lsize hr x ((ha1 x).1 (by simp))))
    intro fuel
    induction fuel with
    | zero =>
      intro listed a w hc I _;have hr : Region.ready .any ops listed = [] := by
        rw [List.eq_nil_iff_forall_not_mem];intro i hi;obtain ⟨o, _, hi2, hl, _⟩ := mem_ready hi;have := toCome_set hi2 hl;omega
      exact (emp _ _ _ I hr).elim
    | succ fuel ih =>
      intro listed a w hc I1 I2;refine ⟨fun hr => (emp _ _ _ I1 hr).elim, fun i hi => ?_⟩;obtain ⟨o, r⟩ := rd_of I1.lsize I1.closed hi;have hct : toCome ops (listed.setIfInBounds i true) ≤ fuel := by have := r.ct; omega
      by_cases hip : i ∈ pre
      · exact I1.fire hsel hlook r hip fun w' hx => ih _ _ _ hct (I1.fired hnd hfit r hip hx) (I2.fired hnd hfit r hip hx)
      by_cases hix : i = x
      · subst hix;exact I1.step hnd hfit hsel hlook hn1 ho1 hx r fun a' w' val' J' aS' I' => any_walk (R := Q .normal) hbk hnd hfit hsel hlook hno hn1 ha1 ho1 (fun _ _ h => h) _ _ _ _ _ _ _ _ _ _ hct I' hm1
      by_cases hiy : i = y
      · subst hiy;exact I2.step hnd hfit hsel hlook hn2 ho2 hy r fun a' w' val' J' aS' I' => any_walk (R := Q .normal) hbk hnd hfit hsel hlook hno hn2 ha2 ho2 (fun _ _ h => h) _ _ _ _ _ _ _ _ _ _ hct I' hm2
      have hin := (ha1 i).2 r.lt;simp only [List.mem_append, List.mem_cons] at hin;rcases hin with h | h | h
      · exact (hip h).elim
      · exact (hix h).elim
      have h9 := List.all_eq_true.1 hxr i h;rw [Bool.or_eq_true] at h9;rcases h9 with h9 | h9
      · exact (hiy (by simpa using h9)).elim
      exact (hxp (I1.sub x (r.prT x h9))).elim
  have hnl : ∀ j, (Array.replicate ops.size false).getD j false = true → False := by
    intro j hl;simp only [Array.getD_eq_getD_getElem?] at hl;by_cases h : j < ops.size <;> simp [h] at hl
  have mk : ∀ (is : List Nat), DW P ops mem (Q .normal) (pm ops is) Fl J aS → DI P ops mem (Q .normal) a0 (pre ++ is) (Array.replicate ops.size false) a0 { w0 with drawn := w0.drawn + 1 } pre is val Fl J aS := fun is hd =>
    ⟨by simp, fun j o hj hl => (hnl j hl).elim, (Tk.start (val := val)).iff (fun q => ⟨False.elim, hnl q⟩) (fun _ _ => rfl), rfl, I0.tkS, hd, hst, hst _ _ hv (Ext.drew' w0), fun f hf _ => I0.fl f hf, fun q hq => (hnl q hq).elim,
     fun q hq hp => by have := List.all_eq_true.1 hpm q hp; simp [hq] at this, fun i hi _ => by
      obtain ⟨o, ai, L, h1, h2, h3, h4, h5, h6⟩ := I0.pend i hi;refine ⟨o, ai, L, h1, h2, h3, h4, h5, ?_⟩;rcases h6 with h6 | ⟨h6, h7 | h7⟩
      · exact .inl h6
      · exact .inr ⟨h6, .inl h7⟩
      exact .inr ⟨h6, .inr (.inr h7)⟩⟩
  refine two _ _ _ _ ?_ (mk _ hd1) (mk _ hd2);unfold toCome;exact Nat.le_trans (List.countP_le_length) (by simp)
theorem rT {l : List Oper} {id : Nat} (hm : P.follows .mixedOrders = true) (R : Act → World → Prop) (mem pre r1 r2 : List Nat) (x y k : Nat) (hsize : a0.tmps.size = k) (hck : okT l.toArray mem pre r1 r2 x y k = true) (hv : Inv B H w0)
  (h0 : ∀ (R' : Act → World → Prop) (l1 l2 : List (Nat × Oper)), (∀ a w, R a w → R' a w) → l1 = qm l (x :: r1) → l2 = qm l (y :: r2) → DW2 P l.toArray mem R' l1 l2 (qm l pre) [] (Inv B H) a0) (hR : ∀ a w, R a w → Q .normal a w) : (Code.region id l.toArray true).wpIn Fence.wide n P Q a0 w0 := by
 have h := h0 R _ _ (fun _ _ h => h) rfl rfl;have h2 : (Code.region id l.toArray true).wpIn Fence.wide n P (fun e a w => e = .normal ∧ R a w) a0 w0 := by
  refine wpIn_wide.2 (wp_region_any hm (any_t mem pre r1 r2 x y k hsize hck (fun _ _ h he => h.ext he) hv ?_));rw [qm_pm, qm_pm, qm_pm] at h;have : (fun a w => (Exit.normal : Exit) = .normal ∧ R a w) = R := by funext a w; simp
  show DW2 P l.toArray mem (fun a w => (Exit.normal : Exit) = .normal ∧ R a w) _ _ _ _ _ _;rw [this]; exact h
 exact wpIn_mono h2 (fun e a w ⟨h3, h4⟩ => by subst h3; exact hR a w h4)
end
section
variable {P : Program} {ops : Array Oper} {mem : List Nat} {R : Act → World → Prop} {l1 l2 : List (Nat × Oper)} {i : Nat} {o : Oper} {is : List (Nat × Oper)} {Fl : List (Nat × (World → Prop))} {J : World → Prop} {a : Act} {v : Value} {x y z : Operand}
theorem tB (h1 : DW P ops mem R l1 Fl J a) (h2 : DW P ops mem R l2 Fl J a) : DW2 P ops mem R l1 l2 [] Fl J a := ⟨h1, h2⟩
theorem tG (v : Value) (hw : Region.wanted o (yielded ops a.tmps) = true) (hr : ∀ {w}, Ex P a o w v w) (h : DW2 P ops mem R l1 l2 is Fl J (a.put o.dst v)) : DW2 P ops mem R l1 l2 ((i, o) :: is) Fl J a := by
 unfold DW2; exact .inr ⟨hw, v, .inl ⟨fun w => hr.addsv, h⟩⟩
theorem tF (v : Value) (hw : Region.wanted o (yielded ops a.tmps) = true) (hr : ∀ {w}, J w → Ex P a o w v w) (h : ∀ f : World → Prop, (∀ w, Ex P a o w v w → f w) → DW2 P ops mem R l1 l2 is ((i, f) :: Fl) J (a.put o.dst v)) : DW2 P ops mem R l1 l2 ((i, o) :: is) Fl J a := by
 unfold DW2; exact .inr ⟨hw, v, .inr ⟨fun w => Ex P a o w v w, fun w hx => hx.addsv, fun w hJ => hr hJ, h _ fun _ hx => hx⟩⟩
end
end Go.Pm
namespace Go.Proofs.YtgbhdfpobgefgaaGreatDoor
open Go.RowKit Go.Pm
def others (K : List KeyR) (name : List UInt8) : List KeyR := K.filter fun x => !decide (x.name = name)
theorem txnNamesB (B : Base) (H : List Res) (w : World) (t m s p wb : Nat) (va : Option Addr) (vc : Nat) (sv : Value) (clk : Int) (es : List (List UInt8 × Value)) (M : List (List UInt8 × Ver)) (hM : VM B es M) (hkl : ∀ k ∈ M.map (·.1), k.length ≤ 256) (hMl : M.length ≤ 1000000) (hv : Inv B (txR t m s p wb va vc sv clk es :: H) w) :
  Calls Tryz.prog 232 #[vP t] w fun e w' => ∃ C a c, B.Le C ∧ e = .returned (.slice a (namesT M clk).length c) ∧ RdV C [] a (textCells (namesT M clk)) ∧ Inv C (txR t m s p wb va vc sv clk es :: H) w' := by
 refine (txnNames B H w t m s p wb va vc sv clk es M hM hkl hMl hv).mono ?_;rintro e w' ⟨ra, rc, rfl, hv⟩;obtain ⟨C, hB, hv2, hr2, -, -⟩ := hv.rowBy;exact ⟨C, ra, rc, hB, rfl, hr2, hv2⟩
end Go.Proofs.YtgbhdfpobgefgaaGreatDoor
namespace Go.Pm
open Go.RowKit
section
variable {P : Program} {t e : TypeId} {w : World}
end
section
variable {P : Program} {ops : Array Oper} {Q : Exit → Act → World → Prop} {a : Act} {w : World} {o : Oper} {B : Base} {H : List Res} {t e u : TypeId} {x y : Operand} {size : Nat} {J : List Value → World → Prop} {vals : List Value}
end
end Go.Pm
namespace Go.Proofs.YtgbhdfpobgefgaaGreatDoor
open Go.RowKit Go.Pm
theorem viewNew (B : Base) (H : List Res) (w : World) (t : Nat) (hv : Inv B H w) :
  Calls Tryz.prog 24 #[.iface 66 (vP t)] w fun e w' => ∃ v, e = .returned (.tuple #[vP v, vI 0]) ∧ Inv B (Res.cell v [.iface 66 (vP t)] 38 :: H) w' := by
 refine cW Tryz.func24 rfl Tryz.ntmps24 ?_;simp only [al];apply uN;intro _ _;apply uN;intro _ _ _ _;refine oG (.bool false) rfl (ex_ifnil Tryz.underlying36 rfl rfl rfl) ?_;intro _ _;refine oG (.agg #[.iface 66 (vP t)]) rfl (ex_buildN (vs := #[(0, .iface 66 (vP t))]) rfl (by simp only [List.map_toArray, List.map_cons, List.map_nil]; rfl) (by kernel_rfl)) ?_;refine sl_box (L := [.iface 66 (vP t)]) tV (wn rfl) rfl rfl hv (fun w => by kernel_rfl) (fun b5 w6 hv => ?_);apply uN;refine bodyPost_ret (results_tmp2 rfl _ _ _) rfl (⟨_, rfl, hv⟩)
theorem l0callable21 : Callable Tryz.prog 21 := cb Tryz.func21 (by kernel_rfl)
theorem l0callable20 : Callable Tryz.prog 20 := cb Tryz.func20 (by kernel_rfl)
theorem l0callable22 : Callable Tryz.prog 22 := cb Tryz.func22 (by kernel_rfl)
theorem l0callable23 : Callable Tryz.prog 23 := cb Tryz.func23 (by kernel_rfl)
theorem l0callable24 : Callable Tryz.prog 24 := cb Tryz.func24 (by kernel_rfl)
theorem lawOpened (B : Base) (H : List Res) (w : World) (now : Int) (h0 : 0 ≤ now) (h1 : now ≤ 1099511627776) (hv : Inv B H w) :
  Calls Tryz.prog 7 #[vI now] w fun e w' => ∃ v t m s p wb va vc sv, e = .returned (vP v) ∧ Inv B (Res.cell v [.iface 66 (vP t)] 38 :: txR t m s p wb va vc sv now [] :: H) w' := by
 refine cW Tryz.func7 rfl Tryz.ntmps7 ?_;simp only [al];apply uN;intro _ _;apply uN;intro _ _;refine xC l0callable21 rfl ((storeNew0 B _ _ hv).mono ?_) rfl;rintro e w3 ⟨s, p, rfl, hv⟩;apply eR;refine oG (.agg #[]) rfl (ex_buildN (vs := #[]) rfl (by simp only [List.map_toArray, List.map_nil]) (by kernel_rfl)) ?_;refine oG (.iface 64 (.agg #[])) rfl (ex_iface Tryz.underlying64 (fun _ h => by cases h) rfl rfl) ?_;refine xC l0callable20 rfl ((txnNew0 B _ _ s 64 (.agg #[]) hv).mono ?_) rfl;rintro e w4 ⟨m, rfl, hv⟩;apply eR;obtain ⟨sv, hsv⟩ : ∃ sv, sv = Value.iface 64 (.agg #[]) := ⟨_, rfl⟩;rw [← hsv] at hv;apply uN;intro _ _ _ _;refine oG (.bool false) rfl (ex_pisnil Tryz.underlying57 rfl rfl rfl rfl) ?_;intro _ _;refine xC l0callable22 rfl ((txnTick0 B _ _ m s sv now h0 h1 hv).mono ?_) rfl;rintro e w8 ⟨r9, rfl, hv⟩;apply eR;intro _ _;replace hv := hv.front 2 rfl;simp only [eS, eZ] at hv;replace hv := hv.front 2 rfl;simp only [eS, eZ] at hv;replace hv := hv.front 2 rfl;simp only [eS, eZ] at hv;refine xC l0callable23 rfl ((txnBegin B _ _ m s p sv now hv).mono ?_) rfl;rintro e w10 ⟨t, wb, va, vc, rfl, hv⟩;apply eR;intro _ _ _ _;refine oG (.bool false) rfl (ex_pisnil Tryz.underlying66 rfl rfl rfl rfl) ?_;intro _ _;refine oG (.iface 66 (vP t)) rfl (ex_iface Tryz.underlying66 (fun _ h => by cases h) rfl rfl) ?_;refine xC l0callable24 rfl ((viewNew B _ _ t hv).mono ?_) rfl;rintro e w14 ⟨v, rfl, hv⟩;apply eR;intro _ _;apply uN;refine bR rfl rfl ?_;exact ⟨v, t, m, s, p, wb, va, vc, sv, rfl, ((hv.front 1 rfl).front 1 rfl)⟩
theorem l0al29 : AL Tryz.prog 29 [vI 0, vS [], vI 0, vN] := fun w => by kernel_rfl
theorem ref20Str (B : Base) (H : List Res) (w : World) (s : List UInt8) (hv : Inv B H w) :
  Calls Tryz.prog 36 #[vS s] w fun e w' => e = .returned (.agg #[vI 3, vS s, vI 0, vN]) ∧ Inv B H w' := by
 refine cW Tryz.func36 rfl Tryz.ntmps36 ?_;simp only [al];apply uN;intro _ _;refine sl_alloc tV (wn rfl) rfl hv l0al29 (fun b2 w3 hv => ?_);apply uN;intro _ _;refine oG (.agg #[vI 3, vS s, vI 0, vN]) rfl (ex_buildN (vs := #[(0, vI 3), (1, vS s)]) rfl (by simp only [List.map_toArray, List.map_cons, List.map_nil]; rfl) (by kernel_rfl)) ?_;refine zX 0 rfl hv rssz29 rfl fun w5 hv => ?_
 apply uN;refine bC 0 rswd29 hv rfl rfl rfl rfl (⟨rfl, (hv.kp [] 0 1)⟩)
theorem l0callable36 : Callable Tryz.prog 36 := cb Tryz.func36 (by kernel_rfl)
theorem l0mk29 : (Tryz.prog.info? 29).map (fun i => (i.zero, i.size, i.bytes)) = some (some (.agg #[vI 0, vS [], vI 0, vN]), 4, 56) := by kernel_rfl
theorem l0el27 : Elem Tryz.prog 27 29 (.agg #[vI 0, vS [], vI 0, vN]) 4 56 := elem_of Tryz.underlying27 l0mk29 (by rfl) (by decide)
theorem ref20Strs (B : Base) (H : List Res) (w : World) (sa : Option Addr) (sc : Nat) (ss : List (List UInt8)) (hr : RdV B [] sa (textCells ss)) (hm : ss.length ≤ 1000000) (hv : Inv B H w) :
  Calls Tryz.prog 19 #[.slice sa ss.length sc] w fun e w' => ∃ C v, B.Le C ∧ e = .returned (.agg #[vI 5, vS (([] : List UInt8)), vI 0, v]) ∧ RpAt C (rStrs ss) (rpCells 5 [] 0 v) ∧ Inv C H w' := by
 refine cW Tryz.func19 rfl Tryz.ntmps19 ?_;simp only [al];apply uN;intro _ _;refine sl_alloc tV (wn rfl) rfl hv l0al29 (fun b2 w3 hv => ?_);apply uN;intro _ _;refine oG (.agg #[vI 5, vS [], vI 0, vN]) rfl (ex_buildN (vs := #[(0, vI 5)]) rfl (by simp only [List.map_toArray, List.map_cons, List.map_nil]; rfl) (by kernel_rfl)) ?_;refine sl_alloc tV (wn rfl) rfl hv l0al29 (fun b5 w6 hv => ?_);refine zX 0 rfl hv rssz29 rfl fun w7 hv => ?_
 apply uN;intro _ _ _ _;apply uN
 gi_loopw [4] (fun x4 wr => ∃ (i : Nat) (ra : Option Addr) (rc : Nat), x4 = vI i ∧ i ≤ ss.length ∧ Inv B (Res.row 29 4 (.slice ra i rc) i (strsCells (ss.take i)) :: Res.cell b5 [vI 5, vS [], vI 0, .slice ra i rc] 29 :: Res.cell b2 [vI 0, vS [], vI 0, vN] 29 :: H) wr) (fun x4 _ => ss.length - (intOf x4).toNat)
 case atStart => exact ⟨0, none, 0, rfl, Nat.zero_le _, (((hv.front 1 rfl).front 1 rfl)).rowNil 29 4⟩
 case round =>
  obtain ⟨i, ra, rc, rfl, hi, hv⟩ := hrel;apply uN;intro _ _ _ _;refine oG (vI (ss.length : Int)) rfl (ex_len0 Tryz.underlying22 rfl rfl) ?_;refine uB (fun hb13 => ?_) fun hb13 => ?_
  ·intro _ _;obtain ⟨x, hx⟩ : ∃ x, ss[i]? = some x := ⟨_, List.getElem?_eq_getElem (show i < ss.length by omega)⟩;obtain ⟨bb, bo, had, hrdx⟩ := text_reads hr hx;subst had;refine rW mixed [6, 7, 8, 10] [0,1,2,3,4,5,6,7,8,9,10] 23 rfl (by kernel_rfl) hv ?_;simp only [qm, opAt];refine dG (.pointer (some ⟨b5, 3, none⟩)) rfl (ex_field rfl rfl (rtfa29_3 _ _ _)) ?_;refine dF _ rfl (fun hv => ex_load rfl rfl (run_load1 rtna27 (hv.load 1 3 rfl rfl))) fun f15 hf15 => ?_
   apply uN;refine dG (.pointer (some ⟨bb, bo + i, none⟩)) rfl (ex_index rfl rfl rfl (run_idx1 (k := i) Tryz.underlying22 s9es22 (by omega))) ?_;refine dL _ rfl (fun hv => ex_load rfl rfl (run_load1 s9na9 (hrdx _ _ _ (Base.Le.refl _) no_res hv 0 _ rfl))) ?_;simp only [zP, po];refine dS rfl fun w16 hv => mC l0callable36 rfl ((ref20Str B _ _ x hv).mono ?_) rfl
   rintro e w17 ⟨rfl, hv⟩;refine ⟨_, rfl, dV hv (fC (fun ww hv => hf15 ww (ex_load rfl rfl (run_load1 rtna27 (hv.load 1 3 rfl rfl)))) fN) ?_⟩;refine dS rfl fun w18 hv => mem_rowAgg (L := [vI 3, vS x, vI 0, vN]) rfl rfl rfl hv l0el27 rfl (by decide) (fun b19 w20 hv => ?_)
   refine dV hv (fC (fun ww hv => hf15 ww (ex_load rfl rfl (run_load1 rtna27 (hv.load 2 3 rfl rfl)))) fN) (dS rfl fun w21 hv => ?_);replace hv := hv.front 1 rfl;simp only [eS, eZ] at hv;refine mem_append (news := [vI 3, vS x, vI 0, vN]) rfl rfl rfl rfl l0el27 hv (ok_full (by omega)) rfl (rd_all (hv.get 1 rfl)) (by intro u hu; simp only [List.mem_cons, List.not_mem_nil, or_false] at hu; rcases hu with rfl | rfl | rfl | rfl <;> rfl) (by unfold maxLen; omega) (by omega) (fun rv22 w25 hv => ?_);obtain ⟨ra23, rc24, rfl⟩ := row_slice hv.head;refine dV hv (fK rfl fN) ?_;simp only [zP, po];refine dG (.pointer (some ⟨b5, 3, none⟩)) rfl (ex_field rfl rfl (rtfa29_3 _ _ _)) (dS rfl fun w26 hv => ?_);refine mV 2 (.slice ra23 (i + 1) rc24) rfl hv rtsz27 rfl rfl (fun w27 hv => ?_);simp only [zS, zO, sp] at hv;refine dV hv (fK rfl fN) (dE fun w28 hv => ?_);apply uN;refine oG (vI ((i + 1 : Nat) : Int)) rfl (ex_add rfl rfl rfl (by rw [i64_in (by omega)]; omega)) ?_;refine then_normal ?_
   go_roundw
   case rel => exact ⟨i + 1, _, _, rfl, by omega, by rw [strsCells_next hx]; exact (hv.kp [3, 3, 2] 3 1)⟩
   case measure => show ss.length - (((i + 1 : Nat) : Int)).toNat < ss.length - ((i : Int)).toNat; omega
  intro _ _;refine oL (.agg #[vI 5, vS [], vI 0, .slice ra i rc]) rfl (lM 1 rswd29 hv rfl rfl rfl rfl) ?_;refine zX 2 rfl hv rssz29 rfl fun w30 hv => ?_
  apply uN;refine bC 2 rswd29 hv rfl rfl rfl rfl ?_;obtain rfl : i = ss.length := by omega
  obtain ⟨C, hC, hv, hro, hoko, -⟩ := ((hv.sub (sC _ (sD _ (sD _ (sR _)))))).rowBy;rw [List.take_length] at hro;exact ⟨C, _, hC, rfl, rpAt_of (l := ss.map rStr) ⟨ra, rc, by rw [List.length_map], by rw [List.length_map]; exact hoko, hro⟩ (strsCells_at ss), hv⟩
def SameR (B : Base) (r : Rp) : Prop := ∀ (H : List Res) (w : World) (cs cs' : List Value), RpAt B r cs → RpAt B r cs' → Inv B H w → Calls Tryz.prog 15 #[.agg cs.toArray, .agg cs'.toArray] w fun e w' => e = .returned (.bool true) ∧ Inv B H w'
theorem l0fa29_0 : FA Tryz.prog 29 0 0 := fun w b o => by kernel_rfl
theorem l0fa29_1 : FA Tryz.prog 29 1 1 := fun w b o => by kernel_rfl
theorem l0fa29_2 : FA Tryz.prog 29 2 2 := fun w b o => by kernel_rfl
theorem l0es27 (w : World) : (sizeOf (Tryz.prog.elem 27)).run Tryz.prog w = .ok 4 w := by kernel_rfl
theorem l0callable15 : Callable Tryz.prog 15 := cb Tryz.func15 (by kernel_rfl)
theorem refSameRp0 (B : Base) (H : List Res) (w : World) (k : Int) (s : List UInt8) (n : Int) (l : List Rp) (a a' : Option Addr) (c c' : Nat) (xs xs' : List Value) (hrd : RdV B [] a xs) (hrd' : RdV B [] a' xs') (hat : RpsAt B l xs) (hat' : RpsAt B l xs') (hl : l.length ≤ 1000000) (hIH : ∀ x ∈ l, SameR B x) (hv : Inv B H w) :
  Calls Tryz.prog 15 #[.agg #[vI k, vS s, vI n, .slice a l.length c], .agg #[vI k, vS s, vI n, .slice a' l.length c']] w fun e w' => e = .returned (.bool true) ∧ Inv B H w' := by
 refine cW Tryz.func15 rfl Tryz.ntmps15 ?_;simp only [al];apply uN;intro _ _;refine sl_box (L := [vI k, vS s, vI n, .slice a l.length c]) tV (wn rfl) rfl rfl hv (fun w => by kernel_rfl) (fun b2 w3 hv => ?_);refine sl_box (L := [vI k, vS s, vI n, .slice a' l.length c']) tV (wn rfl) rfl rfl hv (fun w => by kernel_rfl) (fun b4 w5 hv => ?_);apply uN;intro _ _ _ _;refine oF (vP b2) rfl (l0fa29_0 _ _ _) ?_;refine oL _ rfl (run_load1 s2na3 (hv.load 1 0 rfl rfl)) ?_;refine oF (vP b4) rfl (l0fa29_0 _ _ _) ?_;refine oL _ rfl (run_load1 s2na3 (hv.load 0 0 rfl rfl)) ?_;refine uU (by exact fun h => h rfl) ?_;refine oF (.pointer (some ⟨b2, 1, none⟩)) rfl (l0fa29_1 _ _ _) ?_;refine oL _ rfl (run_load1 s9na9 (hv.load 1 1 rfl rfl)) ?_;refine oF (.pointer (some ⟨b4, 1, none⟩)) rfl (l0fa29_1 _ _ _) ?_;refine oL _ rfl (run_load1 s9na9 (hv.load 0 1 rfl rfl)) ?_;refine uU (by exact fun h => h rfl) ?_;refine oF (.pointer (some ⟨b2, 2, none⟩)) rfl (l0fa29_2 _ _ _) ?_;refine oL _ rfl (run_load1 s2na3 (hv.load 1 2 rfl rfl)) ?_;refine oF (.pointer (some ⟨b4, 2, none⟩)) rfl (l0fa29_2 _ _ _) ?_;refine oL _ rfl (run_load1 s2na3 (hv.load 0 2 rfl rfl)) ?_;refine uU (by exact fun h => h rfl) ?_;refine oF (.pointer (some ⟨b2, 3, none⟩)) rfl (rtfa29_3 _ _ _) ?_;refine oL _ rfl (run_load1 rtna27 (hv.load 1 3 rfl rfl)) ?_;refine oG (vI (l.length : Int)) rfl (ex_len0 Tryz.underlying27 rfl rfl) ?_;refine oF (.pointer (some ⟨b4, 3, none⟩)) rfl (rtfa29_3 _ _ _) ?_;refine oL _ rfl (run_load1 rtna27 (hv.load 0 3 rfl rfl)) ?_;refine oG (vI (l.length : Int)) rfl (ex_len0 Tryz.underlying27 rfl rfl) ?_;refine uU (by exact fun h => h rfl) ?_;intro _ _ _ _;apply uN
 gi_loopw [5] (fun x5 wr => ∃ (i : Nat), x5 = vI i ∧ i ≤ l.length ∧ Inv B (Res.cell b4 [vI k, vS s, vI n, .slice a' l.length c'] 29 :: Res.cell b2 [vI k, vS s, vI n, .slice a l.length c] 29 :: H) wr) (fun x5 _ => l.length - (intOf x5).toNat)
 case atStart => exact ⟨0, rfl, Nat.zero_le _, hv⟩
 case round =>
  obtain ⟨i, rfl, hi, hv⟩ := hrel;apply uN;intro _ _ _ _;refine oF (.pointer (some ⟨b2, 3, none⟩)) rfl (rtfa29_3 _ _ _) ?_;refine oL _ rfl (run_load1 rtna27 (hv.load 1 3 rfl rfl)) ?_;refine oG (vI (l.length : Int)) rfl (ex_len0 Tryz.underlying27 rfl rfl) ?_;refine uB (fun hb13 => ?_) fun hb13 => ?_
  ·intro _ _ _ _;obtain ⟨x, hx⟩ : ∃ x, l[i]? = some x := ⟨_, List.getElem?_eq_getElem (show i < l.length by omega)⟩;obtain ⟨xk, xs, xn, xq⟩ := x;obtain ⟨q1, o1, v1, y1, h1a, h1b, h1c, h1d⟩ := hat.reads hrd hx;obtain ⟨q2, o2, v2, y2, h2a, h2b, h2c, h2d⟩ := hat'.reads hrd' hx;subst h1a;subst h2a;have hq1 := rpAt_of (k := xk) (s := xs) (n := xn) h1b h1c;have hq2 := rpAt_of (k := xk) (s := xs) (n := xn) h2b h2c;refine rW mixed [10] [0,1,2,3,4,5,6,7,8,9,10,11] 53 rfl (by kernel_rfl) hv ?_;simp only [qm, opAt];refine dG (.pointer (some ⟨b2, 3, none⟩)) rfl (ex_field rfl rfl (rtfa29_3 _ _ _)) ?_;refine dL _ rfl (fun hv => ex_load rfl rfl (run_load1 rtna27 (hv.load 1 3 rfl rfl))) ?_;apply uN;refine dG (.pointer (some ⟨q1, o1 + i * 4, none⟩)) rfl (ex_index rfl rfl rfl (run_idx (k := i) Tryz.underlying27 l0es27 (by omega))) ?_;refine dL (.agg #[vI xk, vS xs, vI xn, v1]) rfl (fun hv => ex_load rfl rfl (run_loadR (cs := [vI xk, vS xs, vI xn, v1]) rswd29 (Reads.mid (pre := []) (mid := [vI xk, vS xs, vI xn, v1]) (post := []) h1d _ _ _ (Base.Le.refl _) no_res hv))) ?_;refine dG (.pointer (some ⟨b4, 3, none⟩)) rfl (ex_field rfl rfl (rtfa29_3 _ _ _)) ?_;simp only [zP, po];refine dL _ rfl (fun hv => ex_load rfl rfl (run_load1 rtna27 (hv.load 0 3 rfl rfl))) ?_;apply uN;refine dG (.pointer (some ⟨q2, o2 + i * 4, none⟩)) rfl (ex_index rfl rfl rfl (run_idx (k := i) Tryz.underlying27 l0es27 (by omega))) ?_;simp only [zP, po];refine dL (.agg #[vI xk, vS xs, vI xn, v2]) rfl (fun hv => ex_load rfl rfl (run_loadR (cs := [vI xk, vS xs, vI xn, v2]) rswd29 (Reads.mid (pre := []) (mid := [vI xk, vS xs, vI xn, v2]) (post := []) h2d _ _ _ (Base.Le.refl _) no_res hv))) (dS rfl fun w16 hv => ?_);refine mC l0callable15 rfl ((hIH _ (List.mem_of_getElem? hx) _ _ (rpCells xk xs xn v1) (rpCells xk xs xn v2) hq1 hq2 hv).mono ?_) rfl
   rintro e w17 ⟨rfl, hv⟩;refine ⟨_, rfl, dW hv ?_⟩;refine dG (.bool false) rfl (ex_not rfl rfl rfl) (dE fun w18 hv => ?_);apply uN;refine oG (vI ((i + 1 : Nat) : Int)) rfl (ex_add rfl rfl rfl (by rw [i64_in (by omega)]; omega)) ?_;refine then_normal ?_
   go_roundw
   case rel => exact ⟨i + 1, rfl, by omega, hv⟩
   case measure => show l.length - (((i + 1 : Nat) : Int)).toNat < l.length - ((i : Int)).toNat; omega
  intro _ _;apply uN;refine bR rfl rfl (⟨rfl, (hv.kp [] 0 2)⟩)
theorem sameR_of {B : Base} {k : Int} {s : List UInt8} {n : Int} {l : List Rp} (hl : l.length ≤ 1000000) (h : ∀ x ∈ l, SameR B x) : SameR B (.mk k s n l) := fun H w cs cs' h1 h2 hv => by
 simp only [RpAt] at h1 h2;obtain ⟨v, xs, rfl, ⟨a, c, rfl, -, hr⟩, hx⟩ := h1;obtain ⟨v', xs', rfl, ⟨a', c', rfl, -, hr'⟩, hx'⟩ := h2;exact refSameRp0 B H w k s n l a a' c c' xs xs' hr hr' hx hx' hl h hv
theorem sameR_leaf {B : Base} {k : Int} {s : List UInt8} {n : Int} : SameR B (.mk k s n []) := sameR_of (Nat.zero_le _) fun x h => by cases h
theorem sameR_strs {B : Base} {l : List (List UInt8)} (hl : l.length ≤ 1000000) : SameR B (rStrs l) := sameR_of (by rw [List.length_map]; exact hl) fun x h => by
 obtain ⟨y, -, rfl⟩ := List.mem_map.1 h;exact sameR_leaf
theorem text_snoc (l : List (List UInt8)) (x : List UInt8) : textCells l ++ [strV x] = textCells (l ++ [x]) := by simp [textCells]
theorem rp_parts {B : Base} {r : Rp} {cs : List Value} (h : RpAt B r cs) : ∃ k s n v, cs = rpCells k s n v := by
 cases r; simp only [RpAt] at h;obtain ⟨v, xs, h1, -⟩ := h;exact ⟨_, _, _, v, h1⟩
theorem rp_int {B : Base} {n : Int} {cs : List Value} (h : RpAt B (rInt n) cs) : ∃ v, cs = rpCells 2 [] n v := by
 simp only [rInt, RpAt] at h;obtain ⟨v, xs, h1, -⟩ := h;exact ⟨v, h1⟩
theorem rp_strs {B : Base} {l : List (List UInt8)} {cs : List Value} (h : RpAt B (rStrs l) cs) : ∃ a c, cs = rpCells 5 [] 0 (.slice a l.length c) := by
 simp only [rStrs, rList, RpAt] at h;obtain ⟨v, xs, h1, ⟨a, c, rfl, -⟩, -⟩ := h;exact ⟨a, c, by rw [h1, List.length_map]⟩
theorem vmNil (B : Base) : VM B [] [] := trivial
theorem all0 {p : List UInt8 → Prop} : ∀ x ∈ ([] : List (List UInt8)), p x := fun _ h => by cases h
theorem all1 {p : List UInt8 → Prop} {a : List UInt8} {l : List (List UInt8)} (h : p a) (t : ∀ x ∈ l, p x) : ∀ x ∈ a :: l, p x := fun x hx => (List.mem_cons.1 hx).elim (fun e => e ▸ h) (t x)
open Go.Sort
def zsetV (l : Zs) : Val := ⟨5, [], [], [], l⟩
theorem zsetV_at {B : Base} {l : Zs} {la : Option Addr} {lc : Nat} (hr : RdV B [] la (memCells l)) (hok : SliceOk la l.length lc) (hm : l.length ≤ 1000000) (hf : ∀ m ∈ l, ZFit m.1) : ValAt B (zsetV l) (vN) (vN) (.slice la l.length lc) :=
 ⟨⟨none, 0, rfl, okZ0, rdV_nil⟩, ⟨none, 0, rfl, okZ0, rdV_nil⟩, ⟨la, lc, rfl, hok, hr⟩, Nat.zero_le _, Nat.zero_le _, hm, hf⟩
section
variable {M M' : List (List UInt8 × Ver)} {clk exp ec : Int} {key : List UInt8} {z l : Zs} {r0 r : Rp} {y : Ver}
def ZKeepR (M : List (List UInt8 × Ver)) (clk : Int) (key : List UInt8) (z l : Zs) (exp ec : Int) (M' : List (List UInt8 × Ver)) : Prop :=
 (z = l ∧ ec = 0 ∧ M' = M) ∨ (z ≠ l ∧ KeepI M clk key (zsetV l) exp ec M')
theorem DoneR.zkeep (hO : OkM M) (hk : ZKeepR M clk key z l exp ec M') (hd : DoneR ec r0 r) (h0 : ¬ IsF r0) : CmdR M M' r := by
 rcases hk with ⟨-, -, rfl⟩ | ⟨-, hk⟩
 ·exact ⟨hO, fun _ => rfl⟩
 exact hd.keep hO hk h0
theorem of_zok (hO : OkM M) (ho : OfI M clk key 5 y ec) : ZsetOk y.val.zset := by
 have h0 : ZsetOk ([] : Zs) := ⟨Nat.zero_le _, rfl, fun i x h => by simp at h, List.nodup_nil⟩;rcases ho with ⟨-, rfl, -⟩ | ⟨-, rfl, -⟩ | ⟨-, h1, h2, h3⟩
 ·exact h0
 ·exact h0
 rcases hO key y h1 with h4 | h4
 ·unfold aliveB at h2; rw [h4] at h2; simp at h2
 rcases h4.2.1 with h5 | h5 | h5 | h5 | h5
 ·omega
 ·omega
 ·omega
 ·omega
 exact h5.2.2.1
theorem of_zlen (hO : OkM M) (ho : OfI M clk key 5 y ec) : y.val.zset.length ≤ 512 := (of_zok hO ho).1
theorem of_znd (hO : OkM M) (ho : OfI M clk key 5 y ec) : (y.val.zset.map nmZ).Nodup := (zok_iff.1 (of_zok hO ho)).2.2.2
end
def toldL (sc : Bool) (l : Zs) : List (List UInt8) := l.flatMap fun m => if sc then [m.2, Lib.itoa m.1] else [m.2]
theorem told_next {sc : Bool} {l : Zs} {i : Nat} {x : Int × List UInt8} (h : l[i]? = some x) : toldL sc (l.take (i + 1)) = toldL sc (l.take i) ++ if sc then [x.2, Lib.itoa x.1] else [x.2] := by
 unfold toldL;rw [take_next h, List.flatMap_append, List.flatMap_singleton]
theorem told_len (sc : Bool) (l : Zs) : (toldL sc l).length ≤ 2 * l.length := by
 induction l with
 | nil => exact Nat.le_refl _
 | cons a l ih =>
  unfold toldL at ih ⊢;rw [List.flatMap_cons, List.length_append, List.length_cons];have : (if sc then [a.2, Lib.itoa a.1] else [a.2] : List (List UInt8)).length ≤ 2 := by split <;> simp
  omega
theorem zd1callable112 : Callable Tryz.prog 112 := cb Tryz.func112 (by kernel_rfl)
theorem zd1fa79_0 : FA Tryz.prog 79 0 0 := fun w b o => by kernel_rfl
theorem zd1na25 (w : World) : (isAgg 25).run Tryz.prog w = .ok false w := by kernel_rfl
theorem zd1fa79_1 : FA Tryz.prog 79 1 1 := fun w b o => by kernel_rfl
theorem zd1callable31 : Callable Tryz.prog 31 := cb Tryz.func31 (by kernel_rfl)
theorem czKeep (B : Base) (H : List Res) (w : World) (v t m s p wb : Nat) (va : Option Addr) (vc : Nat) (sv : Value) (clk : Int) (es : List (List UInt8 × Value)) (M : List (List UInt8 × Ver)) (hM : VM B es M) (aa : Option Addr) (ac : Nat) (args : List (List UInt8)) (hra : RdV B [] aa (textCells args)) (hoka : SliceOk aa args.length ac) (_ : args.length ≤ 10000) (key : List UInt8) (hkey : args[0]? = some key) (ys : Int) (yg : Bool) (yx yk : Int) (yt9 : List UInt8) (p1 : Option Addr) (q1 c1 : Nat) (p2 : Option Addr) (q2 c2 : Nat) (za : Option Addr) (zc : Nat) (z : Zs) (hrz : RdV B [] za (memCells z)) (hmz : z.length ≤ 1000000) (la : Option Addr) (lc : Nat) (l : Zs) (hrl : RdV B [] la (memCells l)) (hokl : SliceOk la l.length lc) (hml : l.length ≤ 1000000) (hfl : ∀ m ∈ l, ZFit m.1) (hv : Inv B (Res.cell v [.iface 66 (vP t)] 38 :: txR t m s p wb va vc sv clk es :: H) w) :
  Calls Tryz.prog 75 #[.agg #[vP v, .slice aa args.length ac], .agg #[vI ys, .bool yg, vI yx, vI yk, vS yt9, .slice p1 q1 c1, .slice p2 q2 c2, .slice za z.length zc], .slice la l.length lc] w fun e w' => ∃ C es' M' ec, B.Le C ∧ e = .returned (vI ec) ∧ VM C es' M' ∧ ZKeepR M clk key z l yx ec M' ∧ Inv C (Res.cell v [.iface 66 (vP t)] 38 :: txR t m s p wb va vc sv clk es' :: H) w' := by
 refine cW Tryz.func75 rfl Tryz.ntmps75 ?_;simp only [al];apply uN;intro _ _;refine sl_box (L := [vP v, .slice aa args.length ac]) tV (wn rfl) rfl rfl hv (fun w => by kernel_rfl) (fun b2 w3 hv => ?_);refine sl_box (L := [vI ys, .bool yg, vI yx, vI yk, vS yt9, .slice p1 q1 c1, .slice p2 q2 c2, .slice za z.length zc]) tV (wn rfl) rfl rfl hv (fun w => by kernel_rfl) (fun b4 w5 hv => ?_);apply uN;intro _ _ _ _;refine oF (.pointer (some ⟨b4, 3, none⟩)) rfl (x2fa91_3 _ _ _) ?_;refine oF (.pointer (some ⟨b4, 7, none⟩)) rfl (s1fa84_4 _ _ _) ?_;refine oL _ rfl (run_load1 s1na82 (hv.load 0 7 rfl rfl)) ?_;refine xC zd1callable112 rfl ((equalMem B _ _ za la zc lc z l hrz hrl hmz hml hv).mono ?_) rfl;rintro e w8 ⟨rfl, hv⟩;apply eR;refine wpIn_cond_split (t := decide (z = l)) rfl (fun hc9 => ?_) (fun hc9 => ?_)
 ·apply uN;intro _ _;apply uN;refine bR rfl rfl ?_;exact ⟨B, es, M, 0, Base.Le.refl _, rfl, hM, .inl ⟨of_decide_eq_true hc9, rfl, rfl⟩, (hv.kp [3, 3] 2 2)⟩
 apply uN;intro _ _;obtain ⟨ab, ao, had, hrdkey⟩ := text_reads hra hkey;subst had;have halkey : 0 < args.length := (List.getElem?_eq_some_iff.1 hkey).1;refine rW mixed [10] [0,1,2,3,4,5,6,7,8,9,10,11] 23 rfl (by kernel_rfl) hv ?_;simp only [qm, opAt];refine dG (vP b2) rfl (ex_field rfl rfl (zd1fa79_0 _ _ _)) ?_;refine dL _ rfl (fun hv => ex_load rfl rfl (run_load1 zd1na25 (hv.load 1 0 rfl rfl))) ?_;refine dG (.pointer (some ⟨b2, 1, none⟩)) rfl (ex_field rfl rfl (zd1fa79_1 _ _ _)) ?_;simp only [zP, po];refine dL _ rfl (fun hv => ex_load rfl rfl (run_load1 s1na22 (hv.load 1 1 rfl rfl))) ?_;refine dG (.pointer (some ⟨ab, ao + 0, none⟩)) rfl (ex_index rfl rfl rfl (run_idx1 (k := 0) Tryz.underlying22 s9es22 (by omega))) ?_;refine dL _ rfl (fun hv => ex_load rfl rfl (run_load1 s9na9 (hrdkey _ _ _ (Base.Le.refl _) no_res hv 0 _ rfl))) ?_;apply uN;refine dG (.agg #[vI 5, vS [], vN, vN, .slice la l.length lc]) rfl (ex_buildN (vs := #[(0, vI 5), (4, .slice la l.length lc)]) rfl (by simp only [List.map_toArray, List.map_cons, List.map_nil]; rfl) (by kernel_rfl)) ?_;refine dG (.pointer (some ⟨b4, 2, none⟩)) rfl (ex_field rfl rfl (s2fa91_2 _ _ _)) ?_;simp only [zP, po];refine dL _ rfl (fun hv => ex_load rfl rfl (run_load1 s2na3 (hv.load 0 2 rfl rfl))) (dS rfl fun w12 hv => ?_);replace hv := hv.front 3 rfl;simp only [eS, eZ] at hv;replace hv := hv.front 3 rfl;simp only [eS, eZ] at hv;refine mC zd1callable31 rfl ((viewKeep B _ _ v t m s p wb va vc sv clk es M key (zsetV l) _ _ _ yx hM (zsetV_at hrl hokl hml hfl) hv).mono ?_) rfl;rintro e w13 ⟨C, es', M', ec, hC, rfl, hM', hk, hv⟩;refine ⟨_, rfl, dW hv ?_⟩;apply uN;refine dE fun w14 hv => ?_
 apply uN;refine bR rfl rfl (⟨C, es', M', ec, hC, rfl, hM', .inr ⟨of_decide_eq_false hc9, hk⟩, (hv.kp [1, 1] 2 2)⟩)
theorem score_fit : ∀ {z : Zs} {k : List UInt8}, (∀ m ∈ z, ZFit m.1) → ZFit ((scoreZ z k).getD 0)
 | [], k, _ => (⟨by decide, by decide⟩ : ZFit 0)
 | m :: z, k, h => by
  have ih := score_fit (k := k) (fun x hx => h x (List.mem_cons_of_mem _ hx));unfold scoreZ at ih ⊢;rw [List.map_cons]; unfold lookA
  split
  ·exact h m List.mem_cons_self
  exact ih
theorem zd1al29 : AL Tryz.prog 29 [vI 0, vS [], vI 0, vN] := fun w => by kernel_rfl
theorem zd1callable73 : Callable Tryz.prog 73 := cb Tryz.func73 (by kernel_rfl)
theorem zd1callable100 : Callable Tryz.prog 100 := cb Tryz.func100 (by kernel_rfl)
theorem czScore (B : Base) (H : List Res) (w : World) (za : Option Addr) (zc : Nat) (z : Zs) (hrz : RdV B [] za (memCells z)) (hmz : z.length ≤ 1000000) (hfz : ∀ m ∈ z, ZFit m.1) (k : List UInt8) (hN : NumB B) (hv : Inv B H w) :
  Calls Tryz.prog 98 #[.slice za z.length zc, vS k] w fun e w' => ∃ (q : Int) (s : List UInt8), e = .returned (.agg #[vI q, vS s, vI 0, vN]) ∧ (q = 4 ∨ q = 3) ∧ Inv B H w' := by
 refine cW Tryz.func98 rfl Tryz.ntmps98 ?_;simp only [al];apply uN;intro _ _;refine sl_alloc tV (wn rfl) rfl hv zd1al29 (fun b2 w3 hv => ?_);apply uN;intro _ _;refine xC zd1callable73 rfl ((zsetScore B _ _ za zc z hrz hmz k hv).mono ?_) rfl;rintro e w5 ⟨rfl, hv⟩;apply eR;intro _ _ _ _;refine oG (.bool (!((scoreZ z k).isSome))) rfl (ex_not rfl rfl rfl) ?_;refine wpIn_cond_split (t := !((scoreZ z k).isSome)) rfl (fun hc8 => ?_) (fun hc8 => ?_)
 ·apply uN;intro _ _;refine xC zd1callable100 rfl ((respNone B _ _ hv).mono ?_) rfl;rintro e w10 ⟨rfl, hv⟩;apply eR;refine zX 0 rfl hv rssz29 rfl fun w11 hv => ?_
  apply uN;refine bC 0 rswd29 hv rfl rfl rfl rfl ?_;exact ⟨4, ([] : List UInt8), rfl, .inl rfl, (hv.kp [] 0 1)⟩
 apply uN;intro _ _;refine xC pzcallable78 rfl ((numPrint B _ (hN B _ (Base.Le.refl _)).1 _ ((scoreZ z k).getD 0) (score_fit (k := k) hfz).1 (score_fit (k := k) hfz).2 hv).mono ?_) rfl;rintro e w13 ⟨rfl, hv⟩;apply eR;refine xC rtcallable77 rfl ((respStr B _ _ (Lib.itoa ((scoreZ z k).getD 0)) hv).mono ?_) rfl;rintro e w14 ⟨rfl, hv⟩;apply eR;simp only [zP, po];refine zX 0 rfl hv rssz29 rfl fun w15 hv => ?_
 apply uN;refine bC 0 rswd29 hv rfl rfl rfl rfl (⟨3, (Lib.itoa ((scoreZ z k).getD 0)), rfl, .inr rfl, (hv.kp [] 0 1)⟩)
theorem zd1al123 : AL Tryz.prog 123 [vI 0, vS []] := fun w => by kernel_rfl
theorem zd1mk9 : (Tryz.prog.info? 9).map (fun i => (i.zero, i.size, i.bytes)) = some (some (vS []), 1, 16) := by kernel_rfl
theorem zd1el22 : Elem Tryz.prog 22 9 (vS []) 1 16 := elem_of Tryz.underlying22 zd1mk9 (by rfl) (by decide)
theorem zd1callable120 : Callable Tryz.prog 120 := cb Tryz.func120 (by kernel_rfl)
theorem czToldR (B : Base) (H : List Res) (w : World) (sc : Bool) (za : Option Addr) (zc : Nat) (z : Zs) (hrz : RdV B [] za (memCells z)) (hmz : z.length ≤ 100000) (hfz : ∀ m ∈ z, ZFit m.1) (hN : NumB B) (hv : Inv B H w) :
  Calls Tryz.prog 85 #[.bool sc, .slice za z.length zc] w fun e w' => ∃ D oa oc, B.Le D ∧ e = .returned (.agg #[vI 5, vS [], vI 0, .slice oa (toldL sc z).length oc]) ∧ SliceOk oa (toldL sc z).length oc ∧ RdV D [] oa (strsCells (toldL sc z)) ∧ Inv D H w' := by
 refine cW Tryz.func85 rfl Tryz.ntmps85 ?_;simp only [al];apply uN;intro _ _;refine sl_alloc tV (wn rfl) rfl hv zd1al29 (fun b2 w3 hv => ?_);apply uN;intro _ _;apply uN;intro _ _ _ _;refine oG (vI (z.length : Int)) rfl (ex_len0 Tryz.underlying82 rfl rfl) ?_
 gi_loopw [5, 10] (fun x5 x10 wr => ∃ (i : Nat) (ra : Option Addr) (rc : Nat), x5 = .slice ra (toldL sc (z.take i)).length rc ∧ x10 = vI i ∧ i ≤ z.length ∧ Inv B (Res.row 9 1 (.slice ra ((toldL sc (z.take i)).length) rc) ((toldL sc (z.take i)).length) (textCells (toldL sc (z.take i))) :: Res.cell b2 [vI 0, vS [], vI 0, vN] 29 :: H) wr) (fun x5 x10 _ => z.length - (intOf x10).toNat)
 case atStart => exact ⟨0, none, 0, rfl, rfl, Nat.zero_le _, (hv).rowNil 9 1⟩
 case round =>
  obtain ⟨i, ra, rc, rfl, rfl, hi, hv⟩ := hrel;apply uN;intro _ _;refine uB (fun hb9 => ?_) fun hb9 => ?_
  ·intro _ _;apply uN;intro _ _ _ _;obtain ⟨x, hx⟩ : ∃ x, z[i]? = some x := ⟨_, List.getElem?_eq_getElem (show i < z.length by omega)⟩;obtain ⟨zb9, zo9, had, hrdx⟩ := mem_reads hrz hx;subst had;apply uN;refine oG (.pointer (some ⟨zb9, zo9 + i * 2, none⟩)) rfl (ex_index rfl rfl rfl (run_idx (k := i) Tryz.underlying82 s9es82 (by omega))) ?_;refine oL (.agg #[vI x.1, vS x.2]) rfl (run_loadR (cs := [vI x.1, vS x.2]) s9wd123 (Reads.mid (pre := []) (mid := [vI x.1, vS x.2]) (post := []) hrdx _ _ _ (Base.Le.refl _) no_res hv)) ?_;refine sl_alloc tV (wn rfl) rfl hv zd1al123 (fun b13 w14 hv => ?_);simp only [zP, po];refine zX 0 rfl hv s11sz123 rfl (fun w15 hv => ?_) (by exact ⟨rfl, rfl, trivial⟩);apply uN;intro _ _;have htl := told_len sc (z.take i);rw [List.length_take] at htl;apply uN;refine oF (.pointer (some ⟨b13, 1, none⟩)) rfl (s9fa123_1 _ _ _) ?_;refine oL _ rfl (run_load1 s9na9 (hv.load 0 1 rfl rfl)) ?_;refine sl_rowOne (v := vS x.2) tV (wn rfl) rfl rfl hv zd1el22 rfl (fun b17 w18 hv => ?_);replace hv := hv.front 2 rfl;simp only [eS, eZ] at hv;refine sl_append (news := [vS x.2]) tV (wn rfl) rfl rfl rfl zd1el22 hv (ok_full (by omega)) rfl (rd_all (hv.get 1 rfl)) (by intro u hu; simp only [List.mem_cons, List.not_mem_nil, or_false] at hu; rcases hu with rfl <;> rfl) (by unfold maxLen; omega) (by omega) (fun rv19 w22 hv => ?_);obtain ⟨ra20, rc21, rfl⟩ := row_slice hv.head;apply uN;intro _ _;apply uN;refine wpIn_cond_split (t := sc) rfl (fun hc24 => ?_) (fun hc24 => ?_)
   ·apply uN;refine oF (vP b13) rfl (s11fa123_0 _ _ _) ?_;refine oL _ rfl (run_load1 s2na3 (hv.load 2 0 rfl rfl)) ?_;refine xC pzcallable78 rfl ((numPrint B _ (hN B _ (Base.Le.refl _)).1 _ x.1 (hfz x (List.mem_of_getElem? hx)).1 (hfz x (List.mem_of_getElem? hx)).2 hv).mono ?_) rfl;rintro e w25 ⟨rfl, hv⟩;apply eR;refine sl_rowOne (v := vS (Lib.itoa x.1)) tV (wn rfl) rfl rfl hv zd1el22 rfl (fun b26 w27 hv => ?_);replace hv := hv.front 1 rfl;simp only [eS, eZ] at hv;refine sl_append (news := [vS (Lib.itoa x.1)]) tV (wn rfl) rfl rfl rfl zd1el22 hv (ok_full (by omega)) rfl (rd_all (hv.get 1 rfl)) (by intro u hu; simp only [List.mem_cons, List.not_mem_nil, or_false] at hu; rcases hu with rfl <;> rfl) (by unfold maxLen; omega) (by omega) (fun rv28 w31 hv => ?_);obtain ⟨ra29, rc30, rfl⟩ := row_slice hv.head;apply uN;refine oG (vI ((i + 1 : Nat) : Int)) rfl (ex_add rfl rfl rfl (by rw [i64_in (by omega)]; omega)) ?_;refine then_normal ?_
    go_roundw
    case rel => exact ⟨i + 1, _, _, by
       have ht : toldL sc (z.take (i + 1)) = toldL sc (z.take i) ++ [x.2] ++ [Lib.itoa x.1] := by rw [told_next hx]; simp [hc24]
       rw [ht, List.length_append, List.length_append]; rfl, rfl, by omega, by
       have ht : toldL sc (z.take (i + 1)) = toldL sc (z.take i) ++ [x.2] ++ [Lib.itoa x.1] := by rw [told_next hx]; simp [hc24]
       rw [ht, List.length_append, List.length_append, ← text_snoc, ← text_snoc]; exact (hv.kp [4, 1] 2 3)⟩
    case measure => show z.length - (((i + 1 : Nat) : Int)).toNat < z.length - ((i : Int)).toNat; omega
   apply uN;refine oG (vI ((i + 1 : Nat) : Int)) rfl (ex_add rfl rfl rfl (by rw [i64_in (by omega)]; omega)) ?_;refine then_normal ?_
   go_roundw
   case rel => exact ⟨i + 1, _, _, by
      have ht : toldL sc (z.take (i + 1)) = toldL sc (z.take i) ++ [x.2] := by rw [told_next hx]; simp [hc24]
      rw [ht, List.length_append]; rfl, rfl, by omega, by
      have ht : toldL sc (z.take (i + 1)) = toldL sc (z.take i) ++ [x.2] := by rw [told_next hx]; simp [hc24]
      rw [ht, List.length_append, ← text_snoc]; exact (hv.kp [3, 1] 2 2)⟩
   case measure => show z.length - (((i + 1 : Nat) : Int)).toNat < z.length - ((i : Int)).toNat; omega
  intro _ _ _ _;obtain rfl : i = z.length := by omega
  rw [List.take_length] at hv
  try rw [List.take_length]
  have htl := told_len sc z;obtain ⟨G, hG, hv, hre, hoke, -⟩ := hv.rowBy;apply uN;refine xC zd1callable120 rfl ((respStrsR G _ _ ra rc (toldL sc z) (hre.more (Base.Le.refl _) (fun _ h => h)) (by omega) hv).mono ?_) rfl;rintro e w38 ⟨D34, da35, dc36, hD34, rfl, hrp37o, hrp37, hv⟩;apply eR;refine zX 0 rfl hv rssz29 rfl fun w39 hv => ?_
  apply uN;refine bC 0 rswd29 hv rfl rfl rfl rfl (⟨D34, da35, dc36, (hG.trans hD34), rfl, hrp37o, (hrp37.more (Base.Le.refl _) (fun _ h => h)), (hv.kp [] 0 1)⟩)
theorem czTold (B : Base) (H : List Res) (w : World) (sc : Bool) (za : Option Addr) (zc : Nat) (z : Zs) (hrz : RdV B [] za (memCells z)) (hmz : z.length ≤ 100000) (hfz : ∀ m ∈ z, ZFit m.1) (hN : NumB B) (hv : Inv B H w) : Calls Tryz.prog 85 #[.bool sc, .slice za z.length zc] w fun e w' => ∃ D lw, B.Le D ∧ e = .returned (.agg #[vI 5, vS [], vI 0, lw]) ∧ RpAt D (rStrs (toldL sc z)) (rpCells 5 [] 0 lw) ∧ Inv D H w' :=
 (czToldR B H w sc za zc z hrz hmz hfz hN hv).mono fun e _ ⟨D, _, _, h1, h2, h3, h4, h5⟩ => ⟨D, _, h1, h2, rpAt_strs h3 h4, h5⟩
end Go.Proofs.YtgbhdfpobgefgaaGreatDoor
namespace Go.Pm
open Go.RowKit
section
variable {P : Program} {t : TypeId} {l : List UInt8}
theorem cut_size : (⟨l.toArray⟩ : ByteArray).size = l.length := rfl
theorem run_cuth (ht : P.underlying t = some .string) {j : Nat} (hj : j ≤ l.length) (w : World) : (Instr.sliceAt t (.string ⟨l.toArray⟩) none (some (.int .i64 (j : Int))) none).run P w = .ok (.string ⟨(l.take j).toArray⟩) w := by
 rw [run_sliceAt_string w t _ _ _ _ ht, run_slice_string_h w t ⟨l.toArray⟩ ht .i64 (j : Int) (by omega) (by rw [cut_size]; omega), ByteArray.extract_mk]
 simp
theorem run_cutl (ht : P.underlying t = some .string) {i : Nat} (hi : i ≤ l.length) (w : World) : (Instr.sliceAt t (.string ⟨l.toArray⟩) (some (.int .i64 (i : Int))) none none).run P w = .ok (.string ⟨(l.drop i).toArray⟩) w := by
 rw [run_sliceAt_string w t _ _ _ _ ht, run_slice_string_l w t ⟨l.toArray⟩ ht .i64 (i : Int) (by omega) (by rw [cut_size]; omega), ByteArray.extract_mk, cut_size];have : (l.drop i).take (l.length - i) = l.drop i := List.take_of_length_le (by simp)
 simp [this]
end
end Go.Pm
