/- zset.compare, zset.Right. -/
import Derived.Test.YtgbhdfpobgefgaaGreatDoorCzNamC
import Derived.Test.YtgbhdfpobgefgaaGreatDoorCzNamB
import Derived.Test.YtgbhdfpobgefgaaGreatDoorRows
import Derived.Shelf.SlSortCmp.NoneTotal
import Derived.Sort.OwnSorted
import Derived.Shelf.Small.Strs
import Derived.Ground.SlsfProg
import Derived.Ground.NamesProg
set_option maxRecDepth 100000
set_option maxHeartbeats 16000000
set_option synthInstance.maxSize 65536
set_option synthInstance.maxHeartbeats 4000000
namespace Go.Proofs.YtgbhdfpobgefgaaGreatDoor
open Go.RowKit Go.Pm
def cmpI (a b : Int) : Int := if a < b then -1 else if a > b then 1 else 0
def cmpS (a b : List UInt8) : Int := if Op.bytesLess a b = true then -1 else if Op.bytesLess b a = true then 1 else 0
def orI (a b : Int) : Int := if a ≠ 0 then a else b
def cmpM (a b : Int × List UInt8) : Int := orI (cmpI a.1 b.1) (cmpS a.2 b.2)
theorem nanI (B : Base) (H : List Res) (w : World) (n : Int) (hv : Inv B H w) :
  Calls Tryz.prog 157 #[vI n] w fun e w' => e = .returned (.bool false) ∧ Inv B H w' := by
 refine cW Tryz.func157 rfl Tryz.ntmps157 ?_;simp only [al];apply uN;intro _ _;apply uN;intro _ _;refine uU (by simp) ?_;refine bR rfl rfl (⟨rfl, hv⟩)
theorem nanS (B : Base) (H : List Res) (w : World) (s : List UInt8) (hv : Inv B H w) :
  Calls Tryz.prog 158 #[vS s] w fun e w' => e = .returned (.bool false) ∧ Inv B H w' := by
 refine cW Tryz.func158 rfl Tryz.ntmps158 ?_;simp only [al];apply uN;intro _ _;apply uN;intro _ _;refine uU (by simp) ?_;refine bR rfl rfl (⟨rfl, hv⟩)
theorem s11callable157 : Callable Tryz.prog 157 := cb Tryz.func157 (by kernel_rfl)
theorem cmpInt (B : Base) (H : List Res) (w : World) (a b : Int) (hv : Inv B H w) :
  Calls Tryz.prog 136 #[vI a, vI b] w fun e w' => e = .returned (vI (cmpI a b)) ∧ Inv B H w' := by
 refine cW Tryz.func136 rfl Tryz.ntmps136 ?_;simp only [al];apply uN;intro _ _;apply uN;intro _ _;refine xC s11callable157 rfl ((nanI B _ _ _ hv).mono ?_) rfl;rintro e w3 ⟨rfl, hv⟩;apply eR;intro _ _;refine xC s11callable157 rfl ((nanI B _ _ _ hv).mono ?_) rfl;rintro e w5 ⟨rfl, hv⟩;apply eR;intro _ _ _ _;apply uN;intro _ _ _ _;apply uN;intro _ _ _ _;refine uB (fun hb12 => ?_) fun hb12 => ?_
 ·intro _ _;apply uN;refine bR rfl rfl ?_;exact ⟨congrArg (fun b => Ending.returned (vI b)) (by unfold cmpI; simp [*]), hv⟩
 intro _ _ _ _;refine uB (fun hb16 => ?_) fun hb16 => ?_
 ·intro _ _;apply uN;refine bR rfl rfl ?_;exact ⟨congrArg (fun b => Ending.returned (vI b)) (by unfold cmpI; simp [*]), hv⟩
 intro _ _;apply uN;refine bR rfl rfl (⟨congrArg (fun b => Ending.returned (vI b)) (by unfold cmpI; simp [*]), hv⟩)
theorem s11callable158 : Callable Tryz.prog 158 := cb Tryz.func158 (by kernel_rfl)
theorem cmpStr (B : Base) (H : List Res) (w : World) (a b : (List UInt8)) (hv : Inv B H w) :
  Calls Tryz.prog 137 #[vS a, vS b] w fun e w' => e = .returned (vI (cmpS a b)) ∧ Inv B H w' := by
 refine cW Tryz.func137 rfl Tryz.ntmps137 ?_;simp only [al];apply uN;intro _ _;apply uN;intro _ _;refine xC s11callable158 rfl ((nanS B _ _ _ hv).mono ?_) rfl;rintro e w3 ⟨rfl, hv⟩;apply eR;intro _ _;refine xC s11callable158 rfl ((nanS B _ _ _ hv).mono ?_) rfl;rintro e w5 ⟨rfl, hv⟩;apply eR;intro _ _ _ _;apply uN;intro _ _ _ _;apply uN;intro _ _ _ _;refine oG (.bool (Op.bytesLess a b)) rfl (ex_slss rfl rfl rfl rfl) ?_;refine wpIn_cond_split (t := Op.bytesLess a b) rfl (fun hc12 => ?_) (fun hc12 => ?_)
 ·apply uN;intro _ _;apply uN;refine bR rfl rfl ?_;exact ⟨congrArg (fun b => Ending.returned (vI b)) (by unfold cmpS; simp [*]), hv⟩
 apply uN;intro _ _ _ _;refine oG (.bool (Op.bytesLess b a)) rfl (ex_sgtr rfl rfl rfl rfl) ?_;refine wpIn_cond_split (t := Op.bytesLess b a) rfl (fun hc16 => ?_) (fun hc16 => ?_)
 ·apply uN;intro _ _;apply uN;refine bR rfl rfl ?_;exact ⟨congrArg (fun b => Ending.returned (vI b)) (by unfold cmpS; simp [*]), hv⟩
 apply uN;intro _ _;apply uN;refine bR rfl rfl (⟨congrArg (fun b => Ending.returned (vI b)) (by unfold cmpS; simp [*]), hv⟩)
theorem s11es23 (w : World) : (sizeOf (Tryz.prog.elem 23)).run Tryz.prog w = .ok 1 w := by kernel_rfl
theorem cmpOr (B : Base) (H : List Res) (w : World) (ad : Option Addr) (a b : Int) (R : List Res) (hRH : ∀ r ∈ R, r ∈ H) (hr : RdW B R ad [vI a, vI b]) (hv : Inv B H w) :
  Calls Tryz.prog 135 #[.slice ad 2 2] w fun e w' => e = .returned (vI (orI a b)) ∧ Inv B H w' := by
 refine cW Tryz.func135 rfl Tryz.ntmps135 ?_;simp only [al];apply uN;intro _ _;apply uN;intro _ _;apply uN;intro _ _ _ _;refine oG (vI 2) rfl (ex_len0 Tryz.underlying23 rfl rfl) ?_
 gi_loopw [8] (fun x8 wr => ∃ (i : Nat), x8 = vI i ∧ i ≤ 2 ∧ (0 < i → a = 0) ∧ (1 < i → b = 0) ∧ Inv B H wr) (fun x8 _ => 2 - (intOf x8).toNat)
 case atStart => exact ⟨0, rfl, Nat.zero_le _, fun h => by omega, fun h => by omega, hv⟩
 case round =>
  obtain ⟨i, rfl, hi, ha0, hb0, hv⟩ := hrel;apply uN;intro _ _;refine uB (fun hb7 => ?_) fun hb7 => ?_
  ·intro _ _;apply uN;intro _ _ _ _;obtain ⟨x, hx⟩ : ∃ x : Int, ([a, b] : List Int)[i]? = some x := ⟨_, List.getElem?_eq_getElem (by simp; omega)⟩;have hxv : ([vI a, vI b] : List Value)[i]? = some (vI x) := by
    rcases (show i = 0 ∨ i = 1 by omega) with h | h <;> subst h <;> simp at hx ⊢ <;> exact hx
   obtain ⟨bb, bo, had, hrd⟩ := row1_reads hr hxv;subst had;apply uN;refine oG (.pointer (some ⟨bb, bo + i, none⟩)) rfl (ex_index rfl rfl rfl (run_idx1 (k := i) Tryz.underlying23 s11es23 (by omega))) ?_;refine oL _ rfl (run_load1 s2na3 (hrd _ _ _ (Base.Le.refl _) (fun r9 hr9 => (hRH r9 hr9)) hv 0 _ rfl)) ?_;intro _ _;refine uB (fun hb12 => ?_) fun hb12 => ?_
   ·intro _ _;apply uN;refine bR rfl rfl (⟨congrArg (fun b => Ending.returned (vI b)) (by unfold orI; rcases (show i = 0 ∨ i = 1 by omega) with h | h <;> subst h <;> simp at hx <;> subst hx <;> (try rw [if_neg (by have := ha0 (by omega); omega)]) <;> (try rw [if_pos (by omega)])), hv⟩)
   refine oG (vI ((i + 1 : Nat) : Int)) rfl (ex_add rfl rfl rfl (by rw [i64_in (by omega)]; omega)) ?_;refine then_normal ?_
   go_roundw
   case rel => exact ⟨i + 1, rfl, by omega, fun _ => by rcases (show i = 0 ∨ i = 1 by omega) with h | h <;> subst h <;> simp at hx <;> omega, fun _ => by rcases (show i = 0 ∨ i = 1 by omega) with h | h <;> subst h <;> simp at hx <;> omega, hv⟩
   case measure => show 2 - (((i + 1 : Nat) : Int)).toNat < 2 - ((i : Int)).toNat; omega
  intro _ _ _ _;apply uN;refine bR rfl rfl ?_;exact ⟨congrArg (fun b => Ending.returned (vI b)) (by unfold orI; rw [if_neg (by have := ha0 (by omega); omega)]; have := hb0 (by omega); omega), hv⟩
theorem s11fa123_0 : FA Tryz.prog 123 0 0 := fun w b o => by kernel_rfl
theorem s11callable136 : Callable Tryz.prog 136 := cb Tryz.func136 (by kernel_rfl)
theorem s11callable137 : Callable Tryz.prog 137 := cb Tryz.func137 (by kernel_rfl)
theorem s11callable135 : Callable Tryz.prog 135 := cb Tryz.func135 (by kernel_rfl)
theorem zsetCompare (B : Base) (H : List Res) (w : World) (x y : Int × List UInt8) (hv : Inv B H w) :
  Calls Tryz.prog 111 #[.agg #[vI x.1, vS x.2], .agg #[vI y.1, vS y.2]] w fun e w' => e = .returned (vI (cmpM x y)) ∧ Inv B H w' := by
 refine cW Tryz.func111 rfl Tryz.ntmps111 ?_;simp only [al];apply uN;intro _ _;refine sl_box (L := [vI x.1, vS x.2]) tV (wn rfl) rfl rfl hv (fun w => by kernel_rfl) (fun b2 w3 hv => ?_);refine sl_box (L := [vI y.1, vS y.2]) tV (wn rfl) rfl rfl hv (fun w => by kernel_rfl) (fun b4 w5 hv => ?_);apply uN;intro _ _;refine rW mixed [4, 9, 10, 11] [0,1,2,3,5,6,7,8,4,9,10,11,12] 17 rfl (by kernel_rfl) hv ?_;simp only [qm, opAt];refine dG (vP b2) rfl (ex_field rfl rfl (s11fa123_0 _ _ _)) ?_;refine dL _ rfl (fun hv => ex_load rfl rfl (run_load1 s2na3 (hv.load 1 0 rfl rfl))) ?_;refine dG (vP b4) rfl (ex_field rfl rfl (s11fa123_0 _ _ _)) ?_;simp only [zP, po];refine dL _ rfl (fun hv => ex_load rfl rfl (run_load1 s2na3 (hv.load 0 0 rfl rfl))) ?_;refine dG (.pointer (some ⟨b2, 1, none⟩)) rfl (ex_field rfl rfl (s9fa123_1 _ _ _)) ?_;refine dF _ rfl (fun hv => ex_load rfl rfl (run_load1 s9na9 (hv.load 1 1 rfl rfl))) fun f7 hf7 => ?_
 simp only [zP, po];refine dG (.pointer (some ⟨b4, 1, none⟩)) rfl (ex_field rfl rfl (s9fa123_1 _ _ _)) ?_;refine dF _ rfl (fun hv => ex_load rfl rfl (run_load1 s9na9 (hv.load 0 1 rfl rfl))) fun f8 hf8 => ?_
 refine dS rfl fun w9 hv => mC s11callable136 rfl ((cmpInt B _ _ _ _ hv).mono ?_) rfl
 rintro e w10 ⟨rfl, hv⟩;refine ⟨_, rfl, dV hv (fC (fun ww hv => hf8 ww (ex_load rfl rfl (run_load1 s9na9 (hv.load 0 1 rfl rfl)))) (fC (fun ww hv => hf7 ww (ex_load rfl rfl (run_load1 s9na9 (hv.load 1 1 rfl rfl)))) fN)) ?_⟩;simp only [zP, po];refine dS rfl fun w11 hv => mC s11callable137 rfl ((cmpStr B _ _ _ _ hv).mono ?_) rfl
 rintro e w12 ⟨rfl, hv⟩;refine ⟨_, rfl, dV hv (fK rfl (fK rfl fN)) ?_⟩;refine dS rfl fun w13 hv => mem_row2 (v1 := vI (cmpI x.1 y.1)) (v2 := vI (cmpS x.2 y.2)) (e := 3) rfl rfl rfl rfl hv (fun w => by kernel_rfl) (fun b14 w15 hv => ?_)
 refine dV hv (fK rfl (fK rfl fN)) (dS rfl fun w16 hv => ?_);refine mC s11callable135 rfl ((cmpOr B _ _ _ (cmpI x.1 y.1) (cmpS x.2 y.2) [_] (fun r hr => by rw [List.mem_singleton.1 hr]; exact List.mem_of_getElem? (i := 0) rfl) rdW_cell hv).mono ?_) rfl;rintro e w17 ⟨rfl, hv⟩;refine ⟨_, rfl, dV hv (fK rfl (fK rfl fN)) ?_⟩;apply uN;refine dE fun w18 hv => ?_
 apply uN;refine bR rfl rfl (⟨rfl, (hv.kp [] 0 3)⟩)
def memName (m : Int × List UInt8) : List UInt8 := m.2
def ZsetAt (l : List (Int × List UInt8)) (i : Nat) : Prop := ∀ x, l[i]? = some x → ∀ (j : Nat) y, i = j + 1 → l[j]? = some y → cmpM y x < 0
def ZsetOk (l : List (Int × List UInt8)) : Prop := l.length ≤ 512 ∧ l.any (fun m => decide (m.2.length > 4096)) = false ∧ (∀ i, ZsetAt l i) ∧ (l.map memName).Nodup
theorem s11callable109 : Callable Tryz.prog 109 := cb Tryz.func109 (by kernel_rfl)
theorem s11callable108 : Callable Tryz.prog 108 := cb Tryz.func108 (by kernel_rfl)
theorem s11al123 : AL Tryz.prog 123 [vI 0, vS []] := fun w => by kernel_rfl
theorem s11sz123 : (Tryz.prog.info? 123).map (·.size) = some 2 := by kernel_rfl
theorem s11callable111 : Callable Tryz.prog 111 := cb Tryz.func111 (by kernel_rfl)
theorem zsetRightC (B : Base) (H : List Res) (w : World) (ad : Option Addr) (c : Nat) (l : List (Int × List UInt8)) (hr : RdV B [] ad (memCells l)) (hm : l.length ≤ 1000000) (hv : Inv B H w) :
  Calls Tryz.prog 249 #[.slice ad l.length c] w fun e w' => ∃ b, e = .returned (.bool b) ∧ (b = true ↔ ZsetOk l) ∧ Inv B H w' := by
 refine cW Tryz.func249 rfl Tryz.ntmps249 ?_;simp only [al];apply uN;intro _ _;apply uN;intro _ _ _ _;refine oG (vI (l.length : Int)) rfl (ex_len0 Tryz.underlying82 rfl rfl) ?_;refine uB (fun hb4 => ?_) fun hb4 => ?_
 ·intro _ _;apply uN;refine bR rfl rfl ?_;exact ⟨false, rfl, ⟨fun h => (by cases h), fun h => by have := h.1; omega⟩, hv⟩
 refine xC s11callable108 rfl ((containsFuncMem B _ _ 109 #[] ad c l (fun m : Int × List UInt8 => decide (m.2.length > 4096)) hr hm s11callable109 (fun x _ w hv => zsetLong B _ w x.1 x.2 hv) hv).mono ?_) rfl;rintro e w6 ⟨rfl, hv⟩;apply eR;refine wpIn_cond_split (t := l.any (fun m : Int × List UInt8 => decide (m.2.length > 4096))) rfl (fun hc7 => ?_) (fun hc7 => ?_)
 ·apply uN;intro _ _;apply uN;refine bR rfl rfl ?_;exact ⟨false, rfl, ⟨fun h => (by cases h), fun h => by have := h.2.1; rw [hc7] at this; cases this⟩, hv⟩
 apply uN;intro _ _;refine oG (vI (l.length : Int)) rfl (ex_len0 Tryz.underlying82 rfl rfl) ?_;refine sl_makeMap (m := (l.length : Int)) tV (wn rfl) rfl rfl Tryz.underlying149 hv (fun mp10 w11 hv => ?_);apply uN;intro _ _ _ _;refine oG (vI (l.length : Int)) rfl (ex_len0 Tryz.underlying82 rfl rfl) ?_
 gi_loopw [18] (fun x18 wr => ∃ (i : Nat), x18 = vI i ∧ i ≤ l.length ∧ (∀ k, k < i → ZsetAt l k) ∧ Inv B (Res.keys mp10 (keysOf ((l.take i).map memName)) (i : Int) :: H) wr) (fun x18 _ => l.length - (intOf x18).toNat)
 case atStart => exact ⟨0, rfl, Nat.zero_le _, fun k h => by omega, hv⟩
 case round =>
  obtain ⟨i, rfl, hi, hall, hv⟩ := hrel;apply uN;intro _ _;refine uB (fun hb16 => ?_) fun hb16 => ?_
  ·intro _ _;apply uN;intro _ _ _ _;obtain ⟨x, hx⟩ : ∃ x, l[i]? = some x := ⟨_, List.getElem?_eq_getElem (show i < l.length by omega)⟩;obtain ⟨bb, bo, had, hrdx⟩ := mem_reads hr hx;subst had;apply uN;refine oG (.pointer (some ⟨bb, bo + i * 2, none⟩)) rfl (ex_index rfl rfl rfl (run_idx (k := i) Tryz.underlying82 s9es82 (by omega))) ?_;refine oL (.agg #[vI x.1, vS x.2]) rfl (run_loadR (cs := [vI x.1, vS x.2]) s9wd123 (Reads.mid (pre := []) (mid := [vI x.1, vS x.2]) (post := []) hrdx _ _ _ (Base.Le.refl _) no_res hv)) ?_;refine sl_alloc tV (wn rfl) rfl hv s11al123 (fun b20 w21 hv => ?_);apply uN;refine zX 0 rfl hv s11sz123 rfl (fun w22 hv => ?_) (by exact ⟨rfl, rfl, trivial⟩);apply uN;intro _ _ _ _;refine rW mixed [9] [0,1,2,3,4,5,6,7,8,9,10,11] 45 rfl (by kernel_rfl) hv ?_;simp only [qm, opAt];apply uN;by_cases hb25 : (i : Int) > 0
   ·obtain ⟨j, hj⟩ : ∃ j : Nat, i = j + 1 := ⟨i - 1, by omega⟩;obtain ⟨y, hy⟩ : ∃ x, l[j]? = some x := ⟨_, List.getElem?_eq_getElem (show j < l.length by omega)⟩;obtain ⟨b9, o9, had9, hrdy⟩ := mem_reads hr hy;cases had9
    skip
    refine dG (.bool true) rfl (ex_gtr rfl rfl rfl (qT hb25)) ?_;apply uN;refine dG (vI j) rfl (ex_sub rfl rfl rfl (by rw [i64_in (by omega)]; omega)) ?_;simp only [zP, po];refine dG (.pointer (some ⟨bb, bo + j * 2, none⟩)) rfl (ex_index rfl rfl rfl (run_idx (k := j) Tryz.underlying82 s9es82 (by omega))) ?_;refine dL (.agg #[vI y.1, vS y.2]) rfl (fun hv => ex_load rfl rfl (run_loadR (cs := [vI y.1, vS y.2]) s9wd123 (Reads.mid (pre := []) (mid := [vI y.1, vS y.2]) (post := []) hrdy _ _ _ (Base.Le.refl _) no_res hv))) ?_;refine dL (.agg #[vI x.1, vS x.2]) rfl (fun hv => ex_load rfl rfl (lM 0 s9wd123 hv rfl rfl rfl rfl)) ?_;simp only [zP, po];refine dS rfl fun w26 hv => mC s11callable111 rfl ((zsetCompare B _ _ y x hv).mono ?_) rfl
    rintro e w27 ⟨rfl, hv⟩;refine ⟨_, rfl, dW hv ?_⟩;by_cases hb28 : (cmpM y x) ≥ 0
    ·refine dG (.bool true) rfl (ex_geq rfl rfl rfl (qT hb28)) ?_;apply uN;refine dE fun w29 hv => ?_
     apply uN;intro _ _;apply uN;refine bR rfl rfl (⟨false, rfl, ⟨fun h => (by cases h), fun h => by have := h.2.2.1 i x hx j y (by omega) hy; omega⟩, (hv.kp [] 0 2)⟩)
    refine dG (.bool false) rfl (ex_geq rfl rfl rfl (qF hb28)) ?_;apply uN;refine dE fun w31 hv => ?_
    apply uN;refine oF (.pointer (some ⟨b20, 1, none⟩)) rfl (s9fa123_1 _ _ _) ?_;refine oL _ rfl (run_load1 s9na9 (hv.load 0 1 rfl rfl)) ?_;replace hv := hv.front 1 rfl;simp only [eS, eZ] at hv;refine sl_updStr (k := x.2) (m' := ((i + 1 : Nat) : Int)) tV (wn rfl) rfl rfl rfl rfl Tryz.underlying149 Tryz.underlying9 hv (by omega) (by omega) (fun w32 hv => ?_);apply uN;refine oG (vI ((i + 1 : Nat) : Int)) rfl (ex_add rfl rfl rfl (by rw [i64_in (by omega)]; omega)) ?_;refine then_normal ?_
    go_roundw
    case rel => exact ⟨i + 1, rfl, by omega, fun k hk => (by
       rcases Nat.lt_or_ge k i with h | h
       ·exact hall k h
       obtain rfl : k = i := by omega
       intro x' hx';rw [hx] at hx'; cases hx';intro j' y' hj' hy';obtain rfl : j' = j := by omega
       rw [hy] at hy'; cases hy'; omega), by rw [take_next hx, List.map_append, List.map_cons, List.map_nil, keysOf_snoc]; exact (hv.kp [] 1 1)⟩
    case measure => show l.length - (((i + 1 : Nat) : Int)).toNat < l.length - ((i : Int)).toNat; omega
   refine dG (.bool false) rfl (ex_gtr rfl rfl rfl (qF hb25)) ?_;apply uN;refine dE fun w33 hv => ?_
   apply uN;refine oF (.pointer (some ⟨b20, 1, none⟩)) rfl (s9fa123_1 _ _ _) ?_;refine oL _ rfl (run_load1 s9na9 (hv.load 0 1 rfl rfl)) ?_;replace hv := hv.front 1 rfl;simp only [eS, eZ] at hv;refine sl_updStr (k := x.2) (m' := ((i + 1 : Nat) : Int)) tV (wn rfl) rfl rfl rfl rfl Tryz.underlying149 Tryz.underlying9 hv (by omega) (by omega) (fun w34 hv => ?_);apply uN;refine oG (vI ((i + 1 : Nat) : Int)) rfl (ex_add rfl rfl rfl (by rw [i64_in (by omega)]; omega)) ?_;refine then_normal ?_
   go_roundw
   case rel => exact ⟨i + 1, rfl, by omega, fun k hk => (by
      rcases Nat.lt_or_ge k i with h | h
      ·exact hall k h
      obtain rfl : k = i := by omega
      intro x' hx';rw [hx] at hx'; cases hx';intro j' y' hj' hy';omega), by rw [take_next hx, List.map_append, List.map_cons, List.map_nil, keysOf_snoc]; exact (hv.kp [] 1 1)⟩
   case measure => show l.length - (((i + 1 : Nat) : Int)).toNat < l.length - ((i : Int)).toNat; omega
  intro _ _ _ _;refine oG (vI ((keysOf ((l.take i).map memName)).length : Int)) rfl (ex_lenMap 0 Tryz.underlying149 rfl rfl hv rfl) ?_;refine oG (vI (l.length : Int)) rfl (ex_len0 Tryz.underlying82 rfl rfl) ?_;refine oG (.bool (decide (((keysOf ((l.take i).map memName)).length : Int) = (l.length : Int)))) rfl (ex_eql rfl rfl rfl rfl) ?_;refine bR rfl rfl ?_;obtain rfl : i = l.length := by omega
  have h9 := keysOf_len (l.map memName);rw [List.length_map] at h9;refine ⟨_, rfl, ?_, (hv.kp [] 0 1)⟩;rw [List.take_length, decide_eq_true_iff]
  constructor
  ·intro h;exact ⟨by omega, by simpa using hc7, fun k x hx => hall k (List.getElem?_eq_some_iff.1 hx).1 x hx, h9.2.1 (by omega)⟩
  intro h;have := h9.2.2 h.2.2.2;omega
open Go.Sort
def msw (m : Int × List UInt8) : List UInt8 × Int := (m.2, m.1)
def nmZ (m : Int × List UInt8) : List UInt8 := m.2
theorem okZ0 : SliceOk none 0 0 := ⟨Nat.le_refl _, Nat.zero_le _, fun _ => rfl⟩
def scoreZ (l : Zs) (k : List UInt8) : Option Int := lookA (l.map msw) k
def RankR (l : Zs) (k : List UInt8) (i : Nat) (ok : Bool) : Prop := (ok = true ∧ (∃ x, l[i]? = some x ∧ x.2 = k) ∧ ∀ y ∈ l.take i, y.2 ≠ k) ∨ (ok = false ∧ i = 0 ∧ ∀ y ∈ l, y.2 ≠ k)
theorem score_rank : ∀ {l : Zs} {k : List UInt8} {i : Nat} {x : Int × List UInt8}, l[i]? = some x → x.2 = k → (∀ y ∈ l.take i, y.2 ≠ k) → scoreZ l k = some x.1
 | [], k, i, x, h, _, _ => by simp at h
 | m :: l, k, 0, x, h, hx, _ => by
  rw [List.getElem?_cons_zero, Option.some.injEq] at h;subst h;unfold scoreZ; rw [List.map_cons]; unfold lookA; rw [if_pos (show (msw m).1 = k from hx)]; rfl
 | m :: l, k, i + 1, x, h, hx, hn => by
  rw [List.getElem?_cons_succ] at h;unfold scoreZ; rw [List.map_cons]; unfold lookA; rw [if_neg (show ¬ (msw m).1 = k from hn m (by simp))];exact score_rank h hx (fun y hy => hn y (by rw [List.take_succ_cons]; exact List.mem_cons_of_mem _ hy))
theorem score_none : ∀ {l : Zs} {k : List UInt8}, (∀ y ∈ l, y.2 ≠ k) → scoreZ l k = none
 | [], k, _ => rfl
 | m :: l, k, hn => by
  unfold scoreZ; rw [List.map_cons]; unfold lookA; rw [if_neg (show ¬ (msw m).1 = k from hn m List.mem_cons_self)];exact score_none (fun y hy => hn y (List.mem_cons_of_mem _ hy))
def givenZ (ms : Zs) : List (List UInt8 × Int) := ms.foldl (fun g m => updA g m.2 m.1) []
theorem given_next {ms : Zs} {i : Nat} {x : Int × List UInt8} (h : ms[i]? = some x) : givenZ (ms.take (i + 1)) = updA (givenZ (ms.take i)) x.2 x.1 := by
 unfold givenZ;rw [take_next h, List.foldl_append]; rfl
theorem given_len (ms : Zs) : (givenZ ms).length ≤ ms.length := by
 suffices h : ∀ (ms : Zs) (g : List (List UInt8 × Int)), (ms.foldl (fun g m => updA g m.2 m.1) g).length ≤ g.length + ms.length by have := h ms []; simpa [givenZ] using this
 intro ms
 induction ms with
 | nil => intro g; simp
 | cons m ms ih =>
  intro g;rw [List.foldl_cons, List.length_cons];have h1 := ih (updA g m.2 m.1);have h2 := updA_len g m.2 m.1;omega
def setZ (g : List (List UInt8 × Int)) (m : Int × List UInt8) : Int × List UInt8 := ((lookA g m.2).getD m.1, m.2)
def leftZ (g : List (List UInt8 × Int)) (z : Zs) : List (List UInt8 × Int) := g.filter fun e => decide (e.1 ∉ z.map nmZ)
theorem left_nil (g : List (List UInt8 × Int)) : leftZ g [] = g := List.filter_eq_self.2 fun e _ => by simp
theorem left_next {g : List (List UInt8 × Int)} {z : Zs} {i : Nat} {x : Int × List UInt8} (h : z[i]? = some x) : leftZ g (z.take (i + 1)) = (leftZ g (z.take i)).filter fun e => decide (e.1 ≠ x.2) := by
 unfold leftZ;rw [take_next h, List.filter_filter]
 congr 1
 funext e
 rw [Bool.eq_iff_iff]
 simp [nmZ, not_or, and_comm]
theorem left_look {g : List (List UInt8 × Int)} {z : Zs} {k : List UInt8} (h : k ∉ z.map nmZ) : lookA (leftZ g z) k = lookA g k := by
 have := look_filter (fun e => decide (e ∉ z.map nmZ)) g k;unfold leftZ;rw [this, if_pos (by simpa using h)]
theorem left_drop {g : List (List UInt8 × Int)} {z : Zs} {i : Nat} {x : Int × List UInt8} (h : z[i]? = some x) (hl : lookA g x.2 = none) : leftZ g (z.take (i + 1)) = leftZ g (z.take i) := by
 rw [left_next h];refine List.filter_eq_self.2 fun e he => ?_
 have he := (List.mem_filter.1 he).1;rw [decide_eq_true_iff];intro h9;exact (look_none g x.2).1 hl (by rw [← h9]; exact List.mem_map.2 ⟨e, he, rfl⟩)
theorem nodup_take {z : Zs} {i : Nat} {x : Int × List UInt8} (hn : (z.map nmZ).Nodup) (h : z[i]? = some x) : x.2 ∉ (z.take i).map nmZ := by
 have hi := (List.getElem?_eq_some_iff.1 h).1;have h2 : z.take (i + 1) = z.take i ++ [x] := take_next h;have h3 : ((z.take (i + 1)).map nmZ).Nodup := by rw [List.map_take]; exact List.Pairwise.sublist (List.take_sublist _ _) hn
 rw [h2, List.map_append, List.nodup_append] at h3;exact fun h9 => h3.2.2 _ h9 _ (List.mem_singleton.2 rfl) rfl
theorem setZ_some {g g2 : List (List UInt8 × Int)} {x : Int × List UInt8} (h : (lookA g2 x.2).isSome = true) (hl : lookA g2 x.2 = lookA g x.2) : setZ g x = ((lookA g2 x.2).getD 0, x.2) := by
 unfold setZ;rw [← hl];cases hc : lookA g2 x.2 with
 | none => rw [hc] at h; cases h
 | some n => rfl
theorem setZ_none {g g2 : List (List UInt8 × Int)} {x : Int × List UInt8} (h : (lookA g2 x.2).isSome = false) (hl : lookA g2 x.2 = lookA g x.2) : setZ g x = x ∧ lookA g x.2 = none := by
 unfold setZ;rw [← hl];cases hc : lookA g2 x.2 with
 | none => exact ⟨rfl, rfl⟩
 | some n => rw [hc] at h; cases h
def outZ (z : Zs) (g d : List (List UInt8 × Int)) : Zs := z.map (setZ g) ++ d.map fun e => (e.2, e.1)
theorem outZ_len (z : Zs) (g d : List (List UInt8 × Int)) : (outZ z g d).length = z.length + d.length := by unfold outZ; rw [List.length_append, List.length_map, List.length_map]
theorem outZ_snoc (z : Zs) (g d : List (List UInt8 × Int)) (k : List UInt8) (n : Int) : outZ z g (d ++ [(k, n)]) = outZ z g d ++ [(n, k)] := by unfold outZ; rw [List.map_append, ← List.append_assoc]; rfl
theorem outZ_nil (z : Zs) (g : List (List UInt8 × Int)) : outZ z g [] = z.map (setZ g) := List.append_nil _
def mergeZ (z ms : Zs) : Zs := z.map (setZ (givenZ ms)) ++ (leftZ (givenZ ms) z).map fun e => (e.2, e.1)
def cfZ (x y : Int × List UInt8) : Int := cmpM x y
def sortZ (l : Zs) : Zs := l.mergeSort fun x y => !(ltOf cfZ) y x
def Zlt (x y : Int × List UInt8) : Prop := x.1 < y.1 ∨ (x.1 = y.1 ∧ Op.bytesLess x.2 y.2 = true)
theorem cmpM_lt (x y : Int × List UInt8) : cmpM x y < 0 ↔ Zlt x y := by
 unfold cmpM orI cmpI cmpS Zlt;by_cases h1 : x.1 < y.1
 ·simp [h1]
 by_cases h2 : x.1 > y.1
 ·have h3 : ¬ x.1 = y.1 := by omega
  simp [h1, h2, h3]
 have h3 : x.1 = y.1 := by omega
 by_cases h4 : Op.bytesLess x.2 y.2 = true
 ·simp [h3, h4]
 by_cases h5 : Op.bytesLess y.2 x.2 = true <;> simp [h3, h4, h5]
theorem ltZ (x y : Int × List UInt8) : ltOf cfZ x y = true ↔ Zlt x y := by
 unfold ltOf;rw [decide_eq_true_iff];exact cmpM_lt x y
theorem swoZ : SWO (ltOf cfZ) := by
 have e : ltOf cfZ = ltOf fun x y : Int × List UInt8 => cmpNT x.1 y.1 x.2 y.2 := funext fun x => funext fun y => by
  rw [Bool.eq_iff_iff];exact (ltZ x y).trans (ltNT (fun x : Int × List UInt8 => x.1) (fun x => x.2) x y).symm
 rw [e];exact swoNT (fun x : Int × List UInt8 => x.1) (fun x => x.2)
theorem totZ {x y : Int × List UInt8} (h1 : ltOf cfZ x y = false) (h2 : ltOf cfZ y x = false) : x = y := by
 have n1 : ¬ Zlt x y := fun h9 => by rw [(ltZ x y).2 h9] at h1; cases h1
 have n2 : ¬ Zlt y x := fun h9 => by rw [(ltZ y x).2 h9] at h2; cases h2
 unfold Zlt at n1 n2;have e1 : x.1 = y.1 := by omega
 have b1 : Op.bytesLess x.2 y.2 = false := Bool.eq_false_iff.2 fun h9 => n1 (.inr ⟨e1, h9⟩)
 have b2 : Op.bytesLess y.2 x.2 = false := Bool.eq_false_iff.2 fun h9 => n2 (.inr ⟨e1.symm, h9⟩)
 have e2 := lt_total _ _ b1 b2;cases x; cases y; simp at e1 e2; rw [e1, e2]
theorem sortZ_perm (l : Zs) : (sortZ l).Perm l := List.mergeSort_perm ..
theorem sortZ_le (l : Zs) : (sortZ l).Pairwise fun x y => ltOf cfZ y x = false := by
 have h := List.pairwise_mergeSort (le := fun x y => !(ltOf cfZ) y x) (fun a b c h1 h2 => ?_) (fun a b => ?_) l
 ·exact h.imp (fun h9 => by simpa using h9)
 ·simp only [Bool.not_eq_true'] at h1 h2 ⊢;exact swoZ.ntrans _ _ _ h2 h1
 cases h1 : ltOf cfZ b a with
 | false => simp
 | true =>
  cases h2 : ltOf cfZ a b with
  | false => simp
  | true => have := swoZ.trans _ _ _ h1 h2; rw [swoZ.irrefl] at this; cases this
theorem sortZ_lt {l : Zs} (hn : (l.map nmZ).Nodup) : (sortZ l).Pairwise Zlt := by
 have h1 : ((sortZ l).map nmZ).Nodup := ((sortZ_perm l).map nmZ).nodup_iff.2 hn;have h2 := List.pairwise_map.1 h1;exact ((sortZ_le l).and h2).imp fun {a b} h => Classical.byContradiction fun h9 => h.2 (by
  rw [totZ (x := a) (y := b) (Bool.eq_false_iff.2 fun h8 => h9 ((ltZ a b).1 h8)) h.1])
theorem zlt_trans {x y z : Int × List UInt8} (h1 : Zlt x y) (h2 : Zlt y z) : Zlt x z := (ltZ x z).1 (swoZ.trans _ _ _ ((ltZ x y).2 h1) ((ltZ y z).2 h2))
theorem at_pair : ∀ {l : Zs}, (∀ i, ZsetAt l i) ↔ l.Pairwise Zlt
 | l => by
  constructor
  ·intro h
   suffices ∀ (l : Zs), (∀ j x y, l[j]? = some x → l[j + 1]? = some y → Zlt x y) → l.Pairwise Zlt from this l fun j x y hx hy => (cmpM_lt x y).1 (h (j + 1) y hy j x rfl hx)
   intro l
   induction l with
   | nil => intro _; exact List.Pairwise.nil
   | cons a l ih =>
    intro h;have hp := ih fun j x y hx hy => h (j + 1) x y (by simpa using hx) (by simpa using hy)
    refine List.pairwise_cons.2 ⟨fun b hb => ?_, hp⟩;cases l with
    | nil => cases hb
    | cons c l =>
     have hac := h 0 a c rfl rfl;rcases List.mem_cons.1 hb with rfl | hb
     ·exact hac
     exact zlt_trans hac ((List.pairwise_cons.1 hp).1 b hb)
  intro h i x hx j y hij hy;subst hij;exact (cmpM_lt y x).2 (by
   have h1 := (List.getElem?_eq_some_iff.1 hy);have h2 := (List.getElem?_eq_some_iff.1 hx);rw [← h1.2, ← h2.2];exact List.pairwise_iff_getElem.1 h j (j + 1) _ _ (by omega))
theorem zok_iff {l : Zs} : ZsetOk l ↔ l.length ≤ 512 ∧ (∀ m ∈ l, m.2.length ≤ 4096) ∧ l.Pairwise Zlt ∧ (l.map nmZ).Nodup := by
 unfold ZsetOk;rw [at_pair];refine and_congr Iff.rfl (and_congr ?_ Iff.rfl);rw [List.any_eq_false]
 simp
theorem outZ_perm {z ms : Zs} {d : List (List UInt8 × Int)} (h : d.Perm (leftZ (givenZ ms) z)) : (outZ z (givenZ ms) d).Perm (mergeZ z ms) := List.Perm.append_left _ (h.map _)
def slLen : Value → Nat
 | .slice _ n _ => n
 | _ => 0
def AddR (z ms out : Zs) (ad ec : Int) : Prop :=
 (ec = 12 ∧ (∃ m ∈ ms, 4096 < m.2.length) ∧ out = [] ∧ ad = 0) ∨ ((∀ m ∈ ms, m.2.length ≤ 4096) ∧ ((ec = 22 ∧ 512 < (mergeZ z ms).length ∧ out = [] ∧ ad = 0) ∨ (ec = 0 ∧ (mergeZ z ms).length ≤ 512 ∧ ad = ((leftZ (givenZ ms) z).length : Int) ∧ ∃ o, o.Perm (mergeZ z ms) ∧ out = sortZ o)))
end Go.Proofs.YtgbhdfpobgefgaaGreatDoor
namespace Go.Pm
open Go Go.Sort Go.Proofs Go.ChangeShapes Go.WideShapes Go.RowKit
theorem holds_of_blockV {w : World} {g : Nat} {cur F : Array Value} {e : TypeId} (hb : w.heap[g]? = some (.cells cur e (0, 0))) (ht : cur.toList.take F.size = F.toList) : Holds id w g 0 F := by
 intro j hj;refine ⟨?_, by simp [World.frozen?, hb]⟩;have h1 : (cur.toList.take F.size)[j]? = F.toList[j]? := by rw [ht]
 rw [List.getElem?_take_of_lt hj] at h1;simp only [World.cell?, hb, Nat.zero_add];simp only [Option.isSome_none, Bool.false_eq_true, if_false];rw [← Array.getElem?_toList, h1]
 simp [hj]
theorem heap_sortedV {w : World} {g n : Nat} {os : Array Obj} {cur : Array Value} {e : TypeId} {fr : Nat × Nat} (F : Array Value) (hb : w.heap[g]? = some (.cells cur e fr)) :
  (grow (putRow id (Sort.ahead w n) g 0 F) os).heap[g]? = some (.cells (putCells id 0 F cur) e fr) := by
 have hg : g < w.heap.size := (Array.getElem?_eq_some_iff.1 hb).1;rw [heap_grow_old _ _ (by simpa using hg)]
 simp [putRow, mapBlock, Sort.ahead, Array.getElem?_modify, hb, onCells]
theorem grownBy_sortedV {w : World} {g n : Nat} {os : Array Obj} (F : Array Value) : w.grownBy (grow (putRow id (Sort.ahead w n) g 0 F) os) (some g) := by
 refine ⟨rfl, rfl, rfl, by simp, fun k hk hne => ?_⟩;rw [heap_grow_old _ _ (by simpa using hk)];have : g ≠ k := fun e => hne (by rw [e])
 simp [putRow, mapBlock, Sort.ahead, Array.getElem?_modify, this]
theorem take_putCellsV (cur F : Array Value) (h : F.size ≤ cur.size) : (putCells id 0 F cur).toList.take F.size = F.toList := by
 apply List.ext_getElem?;intro j;by_cases hj : j < F.size
 ·rw [List.getElem?_take_of_lt hj, Array.getElem?_toList]
  simp [putCells, hj, show j < cur.size by omega]
 rw [List.getElem?_take_eq_none (by omega), List.getElem?_eq_none (by simp; omega)]
theorem ownsRow_sortedV {w : World} {base g cap n m k : Nat} {e : TypeId} {os : Array Obj} {cur F : Array Value} (hl : F.size = m * k) (hbase : base ≤ g) (hb : w.heap[g]? = some (.cells cur e (0, 0)))
  (h1 : m ≤ cap) (h2 : cap ≤ maxLen) (h3 : cur.size = cap * k) :
  (grow (putRow id (Sort.ahead w n) g 0 F) os).ownsRow base e k (.slice (some ⟨g, 0, none⟩) m cap) m F.toList :=
 ⟨by simp [hl], .inr ⟨g, cap, _, rfl, hbase, heap_sortedV _ hb, h1, h2, by simp [putCells, h3], by
  rw [← hl]; exact take_putCellsV cur F (by rw [hl, h3]; exact Nat.mul_le_mul_right _ h1)⟩⟩
end Go.Pm
namespace Go.Proofs
open Go.Shelf
def Tryz.laysSFZ_ren : Go.Shelf.Ren := ⟨fun | 6 => 110 | 15 => 134 | 14 => 133 | 28 => 155 | 29 => 156 | 20 => 147 | 21 => 148 | 22 => 149 | 23 => 150 | 24 => 151 | 25 => 152 | 26 => 153 | 27 => 154 | 46 => 172 | 47 => 173 | 48 => 174 | 49 => 175 | 50 => 176 | 57 => 190 | n => n, fun | 22 => 82 | 24 => 123 | 25 => 199 | 3 => 3 | 39 => 230 | 0 => 0 | 53 => 250 | 55 => 71 | 4 => 4 | 46 => 244 | 45 => 243 | 50 => 32 | 5 => 5 | 9 => 9 | 66 => 269 | 70 => 273 | 76 => 286 | 77 => 180 | n => n, fun | n => n⟩
theorem Tryz.laysSFZ : Go.Proofs.SlLaysF0.n6 Tryz.prog Tryz.laysSFZ_ren := {
 mixed := by kernel_rfl
 f6 := ⟨Tryz.f110.name, by decide, Tryz.func110.trans (congrArg some (by kernel_rfl))⟩
 f14 := ⟨Tryz.f133.name, by decide, Tryz.func133.trans (congrArg some (by kernel_rfl))⟩
 f15 := Tryz.func134.trans (congrArg some (by kernel_rfl))
 f20 := ⟨Tryz.f147.name, by decide, Tryz.func147.trans (congrArg some (by kernel_rfl))⟩
 f21 := ⟨Tryz.f148.name, by decide, Tryz.func148.trans (congrArg some (by kernel_rfl))⟩
 f22 := ⟨Tryz.f149.name, by decide, Tryz.func149.trans (congrArg some (by kernel_rfl))⟩
 f23 := ⟨Tryz.f150.name, by decide, Tryz.func150.trans (congrArg some (by kernel_rfl))⟩
 f24 := ⟨Tryz.f151.name, by decide, Tryz.func151.trans (congrArg some (by kernel_rfl))⟩
 f25 := ⟨Tryz.f152.name, by decide, Tryz.func152.trans (congrArg some (by kernel_rfl))⟩
 f26 := ⟨Tryz.f153.name, by decide, Tryz.func153.trans (congrArg some (by kernel_rfl))⟩
 f27 := ⟨Tryz.f154.name, by decide, Tryz.func154.trans (congrArg some (by kernel_rfl))⟩
 f28 := Tryz.func155.trans (congrArg some (by kernel_rfl))
 f29 := Tryz.func156.trans (congrArg some (by kernel_rfl))
 f46 := ⟨Tryz.f172.name, by decide, Tryz.func172.trans (congrArg some (by kernel_rfl))⟩
 f47 := Tryz.func173.trans (congrArg some (by kernel_rfl))
 f48 := Tryz.func174.trans (congrArg some (by kernel_rfl))
 f49 := ⟨Tryz.f175.name, by decide, Tryz.func175.trans (congrArg some (by kernel_rfl))⟩
 f50 := ⟨Tryz.f176.name, by decide, Tryz.func176.trans (congrArg some (by kernel_rfl))⟩
 f57 := ⟨Tryz.f190.name, by decide, Tryz.func190.trans (congrArg some (by kernel_rfl))⟩
 t0 := Tryz.underlying0
 a0 := Tryz.isAgg0
 z0 := Tryz.sizeOf0
 v0 := Tryz.zeroValue0
 t3 := Tryz.underlying3
 a3 := Tryz.isAgg3
 z3 := Tryz.sizeOf3
 v3 := Tryz.zeroValue3
 t4 := Tryz.underlying4
 a4 := Tryz.isAgg4
 z4 := Tryz.sizeOf4
 v4 := Tryz.zeroValue4
 t5 := Tryz.underlying5
 a5 := Tryz.isAgg5
 z5 := Tryz.sizeOf5
 v5 := Tryz.zeroValue5
 t9 := Tryz.underlying9
 a9 := Tryz.isAgg9
 z9 := Tryz.sizeOf9
 v9 := Tryz.zeroValue9
 t22 := Tryz.underlying82
 a22 := Tryz.isAgg82
 z22 := Tryz.sizeOf82
 v22 := Tryz.zeroValue82
 t25 := Tryz.underlying199
 a25 := Tryz.isAgg199
 z25 := Tryz.sizeOf199
 v25 := Tryz.zeroValue199
 t39 := Tryz.underlying230
 a39 := Tryz.isAgg230
 z39 := Tryz.sizeOf230
 v39 := Tryz.zeroValue230
 t45 := Tryz.underlying243
 a45 := Tryz.isAgg243
 z45 := Tryz.sizeOf243
 v45 := Tryz.zeroValue243
 t46 := Tryz.underlying244
 a46 := Tryz.isAgg244
 z46 := Tryz.sizeOf244
 v46 := Tryz.zeroValue244
 t50 := Tryz.underlying32
 a50 := Tryz.isAgg32
 z50 := Tryz.sizeOf32
 v50 := Tryz.zeroValue32
 t53 := Tryz.underlying250
 a53 := Tryz.isAgg250
 z53 := Tryz.sizeOf250
 v53 := Tryz.zeroValue250
 t55 := Tryz.underlying71
 a55 := Tryz.isAgg71
 z55 := Tryz.sizeOf71
 v55 := Tryz.zeroValue71
 t66 := Tryz.underlying269
 a66 := Tryz.isAgg269
 z66 := Tryz.sizeOf269
 v66 := Tryz.zeroValue269
 t70 := Tryz.underlying273
 a70 := Tryz.isAgg273
 z70 := Tryz.sizeOf273
 v70 := Tryz.zeroValue273
 t76 := Tryz.underlying286
 a76 := Tryz.isAgg286
 z76 := Tryz.sizeOf286
 v76 := Tryz.zeroValue286
 t77 := Tryz.underlying180
 a77 := Tryz.isAgg180
 z77 := Tryz.sizeOf180
 v77 := Tryz.zeroValue180 }
def Tryz.laysCs_ren : Go.Shelf.Ren := ⟨fun | 106 => 118 | 213 => 141 | 265 => 163 | n => n, fun | 9 => 9 | 3 => 3 | n => n, fun | n => n⟩
theorem Tryz.laysCs : Go.Proofs.Lays.n106 Tryz.prog Tryz.laysCs_ren := {
 mixed := by kernel_rfl
 f106 := Tryz.func118.trans (congrArg some (by kernel_rfl))
 f213 := Tryz.func141.trans (congrArg some (by kernel_rfl))
 f265 := Tryz.func163.trans (congrArg some (by kernel_rfl))
 t3 := Tryz.underlying3
 a3 := Tryz.isAgg3
 z3 := Tryz.sizeOf3
 v3 := Tryz.zeroValue3
 t9 := Tryz.underlying9
 a9 := Tryz.isAgg9
 z9 := Tryz.sizeOf9
 v9 := Tryz.zeroValue9 }
end Go.Proofs
namespace Go.Proofs.YtgbhdfpobgefgaaGreatDoor
open Go.RowKit Go.Pm
theorem nanIW (w : World) (n : Int) :
  Calls Tryz.prog 157 #[vI n] w fun e w' => e = .returned (.bool false) ∧ w' = w := by
 refine cW Tryz.func157 rfl Tryz.ntmps157 ?_;simp only [al];apply uN;intro _ _;apply uN;intro _ _;refine uU (by simp) ?_;refine bR rfl rfl (⟨rfl, rfl⟩)
theorem nanSW (w : World) (s : List UInt8) :
  Calls Tryz.prog 158 #[vS s] w fun e w' => e = .returned (.bool false) ∧ w' = w := by
 refine cW Tryz.func158 rfl Tryz.ntmps158 ?_;simp only [al];apply uN;intro _ _;apply uN;intro _ _;refine uU (by simp) ?_;refine bR rfl rfl (⟨rfl, rfl⟩)
theorem cmpIW (w : World) (a b : Int) :
  Calls Tryz.prog 136 #[vI a, vI b] w fun e w' => e = .returned (vI (cmpI a b)) ∧ w' = w := by
 refine cW Tryz.func136 rfl Tryz.ntmps136 ?_;simp only [al];apply uN;intro _ _;apply uN;intro _ _;refine xC s11callable157 rfl ((nanIW _ _).mono ?_) rfl;rintro e w3 ⟨rfl, rfl⟩;apply eR;intro _ _;refine xC s11callable157 rfl ((nanIW _ _).mono ?_) rfl;rintro e w5 ⟨rfl, rfl⟩;apply eR;intro _ _ _ _;apply uN;intro _ _ _ _;apply uN;intro _ _ _ _;refine uB (fun hb12 => ?_) fun hb12 => ?_
 ·intro _ _;apply uN;refine bR rfl rfl ?_;exact ⟨congrArg (fun b => Ending.returned (vI b)) (by unfold cmpI; simp [*]), rfl⟩
 intro _ _ _ _;refine uB (fun hb16 => ?_) fun hb16 => ?_
 ·intro _ _;apply uN;refine bR rfl rfl ?_;exact ⟨congrArg (fun b => Ending.returned (vI b)) (by unfold cmpI; simp [*]), rfl⟩
 intro _ _;apply uN;refine bR rfl rfl (⟨congrArg (fun b => Ending.returned (vI b)) (by unfold cmpI; simp [*]), rfl⟩)
theorem cmpSW (w : World) (a b : (List UInt8)) :
  Calls Tryz.prog 137 #[vS a, vS b] w fun e w' => e = .returned (vI (cmpS a b)) ∧ w' = w := by
 refine cW Tryz.func137 rfl Tryz.ntmps137 ?_;simp only [al];apply uN;intro _ _;apply uN;intro _ _;refine xC s11callable158 rfl ((nanSW _ _).mono ?_) rfl;rintro e w3 ⟨rfl, rfl⟩;apply eR;intro _ _;refine xC s11callable158 rfl ((nanSW _ _).mono ?_) rfl;rintro e w5 ⟨rfl, rfl⟩;apply eR;intro _ _ _ _;apply uN;intro _ _ _ _;apply uN;intro _ _ _ _;refine oG (.bool (Op.bytesLess a b)) rfl (ex_slss rfl rfl rfl rfl) ?_;refine wpIn_cond_split (t := Op.bytesLess a b) rfl (fun hc12 => ?_) (fun hc12 => ?_)
 ·apply uN;intro _ _;apply uN;refine bR rfl rfl ?_;exact ⟨congrArg (fun b => Ending.returned (vI b)) (by unfold cmpS; simp [*]), rfl⟩
 apply uN;intro _ _ _ _;refine oG (.bool (Op.bytesLess b a)) rfl (ex_sgtr rfl rfl rfl rfl) ?_;refine wpIn_cond_split (t := Op.bytesLess b a) rfl (fun hc16 => ?_) (fun hc16 => ?_)
 ·apply uN;intro _ _;apply uN;refine bR rfl rfl ?_;exact ⟨congrArg (fun b => Ending.returned (vI b)) (by unfold cmpS; simp [*]), rfl⟩
 apply uN;intro _ _;apply uN;refine bR rfl rfl (⟨congrArg (fun b => Ending.returned (vI b)) (by unfold cmpS; simp [*]), rfl⟩)
theorem cmpOrTwo (B : Base) (H : List Res) (w : World) (b : Nat) (x y : Int) (hv : Inv B (Res.cell b [vI x, vI y] 3 :: H) w) :
  Calls Tryz.prog 135 #[.slice (some ⟨b, 0, none⟩) 2 2] w fun e w' => e = .returned (vI (if x ≠ 0 then x else y)) ∧ w' = w := by
 refine cW Tryz.func135 rfl Tryz.ntmps135 ?_;simp only [al];apply uN;intro _ _;apply uN;intro _ _;apply uN;intro _ _ _ _;refine oG (vI 2) rfl (ex_len0 Tryz.underlying23 rfl rfl) ?_
 gi_loopw [8] (fun x8 wr => (x8 = vI 0 ∧ wr = w) ∨ (x8 = vI 1 ∧ x = 0 ∧ wr = w) ∨ (x8 = vI 2 ∧ x = 0 ∧ y = 0 ∧ wr = w)) (fun x8 _ => 2 - (intOf x8).toNat)
 case atStart => exact .inl ⟨rfl, rfl⟩
 case round =>
  rcases hrel with ⟨rfl, rfl⟩ | ⟨rfl, hx, rfl⟩ | ⟨rfl, hx, hy, rfl⟩
  ·apply uN;intro _ _;refine oG (.bool true) rfl (ex_lss rfl rfl rfl (by decide)) ?_;intro _ _;apply uN;intro _ _ _ _;refine oG (vP b) rfl (ex_index rfl rfl rfl (run_idx1 (off := 0) (k := 0) Tryz.underlying23 s11es23 (by omega))) ?_;refine oL _ rfl (run_load1 s2na3 (hv.load 0 0 rfl rfl)) ?_;intro _ _;refine uB (fun hb11 => ?_) fun hb11 => ?_
   ·intro _ _;apply uN;refine bR rfl rfl (⟨congrArg (fun n => Ending.returned (vI n)) (if_pos hb11).symm, rfl⟩)
   refine oG (vI 1) rfl (ex_add rfl rfl rfl (i64_in (by omega))) ?_;refine then_normal ?_
   go_roundw
   case rel => exact .inr (.inl ⟨rfl, Classical.not_not.1 hb11, rfl⟩)
   case measure => decide
  ·apply uN;intro _ _;refine oG (.bool true) rfl (ex_lss rfl rfl rfl (by decide)) ?_;intro _ _;apply uN;intro _ _ _ _;refine oG (.pointer (some ⟨b, 1, none⟩)) rfl (ex_index rfl rfl rfl (run_idx1 (off := 0) (k := 1) Tryz.underlying23 s11es23 (by omega))) ?_;refine oL _ rfl (run_load1 s2na3 (hv.load 0 1 rfl rfl)) ?_;intro _ _;refine uB (fun hb18 => ?_) fun hb18 => ?_
   ·intro _ _;apply uN;refine bR rfl rfl (⟨congrArg (fun n => Ending.returned (vI n)) (if_neg (fun h9 => h9 hx)).symm, rfl⟩)
   refine oG (vI 2) rfl (ex_add rfl rfl rfl (i64_in (by omega))) ?_;refine then_normal ?_
   go_roundw
   case rel => exact .inr (.inr ⟨rfl, hx, Classical.not_not.1 hb18, rfl⟩)
   case measure => decide
  apply uN;intro _ _;refine oG (.bool false) rfl (ex_lss rfl rfl rfl (by decide)) ?_;intro _ _ _ _;apply uN;refine bR rfl rfl ?_;exact ⟨congrArg (fun n => Ending.returned (vI n)) ((if_neg (fun h9 => h9 hx)).trans hy).symm, rfl⟩
theorem zcmpG (B : Base) (H : List Res) (w : World) (x y : Int × List UInt8) (hv : Inv B H w) :
  Calls Tryz.prog 111 #[.agg #[vI x.1, vS x.2], .agg #[vI y.1, vS y.2]] w fun e w' => e = .returned (vI (cmpM x y)) ∧ GrowR w w' := by
 refine cW Tryz.func111 rfl Tryz.ntmps111 ?_;simp only [al];apply uN;intro _ _;refine sl_boxG (L := [vI x.1, vS x.2]) tV (wn rfl) rfl (p := .agg #[vI x.1, vS x.2]) rfl hv (fun w => by kernel_rfl) (fun b2 w3 hv hq1 => ?_);refine sl_boxG (L := [vI y.1, vS y.2]) tV (wn rfl) rfl (p := .agg #[vI y.1, vS y.2]) rfl hv (fun w => by kernel_rfl) (fun b4 w5 hv hq2 => ?_);apply uN;intro _ _;refine rWG mixed [4, 9, 10, 11] [0,1,2,3,5,6,7,8,4,9,10,11,12] 17 rfl (by kernel_rfl) hv ?_;simp only [qm, opAt];refine dG (vP b2) rfl (ex_field rfl rfl (s11fa123_0 _ _ _)) ?_;refine dL (vI x.1) rfl (fun ⟨hv, _⟩ => ex_load rfl rfl (run_load1 s2na3 (hv.load 1 0 rfl rfl))) ?_;refine dG (vP b4) rfl (ex_field rfl rfl (s11fa123_0 _ _ _)) ?_;simp only [zP, po];refine dL (vI y.1) rfl (fun ⟨hv, _⟩ => ex_load rfl rfl (run_load1 s2na3 (hv.load 0 0 rfl rfl))) ?_;refine dG (.pointer (some ⟨b2, 1, none⟩)) rfl (ex_field rfl rfl (s9fa123_1 _ _ _)) ?_;refine dF (vS x.2) rfl (fun ⟨hv, _⟩ => ex_load rfl rfl (run_load1 s9na9 (hv.load 1 1 rfl rfl))) fun f7 hf7 => ?_
 simp only [zP, po];refine dG (.pointer (some ⟨b4, 1, none⟩)) rfl (ex_field rfl rfl (s9fa123_1 _ _ _)) ?_;refine dF (vS y.2) rfl (fun ⟨hv, _⟩ => ex_load rfl rfl (run_load1 s9na9 (hv.load 0 1 rfl rfl))) fun f8 hf8 => ?_
 refine dS rfl fun w9 ⟨hv, hgw⟩ => mC s11callable136 rfl ((cmpIW _ _ _).mono ?_) rfl
 rintro e w10 ⟨rfl, rfl⟩;refine ⟨_, rfl, dVG hv hgw (fC (fun ww ⟨hv, _⟩ => hf8 ww (ex_load rfl rfl (run_load1 s9na9 (hv.load 0 1 rfl rfl)))) (fC (fun ww ⟨hv, _⟩ => hf7 ww (ex_load rfl rfl (run_load1 s9na9 (hv.load 1 1 rfl rfl)))) fN)) ?_⟩;simp only [zP, po];refine dS rfl fun w11 ⟨hv, hgw⟩ => mC s11callable137 rfl ((cmpSW _ _ _).mono ?_) rfl
 rintro e w12 ⟨rfl, rfl⟩;refine ⟨_, rfl, dVG hv hgw (fK rfl (fK rfl fN)) ?_⟩;refine dS rfl fun w13 ⟨hv, hgw⟩ => mem_row2E (v1 := vI (cmpI x.1 y.1)) (v2 := vI (cmpS x.2 y.2)) (e := 3) rfl rfl rfl rfl hv (fun w => by kernel_rfl) (fun b14 w15 hv hg2 => ?_)
 replace hgw := hgw.trans hg2;refine dVG hv hgw (fK rfl (fK rfl fN)) (dS rfl fun w16 ⟨hv, hgw⟩ => ?_);refine mC s11callable135 rfl ((cmpOrTwo B _ _ _ (cmpI x.1 y.1) (cmpS x.2 y.2) hv).mono ?_) rfl;rintro e w17 ⟨rfl, rfl⟩;refine ⟨_, rfl, dVG hv hgw (fK rfl (fK rfl fN)) ?_⟩;apply uN;refine dE fun w18 ⟨hv, hgw⟩ => ?_
 apply uN;refine bR rfl rfl (⟨rfl, (hq1.trans hq2).trans hgw⟩)
open Go.Sort Go.Shelf
abbrev memT : TypeId := 123
def encZ (m : Int × List UInt8) : List Value := [vI m.1, strV m.2]
theorem flat_mem (l : Zs) : (flatK encZ 2 l.toArray).toList = memCells l := by
 apply List.ext_getElem?;intro t;by_cases ht : t < l.length * 2
 ·have hd : t / 2 < l.length := by omega
  have h1 := two_get encZ (fun _ => rfl) (List.getElem?_eq_getElem hd) (t % 2) (Nat.mod_lt _ (by decide));rw [show t / 2 * 2 + t % 2 = t by omega] at h1;have h2 : (memCells l)[t]? = (encZ l[t / 2])[t % 2]? := h1;rw [h2, Array.getElem?_toList, flatK, Array.getElem?_map, Array.getElem?_range, if_pos (by simpa using ht)];simp only [Option.map_some];rw [getElem!_pos l.toArray _ (by simpa using hd), List.getElem_toArray];have h3 : t % 2 < (encZ l[t / 2]).length := Nat.mod_lt _ (by decide);rw [List.getElem?_eq_getElem h3];exact congrArg some (getElem!_pos (encZ l[t / 2]) (t % 2) h3)
 rw [List.getElem?_eq_none (by rw [Array.length_toList, size_flatK]; simpa using ht), List.getElem?_eq_none (by rw [memCells_len]; omega)]
theorem sortMem (B : Base) (H : List Res) (w : World) (v : Value) (l : Zs) (hm : l.length ≤ 10000000) (hv : Pm.Inv B (Res.row memT 2 v l.length (memCells l) :: H) w) :
  Calls Tryz.prog 110 #[v, .func (.func 111) #[] #[]] w fun e w' => e = .returned (.tuple #[]) ∧ Pm.Inv B (Res.row memT 2 v l.length (memCells (sortZ l)) :: H) w' := by
 rcases (hv.head : w.ownsRow 0 memT 2 v l.length _).2 with ⟨rfl, hz⟩ | ⟨gb, cap, cur, rfl, h0, hgb, r1, r2, r3, r4⟩
 ·have hl : l = [] := List.eq_nil_of_length_eq_zero hz;subst hl;refine (AnyF.slices_SortFunc_none { Tryz.laysSFZ with } none 0 _ w).mono ?_;rintro e w' ⟨rfl, rfl⟩;have hs : sortZ [] = [] := List.eq_nil_of_length_eq_zero (by rw [(sortZ_perm []).length_eq]; rfl);exact ⟨rfl, by rw [hs]; exact hv⟩
 letI : Inhabited (Int × List UInt8) := ⟨(0, [])⟩
 have hs : (flatK encZ 2 l.toArray).size = l.length * 2 := by simp
 have hH : HoldsK encZ 2 w gb 0 l.toArray := holds_of_blockV hgb (by rw [hs, flat_mem]; exact r4);have hup : ∀ (m : Nat) (os : Array Obj) (dk : Zs), dk.length = l.length → Pm.Inv B (Res.row memT 2 (.slice (some ⟨gb, 0, none⟩) l.length cap) l.length (memCells dk) :: H) (sortWorldK encZ 2 w gb 0 m dk.toArray os) := by
  intro m os dk hk;unfold sortWorldK putRowK;have hgr := grownBy_sortedV (w := w) (g := gb) (n := m) (os := os) (flatK encZ 2 dk.toArray);have hr := ownsRow_sortedV (n := m) (os := os) (F := flatK encZ 2 dk.toArray) (by simp [hk]) h0 hgb r1 r2 r3;rw [flat_mem] at hr;exact hv.upd _ ⟨hgr.os, hgr.tape, hgr.output, hgr.size, fun k hk hn => hgr.block k hk (fun e => hn (by cases e; simp [Value.ownBlock]))⟩ hr (fun b hb => .inl hb) (fun b hb => Nat.lt_of_lt_of_le (hv.headLt b hb) hgr.size) (by simp [Value.ownBlock])
 have hcmp : CmpLays Tryz.prog 111 #[] encZ 2 cfZ gb 0 l.toArray.size w := fun m os dk hk x y => by
  obtain ⟨dl, rfl⟩ : ∃ dl : Zs, dk = dl.toArray := ⟨dk.toList, rfl⟩;exact zcmpG B H _ x y (hup m os dl (by simpa using hk)).drop
 have hc := AnyQ.slices_SortFunc_total Tryz.laysSFZ 2 (fun w => by kernel_rfl) (fun w => by kernel_rfl) encZ (fun _ => rfl) (fun x v hv => by simp only [encZ, List.mem_cons, List.not_mem_nil, or_false] at hv; rcases hv with rfl | rfl <;> rfl) cfZ swoZ 111 #[] gb 0 cap l.toArray w (enters_of Tryz.func111 (by kernel_rfl) rfl) hcmp hH (Array.getElem?_eq_some_iff.1 hgb).1 (by simp; omega) (fun x y => totZ);refine hc.mono ?_;rintro e w' ⟨rfl, m, os, rfl⟩;exact ⟨rfl, hup m os (sortZ l) (sortZ_perm l).length_eq⟩
end Go.Proofs.YtgbhdfpobgefgaaGreatDoor
namespace Go.Pm
open Go.RowKit
section
variable {kept mid l : List (List UInt8)} {j : Nat} {x g : List UInt8} {p : List UInt8 → Bool}
theorem textCells_app (a b : List (List UInt8)) : textCells (a ++ b) = textCells a ++ textCells b := by simp [textCells]
theorem textCells_get (h : l[j]? = some x) : (textCells l)[j]? = some (strV x) := by rw [textCells, List.getElem?_map, h]; rfl
theorem textCells_set (l : List (List UInt8)) (i : Nat) (x : List UInt8) : (textCells l).set i (strV x) = textCells (l.set i x) := by simp [textCells, List.map_set]
theorem textCells_n (l : List (List UInt8)) : (textCells l).length = l.length := by simp [textCells]
theorem df_get (h : l[j]? = some x) (hl : kept.length + mid.length = j) : (textCells (kept ++ mid ++ l.drop j))[j]? = some (strV x) := by
 refine textCells_get ?_;rw [List.getElem?_append_right (by rw [List.length_append]; omega), List.length_append, hl, Nat.sub_self, List.getElem?_drop];exact h
theorem df_drop (h : l[j]? = some x) : l.drop j = x :: l.drop (j + 1) := by
 obtain ⟨hj, rfl⟩ := List.getElem?_eq_some_iff.1 h;exact List.drop_eq_getElem_cons hj
theorem df_set (h : l[j]? = some x) : (textCells (kept ++ (g :: mid) ++ l.drop j)).set kept.length (strV x) = textCells (kept ++ [x] ++ (mid ++ [x]) ++ l.drop (j + 1)) := by
 rw [textCells_set, df_drop h, List.append_assoc, List.set_append_right _ _ (Nat.le_refl _), Nat.sub_self]
 simp
theorem df_skip (h : l[j]? = some x) : kept ++ mid ++ l.drop j = kept ++ (mid ++ [x]) ++ l.drop (j + 1) := by
 rw [df_drop h]; simp
theorem df_filter (h : l[j]? = some x) : (l.take (j + 1)).filter p = (l.take j).filter p ++ if p x then [x] else [] := by
 rw [take_next h, List.filter_append];cases hp : p x <;> simp [hp]
theorem df_start (h : l[j]? = some x) (hx : p x = true) (hn : ∀ y ∈ l.take j, p y = false) : (l.take (j + 1)).filter (fun y => !p y) = l.take j ∧ l = l.take j ++ [x] ++ l.drop (j + 1) := by
 constructor
 ·rw [df_filter h, hx, List.filter_eq_self.2 (fun y hy => by rw [hn y hy]; rfl)]
  simp
 conv => lhs; rw [← List.take_append_drop j l, df_drop h]
 simp
end
structure KeyR where
 name : List UInt8
 val : Val
 exp : Int
inductive Rp where
 | mk (kind : Int) (s : List UInt8) (n : Int) (l : List Rp)
def Rp.kind : Rp → Int
 | .mk k _ _ _ => k
abbrev rpCells (k : Int) (s : List UInt8) (n : Int) (v : Value) : List Value := [.int .i64 k, strV s, .int .i64 n, v]
mutual
def RpAt (B : Base) : Rp → List Value → Prop
 | .mk k s n l, cs => ∃ v xs, cs = rpCells k s n v ∧ RowB B v l.length xs ∧ RpsAt B l xs
def RpsAt (B : Base) : List Rp → List Value → Prop
 | [], xs => xs = []
 | r :: l, xs => ∃ cs ys, xs = cs ++ ys ∧ RpAt B r cs ∧ RpsAt B l ys
end
mutual
theorem RpAt.more {B C : Base} (hB : B.Le C) : ∀ {r : Rp} {cs : List Value}, RpAt B r cs → RpAt C r cs
 | .mk _ _ _ _, _, h => by
  simp only [RpAt] at h ⊢;obtain ⟨v, xs, h1, h2, h3⟩ := h;exact ⟨v, xs, h1, h2.more hB, RpsAt.more hB h3⟩
theorem RpsAt.more {B C : Base} (hB : B.Le C) : ∀ {l : List Rp} {xs : List Value}, RpsAt B l xs → RpsAt C l xs
 | [], _, h => by simp only [RpsAt] at h ⊢; exact h
 | _ :: _, _, h => by
  simp only [RpsAt] at h ⊢;obtain ⟨cs, ys, h1, h2, h3⟩ := h;exact ⟨cs, ys, h1, RpAt.more hB h2, RpsAt.more hB h3⟩
end
theorem RpAt.len {B : Base} {r : Rp} {cs : List Value} (h : RpAt B r cs) : cs.length = 4 := by
 cases r; simp only [RpAt] at h;obtain ⟨v, xs, rfl, -⟩ := h; rfl
theorem RpsAt.nil {B : Base} : RpsAt B [] [] := by simp only [RpsAt]
theorem RpsAt.cons {B : Base} {r : Rp} {l : List Rp} {cs ys : List Value} (h1 : RpAt B r cs) (h2 : RpsAt B l ys) : RpsAt B (r :: l) (cs ++ ys) := by
 simp only [RpsAt]; exact ⟨cs, ys, rfl, h1, h2⟩
theorem RpsAt.uncons {B : Base} {r : Rp} {l : List Rp} {xs : List Value} (h : RpsAt B (r :: l) xs) : ∃ cs ys, xs = cs ++ ys ∧ RpAt B r cs ∧ RpsAt B l ys := by
 simp only [RpsAt] at h; exact h
theorem RpsAt.append {B : Base} {k : List Rp} {ys : List Value} (hk : RpsAt B k ys) : ∀ {l : List Rp} {xs : List Value}, RpsAt B l xs → RpsAt B (l ++ k) (xs ++ ys)
 | [], xs, h => by
  simp only [RpsAt] at h; subst h; exact hk
 | r :: l, xs, h => by
  obtain ⟨cs, zs, rfl, h1, h2⟩ := h.uncons;rw [List.append_assoc];exact RpsAt.cons h1 (RpsAt.append hk h2)
theorem RpsAt.single {B : Base} {r : Rp} {cs : List Value} (h : RpAt B r cs) : RpsAt B [r] cs := by
 have := RpsAt.cons h (RpsAt.nil (B := B))
 rwa [List.append_nil] at this
theorem RpsAt.len {B : Base} : ∀ {l : List Rp} {xs : List Value}, RpsAt B l xs → xs.length = l.length * 4
 | [], xs, h => by simp only [RpsAt] at h; subst h; rfl
 | r :: l, xs, h => by
  obtain ⟨cs, zs, rfl, h1, h2⟩ := h.uncons;rw [List.length_append, RpsAt.len h2, h1.len, List.length_cons]; omega
theorem RpsAt.get {B : Base} : ∀ {l : List Rp} {xs : List Value}, RpsAt B l xs → ∀ i (hi : i < l.length), ∃ cs, RpAt B l[i] cs ∧ ∀ j, j < 4 → cs[j]? = (xs.drop (i * 4))[j]?
 | [], _, _, i, hi => by simp at hi
 | r :: l, xs, h, i, hi => by
  obtain ⟨cs, zs, rfl, h1, h2⟩ := h.uncons;cases i with
  | zero => exact ⟨cs, h1, fun j hj => by rw [Nat.zero_mul, List.drop_zero, List.getElem?_append_left (by rw [h1.len]; exact hj)]⟩
  | succ i =>
   obtain ⟨cs', e1, e2⟩ := RpsAt.get h2 i (by simpa using hi);refine ⟨cs', e1, fun j hj => (e2 j hj).trans ?_⟩;rw [show (i + 1) * 4 = cs.length + i * 4 by rw [h1.len, Nat.succ_mul]; omega, ← List.drop_drop, List.drop_left]
theorem RpsAt.reads {B : Base} {l : List Rp} {xs : List Value} {ad : Option Addr} {i : Nat} {k : Int} {s : List UInt8} {n : Int} {q : List Rp} (h : RpsAt B l xs) (hr : RdV B [] ad xs) (hx : l[i]? = some (.mk k s n q)) :
  ∃ b off v ys, ad = some ⟨b, off, none⟩ ∧ RowB B v q.length ys ∧ RpsAt B q ys ∧ Reads B [] b (off + i * 4) (rpCells k s n v) := by
 obtain ⟨hi, hx⟩ := List.getElem?_eq_some_iff.1 hx;obtain ⟨cs, h1, h2⟩ := h.get i hi;rw [hx] at h1;simp only [RpAt] at h1;obtain ⟨v, ys, rfl, h3, h4⟩ := h1;have hl := h.len;have hle : i * 4 + 4 ≤ xs.length := by rw [hl]; have := Nat.mul_le_mul_right 4 (show i + 1 ≤ l.length by omega); rw [Nat.succ_mul] at this; exact this
 obtain ⟨b, off, h5, h6⟩ := rdW_reads (cs := rpCells k s n v) (k := i * 4) (m := 4) (hr.rdW []) hle (by decide) rfl (fun j hj => by
  rw [h2 j hj, List.getElem?_drop])
 exact ⟨b, off, v, ys, h5, h3, h4, h6⟩
def rInt (n : Int) : Rp := .mk 2 [] n []
def rStr (s : List UInt8) : Rp := .mk 3 s 0 []
def rNone : Rp := .mk 4 [] 0 []
def rText (s : List UInt8) : Rp := .mk 0 s 0 []
def rFault (s : List UInt8) : Rp := .mk 1 s 0 []
def rList (l : List Rp) : Rp := .mk 5 [] 0 l
def rStrs (l : List (List UInt8)) : Rp := rList (l.map rStr)
theorem RpAt.lv {B : Base} {r : Rp} {k : Int} {s : List UInt8} {n : Int} {v : Value} (h : RpAt B r (rpCells k s n v)) : v.cells = #[v] ∧ v.oneCell' = true := by
 cases r; simp only [RpAt] at h;obtain ⟨v2, xs, h1, h2, -⟩ := h;simp only [List.cons.injEq, and_true] at h1;obtain ⟨-, -, -, rfl⟩ := h1;exact ⟨h2.cells, h2.one⟩
theorem rpAt_leaf {B : Base} {k : Int} {s : List UInt8} {n : Int} : RpAt B (.mk k s n []) (rpCells k s n (.slice none 0 0)) := by
 simp only [RpAt];exact ⟨_, [], rfl, ⟨none, 0, rfl, ⟨Nat.le_refl _, Nat.zero_le _, fun _ => rfl⟩, rdV_nil⟩, RpsAt.nil⟩
theorem rpAt_of {B : Base} {k : Int} {s : List UInt8} {n : Int} {l : List Rp} {v : Value} {xs : List Value} (h1 : RowB B v l.length xs) (h2 : RpsAt B l xs) : RpAt B (.mk k s n l) (rpCells k s n v) := by
 simp only [RpAt]; exact ⟨v, xs, rfl, h1, h2⟩
def strsCells (l : List (List UInt8)) : List Value := l.flatMap fun s => rpCells 3 s 0 (.slice none 0 0)
theorem strsCells_at {B : Base} : ∀ (l : List (List UInt8)), RpsAt B (l.map rStr) (strsCells l)
 | [] => RpsAt.nil
 | s :: l => RpsAt.cons (rpAt_leaf (k := 3) (s := s) (n := 0)) (strsCells_at l)
theorem strsCells_next {l : List (List UInt8)} {i : Nat} {x : List UInt8} (h : l[i]? = some x) : strsCells (l.take (i + 1)) = strsCells (l.take i) ++ rpCells 3 x 0 (.slice none 0 0) := by
 rw [take_next h]; unfold strsCells; rw [List.flatMap_append]; rfl
section
variable {α : Type} {f : α → List Value} {k : Nat}
theorem rowk_len (hk : ∀ x, (f x).length = k) (l : List α) : (l.flatMap f).length = l.length * k := by
 induction l with
 | nil => simp
 | cons a l ih => rw [List.flatMap_cons, List.length_append, ih, hk, List.length_cons, Nat.succ_mul]; omega
theorem rowk_get (hk : ∀ x, (f x).length = k) {l : List α} {i j : Nat} {x : α} (hx : l[i]? = some x) (hj : j < k) : (l.flatMap f)[i * k + j]? = (f x)[j]? := by
 have hi := (List.getElem?_eq_some_iff.1 hx).1;have h : l = l.take i ++ x :: l.drop (i + 1) := by
  have h9 := (List.take_append_drop i l).symm;rw [List.drop_eq_getElem_cons hi, (List.getElem?_eq_some_iff.1 hx).2] at h9;exact h9
 rw [h, List.flatMap_append, List.flatMap_cons, List.getElem?_append_right (by rw [rowk_len hk, List.length_take, Nat.min_eq_left (by omega)]; omega),
  rowk_len hk, List.length_take, Nat.min_eq_left (by omega), Nat.add_sub_cancel_left, List.getElem?_append_left (by rw [hk]; exact hj)]
theorem rowk_reads (hk : ∀ x, (f x).length = k) (h0 : 0 < k) {B : Base} {l : List α} {ad : Option Addr} {i : Nat} {x : α} (hr : RdV B [] ad (l.flatMap f)) (hx : l[i]? = some x) : ∃ b off, ad = some ⟨b, off, none⟩ ∧ Reads B [] b (off + i * k) (f x) := by
 have hi := (List.getElem?_eq_some_iff.1 hx).1;have hle : i * k + k ≤ l.length * k := by have := Nat.mul_le_mul_right k (show i + 1 ≤ l.length by omega); rw [Nat.succ_mul] at this; exact this
 exact rdW_reads (k := i * k) (m := k) (hr.rdW []) (by rw [rowk_len hk]; exact hle) h0 (hk x) (fun j hj => (rowk_get hk hx hj).symm)
end
structure Leaf where
 k : Int
 s : List UInt8
 n : Int
abbrev nilS : Value := .slice none 0 0
abbrev leafC (x : Leaf) (v : Value) : List Value := rpCells x.k x.s x.n v
def leafR (x : Leaf) : Rp := .mk x.k x.s x.n []
abbrev leafN (x : Leaf) : List Value := leafC x nilS
def lvC (pre : List Leaf) : Option (Leaf × Value) → List Value
 | none => pre.flatMap leafN
 | some (x, v) => pre.flatMap leafN ++ leafC x v
theorem leafs_len (l : List Leaf) : (l.flatMap leafN).length = l.length * 4 := rowk_len (k := 4) (fun _ => rfl) l
theorem lvC_len0 (l : List Leaf) : (lvC l none).length = l.length * 4 := leafs_len l
theorem lvC_len1 (l : List Leaf) (x : Leaf) (v : Value) : (lvC l (some (x, v))).length = (l.length + 1) * 4 := by
 show (l.flatMap leafN ++ leafC x v).length = _;rw [List.length_append, leafs_len, Nat.succ_mul]; rfl
theorem lvC_pre {l : List Leaf} {o : Option (Leaf × Value)} {i j : Nat} {x : Leaf} (hx : l[i]? = some x) (hj : j < 4) : (lvC l o)[i * 4 + j]? = (leafN x)[j]? := by
 have h := rowk_get (f := leafN) (k := 4) (fun _ => rfl) hx hj;cases o with
 | none => exact h
 | some p =>
  show (l.flatMap leafN ++ _)[_]? = _;have hi := (List.getElem?_eq_some_iff.1 hx).1;have := Nat.mul_le_mul_right 4 (show i + 1 ≤ l.length by omega);rw [Nat.succ_mul] at this;rw [List.getElem?_append_left (by rw [leafs_len]; omega)];exact h
theorem lvC_last {l : List Leaf} {x : Leaf} {v : Value} {j : Nat} : (lvC l (some (x, v)))[l.length * 4 + j]? = (leafC x v)[j]? := by
 show (l.flatMap leafN ++ _)[_]? = _;rw [List.getElem?_append_right (by rw [leafs_len]; omega), leafs_len, Nat.add_sub_cancel_left]
theorem lvSet_same {α : Type} {l : List α} {i : Nat} {v : α} (h : l[i]? = some v) : l.set i v = l := by
 refine List.ext_getElem? fun j => ?_
 rw [List.getElem?_set]
 split
 ·rename_i e; subst e
  have := (List.getElem?_eq_some_iff.1 h).1;rw [if_pos this, h]
 rfl
theorem lvC_set {l : List Leaf} {o : Option (Leaf × Value)} {i : Nat} {x : Leaf} (hx : l[i]? = some x) : (lvC l o).set (i * 4 + 3) nilS = lvC l o := lvSet_same (by rw [lvC_pre hx (by decide)]; rfl)
theorem lvC_setl {l : List Leaf} {x : Leaf} {v u : Value} : (lvC l (some (x, v))).set (l.length * 4 + 3) u = lvC l (some (x, u)) := by
 show (l.flatMap leafN ++ _).set _ _ = l.flatMap leafN ++ _;rw [List.set_append_right _ _ (by rw [leafs_len]; omega), leafs_len, Nat.add_sub_cancel_left]; rfl
theorem lvC_one {l : List Leaf} {o : Option (Leaf × Value)} (ho : ∀ p, o = some p → p.2.oneCell' = true) : ∀ u ∈ lvC l o, u.oneCell' = true := by
 have h0 : ∀ u ∈ l.flatMap leafN, u.oneCell' = true := by
  intro u hu;obtain ⟨x, -, hu⟩ := List.mem_flatMap.1 hu;simp only [List.mem_cons, List.not_mem_nil, or_false] at hu;rcases hu with rfl | rfl | rfl | rfl <;> rfl
 cases o with
 | none => exact h0
 | some p =>
  intro u hu;rcases List.mem_append.1 (show u ∈ l.flatMap leafN ++ leafC p.1 p.2 from hu) with hu | hu
  ·exact h0 u hu
  simp only [List.mem_cons, List.not_mem_nil, or_false] at hu;rcases hu with rfl | rfl | rfl | rfl
  ·rfl
  ·rfl
  ·rfl
  exact ho p rfl
theorem lvC_at0 {B : Base} : ∀ (l : List Leaf), RpsAt B (l.map leafR) (l.flatMap leafN)
 | [] => RpsAt.nil
 | x :: l => RpsAt.cons (rpAt_leaf (k := x.k) (s := x.s) (n := x.n)) (lvC_at0 l)
theorem lvC_at1 {B : Base} {pre l : List Leaf} {x : Leaf} {v : Value} (h : RowB B v l.length (l.flatMap leafN)) : RpsAt B (pre.map leafR ++ [.mk x.k x.s x.n (l.map leafR)]) (lvC pre (some (x, v))) :=
 RpsAt.append (RpsAt.single (rpAt_of (l := l.map leafR) (by rw [List.length_map]; exact h) (lvC_at0 l))) (lvC_at0 pre)
theorem row_loads {w : World} {e : TypeId} {size n c b k off : Nat} {xs cs : List Value} (h : w.ownsRow 0 e size (.slice (some ⟨b, 0, none⟩) n c) n xs) (ho : off = k) (hcs : ∀ j, j < cs.length → cs[j]? = xs[k + j]?) : ∀ j v, cs[j]? = some v → w.cell? ⟨b, off + j, none⟩ = some v := by
 subst ho;intro j v hj;have := row_load h (j := off + j) (v := v) (by rw [← hcs j (List.getElem?_eq_some_iff.1 hj).1, hj]);rw [Nat.zero_add] at this;exact this
theorem Inv.rowLess {B : Base} {n m c size b : Nat} {e : TypeId} {xs : List Value} {H : List Res} {w : World} (hv : Inv B (Res.row e size (.slice (some ⟨b, 0, none⟩) n c) n xs :: H) w) (hm : m ≤ n) : Inv B (Res.row e size (.slice (some ⟨b, 0, none⟩) m c) m (xs.take (m * size)) :: H) w := by
 obtain ⟨L, h1, h2, h3, h4, hc⟩ := hv.rowCell;have h9 := hc.cellRow (n := m) (c := c) (size := size) h1 (by omega) h4;have hle : m * size ≤ n * size := Nat.mul_le_mul_right _ hm;rw [← h2, List.take_take, Nat.min_eq_left hle];exact h9
def ListIn (B : Base) (m : Nat) (xs : List Value) (r : Rp) : Prop :=
 (∃ ls : List Leaf, m = ls.length ∧ xs = lvC ls none ∧ r = rList (ls.map leafR)) ∨
 (∃ (pre l : List Leaf) (x : Leaf) (la : Option Addr) (lc : Nat), m = pre.length + 1 ∧ xs = lvC pre (some (x, .slice la l.length lc)) ∧ SliceOk la l.length lc ∧ RdV B [] la (lvC l none) ∧ l.length ≤ 1000000 ∧ r = rList (pre.map leafR ++ [.mk x.k x.s x.n (l.map leafR)]))
theorem ListIn.len {B : Base} {m : Nat} {xs : List Value} {r : Rp} (h : ListIn B m xs r) : xs.length = m * 4 := by
 rcases h with ⟨ls, rfl, rfl, -⟩ | ⟨pre, l, x, la, lc, rfl, rfl, -⟩
 ·exact lvC_len0 ls
 exact lvC_len1 pre x _
theorem ListIn.one {B : Base} {m : Nat} {xs : List Value} {r : Rp} (h : ListIn B m xs r) : ∀ u ∈ xs, u.oneCell' = true := by
 rcases h with ⟨ls, rfl, rfl, -⟩ | ⟨pre, l, x, la, lc, rfl, rfl, -⟩
 ·exact lvC_one fun p h => by cases h
 exact lvC_one fun p h => by cases h; rfl
theorem rlist_at {B : Base} {l : List Rp} {v : Value} {xs : List Value} (h1 : RowB B v l.length xs) (h2 : RpsAt B l xs) : RpAt B (rList l) (rpCells 5 [] 0 v) := rpAt_of h1 h2
end Go.Pm
namespace Go.Proofs.YtgbhdfpobgefgaaGreatDoor
open Go.RowKit Go.Pm
theorem indexMemX (B : Base) (H : List Res) (w : World) (f : FuncId) (cb : Array Value) (ad : Option Addr) (c : Nat) (l : Zs) (pr : Int × List UInt8 → Bool) (hr : RdV B [] ad (memCells l)) (hm : l.length ≤ 1000000) (hcal : Callable Tryz.prog f) (hf : ∀ (x : Int × List UInt8) (w : World), Inv B H w → Calls Tryz.prog f (#[.agg #[vI x.1, vS x.2]] ++ cb) w fun e w' => e = .returned (.bool (pr x)) ∧ Inv B H w') (hv : Inv B H w) :
  Calls Tryz.prog 130 #[.slice ad l.length c, .func (.func f) #[] cb] w fun e w' => ∃ r : Int, e = .returned (vI r) ∧ ((r = -1 ∧ ∀ y ∈ l, pr y = false) ∨ ∃ (i : Nat) (x : Int × List UInt8), r = (i : Int) ∧ l[i]? = some x ∧ pr x = true ∧ ∀ y ∈ l.take i, pr y = false) ∧ Inv B H w' := by
 refine cW Tryz.func130 rfl Tryz.ntmps130 ?_;simp only [al];apply uN;intro _ _;apply uN;intro _ _ _ _;refine oG (vI (l.length : Int)) rfl (ex_len0 Tryz.underlying82 rfl rfl) ?_
 gi_loopw [8] (fun x8 wr => ∃ (i : Nat), x8 = vI i ∧ i ≤ l.length ∧ (∀ j x, j < i → l[j]? = some x → pr x = false) ∧ Inv B (H) wr) (fun x8 _ => l.length - (intOf x8).toNat)
 case atStart => exact ⟨0, rfl, Nat.zero_le _, fun j x h => by omega, hv⟩
 case round =>
  obtain ⟨i, rfl, hi, hno, hv⟩ := hrel;apply uN;intro _ _;refine uB (fun hb6 => ?_) fun hb6 => ?_
  ·intro _ _;apply uN;intro _ _ _ _;apply uN;intro _ _;obtain ⟨x, hx⟩ : ∃ x, l[i]? = some x := ⟨_, List.getElem?_eq_getElem (show i < l.length by omega)⟩;obtain ⟨bb, bo, had, hrdx⟩ := mem_reads hr hx;subst had;apply uN;refine oG (.pointer (some ⟨bb, bo + i * 2, none⟩)) rfl (ex_index rfl rfl rfl (run_idx (k := i) Tryz.underlying82 s9es82 (by omega))) ?_;refine oL (.agg #[vI x.1, vS x.2]) rfl (run_loadR (cs := [vI x.1, vS x.2]) s9wd123 (Reads.mid (pre := []) (mid := [vI x.1, vS x.2]) (post := []) hrdx _ _ _ (Base.Le.refl _) no_res hv)) ?_;refine wpi_callV hcal tV wideC rfl (wn rfl) rfl rfl (args := #[.agg #[vI x.1, vS x.2]]) (by simp only [List.map_toArray, List.map_cons, List.map_nil]; rfl) ((hf x _ hv).mono ?_);rintro e w11 ⟨rfl, hv⟩;apply eR;refine wpIn_cond_split (t := pr x) rfl (fun hc12 => ?_) (fun hc12 => ?_)
   ·apply uN;intro _ _;apply uN;refine bR rfl rfl (⟨_, rfl, .inr ⟨i, x, rfl, hx, by simpa using hc12, fun y hy => (by obtain ⟨j, hj⟩ := List.mem_iff_getElem?.1 hy; have h9 := (List.getElem?_eq_some_iff.1 hj).1; rw [List.length_take] at h9; rw [List.getElem?_take_of_lt (by omega)] at hj; exact hno j y (by omega) hj)⟩, hv⟩)
   apply uN;refine oG (vI ((i + 1 : Nat) : Int)) rfl (ex_add rfl rfl rfl (by rw [i64_in (by omega)]; omega)) ?_;refine then_normal ?_
   go_roundw
   case rel => exact ⟨i + 1, rfl, by omega, fun j x' hj hx' => (by
      rcases Nat.lt_or_ge j i with h | h
      ·exact hno j x' h hx'
      obtain rfl : j = i := by omega
      rw [hx] at hx'; cases hx'
      simpa using hc12), hv⟩
   case measure => show l.length - (((i + 1 : Nat) : Int)).toNat < l.length - ((i : Int)).toNat; omega
  intro _ _ _ _;apply uN;refine bR rfl rfl ?_;obtain rfl : i = l.length := by omega
  exact ⟨_, rfl, .inl ⟨rfl, fun y hy => (by obtain ⟨j, hj⟩ := List.mem_iff_getElem?.1 hy; exact hno j y (List.getElem?_eq_some_iff.1 hj).1 hj)⟩, hv⟩
theorem zRankF (B : Base) (H : List Res) (w : World) (kb : Nat) (k : List UInt8) (x : Int × List UInt8) (hv : Inv B (Res.cell kb [vS k] 9 :: H) w) :
  Calls Tryz.prog 131 #[.agg #[vI x.1, vS x.2], vP kb] w fun e w' => e = .returned (.bool (decide (x.2 = k))) ∧ Inv B (Res.cell kb [vS k] 9 :: H) w' := by
 refine cW Tryz.func131 rfl Tryz.ntmps131 ?_;simp only [al];apply uN;intro _ _;refine sl_box (L := [vI x.1, vS x.2]) tV (wn rfl) rfl rfl hv (fun w => by kernel_rfl) (fun b2 w3 hv => ?_);apply uN;intro _ _;refine oF (.pointer (some ⟨b2, 1, none⟩)) rfl (s9fa123_1 _ _ _) ?_;refine oL _ rfl (run_load1 s9na9 (hv.load 0 1 rfl rfl)) ?_;refine oL _ rfl (run_load1 s9na9 (hv.load 1 0 rfl rfl)) ?_;refine oG (.bool (decide (x.2 = k))) rfl (ex_seql rfl rfl rfl rfl) ?_;refine bR rfl rfl (⟨rfl, (hv.kp [1] 1 1)⟩)
theorem zc1callable131 : Callable Tryz.prog 131 := cb Tryz.func131 (by kernel_rfl)
theorem zsetRank (B : Base) (H : List Res) (w : World) (ad : Option Addr) (c : Nat) (l : Zs) (hr : RdV B [] ad (memCells l)) (hm : l.length ≤ 1000000) (k : List UInt8) (hv : Inv B H w) :
  Calls Tryz.prog 99 #[.slice ad l.length c, vS k] w fun e w' => ∃ (i : Nat) (ok : Bool), e = .returned (.tuple #[vI i, .bool ok]) ∧ RankR l k i ok ∧ Inv B H w' := by
 refine cW Tryz.func99 rfl Tryz.ntmps99 ?_;simp only [al];apply uN;intro _ _;refine sl_box (L := [vS k]) tV (wn rfl) rfl rfl hv (fun w => by kernel_rfl) (fun b2 w3 hv => ?_);apply uN;intro _ _;refine oG (.func (.func 131) #[] #[vP b2]) rfl (ex_makeFunc (c' := #[vP b2]) rfl (by simp only [List.map_toArray, List.map_nil]) (by simp only [List.map_toArray, List.map_cons, List.map_nil]; rfl)) ?_;refine xC s9callable130 rfl ((indexMemX B _ _ 131 #[vP b2] ad c l (fun m => decide (m.2 = k)) hr hm zc1callable131 (fun x w hv => zRankF B _ w b2 k x hv) hv).mono ?_) rfl;rintro e w5 ⟨r, rfl, hor, hv⟩;apply eR;rcases hor with ⟨rfl, hno⟩ | ⟨i, x, rfl, hx, hpx, hno⟩
 ·apply uN;intro _ _;refine oG (vI ((0 : Nat) : Int)) rfl (ex_max2 (m := (-1)) (n := 0) rfl rfl rfl (by decide)) ?_;refine oG (.bool false) rfl (ex_geq rfl rfl rfl (by decide)) ?_;refine bodyPost_ret (results_tmp2 rfl _ _ _) rfl ?_;exact ⟨0, false, by rfl, .inr ⟨rfl, rfl, fun y hy => (by simpa using hno y hy)⟩, (hv.kp [] 0 1)⟩
 apply uN;intro _ _;refine oG (vI i) rfl (ex_max2 (m := (i : Int)) (n := 0) rfl rfl rfl (by omega)) ?_;refine uT (by omega) ?_;refine bodyPost_ret (results_tmp2 rfl _ _ _) rfl ?_;exact ⟨i, true, by rfl, .inl ⟨rfl, ⟨x, hx, by simpa using hpx⟩, fun y hy => (by simpa using hno y hy)⟩, (hv.kp [] 0 1)⟩
theorem zc1callable99 : Callable Tryz.prog 99 := cb Tryz.func99 (by kernel_rfl)
theorem zsetScore (B : Base) (H : List Res) (w : World) (ad : Option Addr) (c : Nat) (l : Zs) (hr : RdV B [] ad (memCells l)) (hm : l.length ≤ 1000000) (k : List UInt8) (hv : Inv B H w) :
  Calls Tryz.prog 73 #[.slice ad l.length c, vS k] w fun e w' => e = .returned (.tuple #[vI ((scoreZ l k).getD 0), .bool (scoreZ l k).isSome]) ∧ Inv B H w' := by
 refine cW Tryz.func73 rfl Tryz.ntmps73 ?_;simp only [al];apply uN;intro _ _;apply uN;intro _ _;refine xC zc1callable99 rfl ((zsetRank B _ _ ad c l hr hm k hv).mono ?_) rfl;rintro e w3 ⟨i, ok, rfl, hrk, hv⟩;apply eR;intro _ _ _ _;refine oG (.bool (!ok)) rfl (ex_not rfl rfl rfl) ?_;refine wpIn_cond_split (t := !ok) rfl (fun hc6 => ?_) (fun hc6 => ?_)
 ·apply uN;intro _ _;apply uN;refine bodyPost_ret (results_tmp2 rfl _ _ _) rfl ?_;have hs : scoreZ l k = none := hrk.elim (fun h9 => by rw [h9.1] at hc6; simp at hc6) (fun h9 => score_none h9.2.2);exact ⟨by rw [hs]; rfl, hv⟩
 apply uN;intro _ _;obtain ⟨x, hx, hxk, hno⟩ : ∃ x, l[i]? = some x ∧ x.2 = k ∧ ∀ y ∈ l.take i, y.2 ≠ k := hrk.elim (fun h9 => by obtain ⟨-, ⟨x, h1, h2⟩, h3⟩ := h9; exact ⟨x, h1, h2, h3⟩) (fun h9 => by rw [h9.1] at hc6; simp at hc6);have hil : i < l.length := (List.getElem?_eq_some_iff.1 hx).1;obtain ⟨bb, bo, had, hrdx⟩ := mem_reads hr hx;subst had;apply uN;refine oG (.pointer (some ⟨bb, bo + i * 2, none⟩)) rfl (ex_index rfl rfl rfl (run_idx (k := i) Tryz.underlying82 s9es82 (by omega))) ?_;refine oF (.pointer (some ⟨bb, bo + i * 2, none⟩)) rfl (s11fa123_0 _ _ _) ?_;refine oL _ rfl (run_load1 s2na3 (hrdx _ _ _ (Base.Le.refl _) no_res hv 0 _ rfl)) ?_;refine bodyPost_ret (results_tmp2 rfl _ _ _) rfl ?_;have hs : scoreZ l k = some x.1 := score_rank hx hxk hno;exact ⟨by rw [hs]; rfl, hv⟩
section
variable {kept mid l : Zs} {j : Nat} {x g : Int × List UInt8} {p : Int × List UInt8 → Bool}
theorem dm_get (h : l[j]? = some x) (hl : kept.length + mid.length = j) : (kept ++ mid ++ l.drop j)[j]? = some x := by
 rw [List.getElem?_append_right (by rw [List.length_append]; omega), List.length_append, hl, Nat.sub_self, List.getElem?_drop];exact h
theorem dm_drop (h : l[j]? = some x) : l.drop j = x :: l.drop (j + 1) := by
 obtain ⟨hj, rfl⟩ := List.getElem?_eq_some_iff.1 h;exact List.drop_eq_getElem_cons hj
theorem dm_cells : memCells (kept ++ (g :: mid) ++ l.drop j) = memCells kept ++ [vI g.1, strV g.2] ++ memCells (mid ++ l.drop j) := by
 rw [List.append_assoc, mem_app, List.cons_append, mem_cons, List.append_assoc]
theorem dm_set (h : l[j]? = some x) : memCells kept ++ [vI x.1, strV x.2] ++ memCells (mid ++ l.drop j) = memCells (kept ++ [x] ++ (mid ++ [x]) ++ l.drop (j + 1)) := by
 rw [mem_snoc, ← mem_app, dm_drop h]
 simp
theorem dm_skip (h : l[j]? = some x) : kept ++ mid ++ l.drop j = kept ++ (mid ++ [x]) ++ l.drop (j + 1) := by
 rw [dm_drop h]; simp
theorem dm_filter (h : l[j]? = some x) : (l.take (j + 1)).filter p = (l.take j).filter p ++ if p x then [x] else [] := by
 rw [take_next h, List.filter_append];cases hp : p x <;> simp [hp]
theorem dm_start (h : l[j]? = some x) (hx : p x = true) (hn : ∀ y ∈ l.take j, p y = false) : (l.take (j + 1)).filter (fun y => !p y) = l.take j ∧ l = l.take j ++ [x] ++ l.drop (j + 1) := by
 constructor
 ·rw [dm_filter h, hx, List.filter_eq_self.2 (fun y hy => by rw [hn y hy]; rfl)]
  simp
 conv => lhs; rw [← List.take_append_drop j l, dm_drop h]
 simp
end
theorem indexMemO (B : Base) (H : List Res) (w : World) (f : FuncId) (cb : Array Value) (ra : Option Addr) (rc : Nat) (l : Zs) (pr : Int × List UInt8 → Bool) (hm : l.length ≤ 1000000) (hcal : Callable Tryz.prog f) (hf : ∀ (K : List Res) (x : Int × List UInt8) (w : World), Inv B (K ++ H) w → Calls Tryz.prog f (#[.agg #[vI x.1, vS x.2]] ++ cb) w fun e w' => e = .returned (.bool (pr x)) ∧ Inv B (K ++ H) w') (hv : Inv B (Res.row 123 2 (.slice ra l.length rc) l.length (memCells l) :: H) w) :
  Calls Tryz.prog 130 #[.slice ra l.length rc, .func (.func f) #[] cb] w fun e w' => ∃ r : Int, e = .returned (vI r) ∧ ((r = -1 ∧ ∀ y ∈ l, pr y = false) ∨ ∃ (i : Nat) (x : Int × List UInt8), r = (i : Int) ∧ l[i]? = some x ∧ pr x = true ∧ ∀ y ∈ l.take i, pr y = false) ∧ Inv B (Res.row 123 2 (.slice ra l.length rc) l.length (memCells l) :: H) w' := by
 refine cW Tryz.func130 rfl Tryz.ntmps130 ?_;simp only [al];apply uN;intro _ _;apply uN;intro _ _ _ _;refine oG (vI (l.length : Int)) rfl (ex_len0 Tryz.underlying82 rfl rfl) ?_
 gi_loopw [8] (fun x8 wr => ∃ (i : Nat), x8 = vI i ∧ i ≤ l.length ∧ (∀ j x, j < i → l[j]? = some x → pr x = false) ∧ Inv B (Res.row 123 2 (.slice ra l.length rc) l.length (memCells l) :: H) wr) (fun x8 _ => l.length - (intOf x8).toNat)
 case atStart => exact ⟨0, rfl, Nat.zero_le _, fun j x h => by omega, hv⟩
 case round =>
  obtain ⟨i, rfl, hi, hno, hv⟩ := hrel;apply uN;intro _ _;refine uB (fun hb6 => ?_) fun hb6 => ?_
  ·intro _ _;apply uN;intro _ _ _ _;apply uN;intro _ _;obtain ⟨x, hx⟩ : ∃ x, l[i]? = some x := ⟨_, List.getElem?_eq_getElem (show i < l.length by omega)⟩;obtain ⟨b, rfl⟩ := row_some hv.head (by omega);apply uN;refine oG (.pointer (some ⟨b, 0 + i * 2, none⟩)) rfl (ex_index rfl rfl rfl (run_idx (k := i) Tryz.underlying82 s9es82 (by omega))) ?_;refine oL (.agg #[vI x.1, vS x.2]) rfl (run_loadR (cs := [vI x.1, vS x.2]) s9wd123 (row_loads (hv.get 0 rfl) rfl (mem_get hx))) ?_;refine wpi_callV hcal tV wideC rfl (wn rfl) rfl rfl (args := #[.agg #[vI x.1, vS x.2]]) (by simp only [List.map_toArray, List.map_cons, List.map_nil]; rfl) ((hf [_] x _ hv).mono ?_);rintro e w11 ⟨rfl, hv⟩;apply eR;replace hv : Inv B (Res.row 123 2 (.slice (some ⟨b, 0, none⟩) l.length rc) l.length (memCells l) :: H) _ := hv;apply uN;refine wpIn_cond_split (t := pr x) rfl (fun hc12 => ?_) (fun hc12 => ?_)
   ·apply uN;intro _ _;apply uN;refine bR rfl rfl (⟨_, rfl, .inr ⟨i, x, rfl, hx, by simpa using hc12, fun y hy => (by obtain ⟨j, hj⟩ := List.mem_iff_getElem?.1 hy; have h9 := (List.getElem?_eq_some_iff.1 hj).1; rw [List.length_take] at h9; rw [List.getElem?_take_of_lt (by omega)] at hj; exact hno j y (by omega) hj)⟩, hv⟩)
   apply uN;refine oG (vI ((i + 1 : Nat) : Int)) rfl (ex_add rfl rfl rfl (by rw [i64_in (by omega)]; omega)) ?_;refine then_normal ?_
   go_roundw
   case rel => exact ⟨i + 1, rfl, by omega, fun j x' hj hx' => (by
      rcases Nat.lt_or_ge j i with h | h
      ·exact hno j x' h hx'
      obtain rfl : j = i := by omega
      rw [hx] at hx'; cases hx'
      simpa using hc12), hv⟩
   case measure => show l.length - (((i + 1 : Nat) : Int)).toNat < l.length - ((i : Int)).toNat; omega
  intro _ _ _ _;apply uN;refine bR rfl rfl ?_;obtain rfl : i = l.length := by omega
  exact ⟨_, rfl, .inl ⟨rfl, fun y hy => (by obtain ⟨j, hj⟩ := List.mem_iff_getElem?.1 hy; exact hno j y (List.getElem?_eq_some_iff.1 hj).1 hj)⟩, hv⟩
theorem zc1al123 : AL Tryz.prog 123 [vI 0, vS []] := fun w => by kernel_rfl
theorem zc1mk123 : (Tryz.prog.info? 123).map (fun i => (i.zero, i.size, i.bytes)) = some (some (.agg #[vI 0, vS []]), 2, 24) := by kernel_rfl
theorem zc1el82 : Elem Tryz.prog 82 123 (.agg #[vI 0, vS []]) 2 24 := elem_of Tryz.underlying82 zc1mk123 (by rfl) (by decide)
theorem deleteMem (B : Base) (H : List Res) (w : World) (f : FuncId) (cb : Array Value) (ra : Option Addr) (rc : Nat) (l : Zs) (pr : Int × List UInt8 → Bool) (hm : l.length ≤ 1000000) (hcal : Callable Tryz.prog f) (hf : ∀ (K : List Res) (x : Int × List UInt8) (w : World), Inv B (K ++ H) w → Calls Tryz.prog f (#[.agg #[vI x.1, vS x.2]] ++ cb) w fun e w' => e = .returned (.bool (pr x)) ∧ Inv B (K ++ H) w') (hv : Inv B (Res.row 123 2 (.slice ra l.length rc) l.length (memCells l) :: H) w) :
  Calls Tryz.prog 115 #[.slice ra l.length rc, .func (.func f) #[] cb] w fun e w' => ∃ ra' rc', e = .returned (.slice ra' (l.filter fun y => !pr y).length rc') ∧ Inv B (Res.row 123 2 (.slice ra' (l.filter fun y => !pr y).length rc') (l.filter fun y => !pr y).length (memCells (l.filter fun y => !pr y)) :: H) w' := by
 refine cW Tryz.func115 rfl Tryz.ntmps115 ?_;simp only [al];apply uN;intro _ _;apply uN;intro _ _;refine xC s9callable130 rfl ((indexMemO B H _ f cb ra rc l pr hm hcal hf hv).mono ?_) rfl;rintro e w3 ⟨r, rfl, hor, hv⟩;apply eR;rcases hor with ⟨rfl, hno⟩ | ⟨i0, x0, rfl, hx0, hp0, hno⟩
 ·apply uN;intro _ _ _ _;refine oG (.bool true) rfl (ex_eql rfl rfl rfl (by decide)) ?_;intro _ _;apply uN;refine bR rfl rfl ?_;have hfl : l.filter (fun y => !pr y) = l := List.filter_eq_self.2 (fun y hy => by rw [hno y hy]; rfl);rw [hfl];exact ⟨_, _, rfl, hv⟩
 have hi0 : i0 < l.length := (List.getElem?_eq_some_iff.1 hx0).1;obtain ⟨b, rfl⟩ := row_some hv.head (by omega);obtain ⟨hst, hsl⟩ := dm_start hx0 hp0 hno;apply uN;intro _ _ _ _;refine uU (by omega) ?_;intro _ _ _ _;refine oG (vI ((i0 + 1 : Nat) : Int)) rfl (ex_add rfl rfl rfl (by rw [i64_in (by omega)]; omega)) ?_
 gi_loopw [5, 6] (fun x5 x6 wr => ∃ (i j : Nat) (kept mid : Zs), x5 = vI i ∧ x6 = vI j ∧ j ≤ l.length ∧ kept = (l.take j).filter (fun y => !pr y) ∧ i = kept.length ∧ 0 < mid.length ∧ i + mid.length = j ∧ Inv B (Res.row 123 2 (.slice (some ⟨b, 0, none⟩) l.length rc) l.length (memCells (kept ++ mid ++ l.drop j)) :: H) wr) (fun x5 x6 _ => l.length - (intOf x6).toNat)
 case atStart => exact ⟨i0, i0 + 1, l.take i0, [x0], rfl, rfl, by omega, hst.symm, by rw [List.length_take]; omega, by simp, by simp, by rw [← hsl]; exact hv⟩
 case round =>
  obtain ⟨i, j, kept, mid, rfl, rfl, hj, hkept, hik, hmid, hij, hv⟩ := hrel;apply uN;intro _ _ _ _;refine oG (vI (l.length : Int)) rfl (ex_len0 Tryz.underlying82 rfl rfl) ?_;refine uB (fun hb14 => ?_) fun hb14 => ?_
  ·intro _ _ _ _;obtain ⟨x, hx⟩ : ∃ x, l[j]? = some x := ⟨_, List.getElem?_eq_getElem (show j < l.length by omega)⟩;apply uN;refine oG (.pointer (some ⟨b, 0 + j * 2, none⟩)) rfl (ex_index rfl rfl rfl (run_idx (k := j) Tryz.underlying82 s9es82 (by omega))) ?_;refine oL (.agg #[vI x.1, vS x.2]) rfl (run_loadR (cs := [vI x.1, vS x.2]) s9wd123 (row_loads (hv.get 0 rfl) rfl (mem_get (dm_get (kept := kept) (mid := mid) hx (by omega))))) ?_;refine sl_alloc tV (wn rfl) rfl hv zc1al123 (fun b17 w18 hv => ?_);refine zX 0 rfl hv s11sz123 rfl (fun w19 hv => ?_) (by exact ⟨rfl, rfl, trivial⟩);apply uN;intro _ _;refine oL (.agg #[vI x.1, vS x.2]) rfl (lM 0 s9wd123 hv rfl rfl rfl rfl) ?_;refine wpi_callV hcal tV wideC rfl (wn rfl) rfl rfl (args := #[.agg #[vI x.1, vS x.2]]) (by simp only [List.map_toArray, List.map_cons, List.map_nil]; rfl) ((hf [_, _] x _ hv).mono ?_);rintro e w21 ⟨rfl, hv⟩;apply eR;replace hv : Inv B (Res.cell b17 [vI x.1, vS x.2] 123 :: Res.row 123 2 (.slice (some ⟨b, 0, none⟩) l.length rc) l.length (memCells (kept ++ mid ++ l.drop j)) :: H) _ := hv;refine oG (.bool (!(pr x))) rfl (ex_not rfl rfl rfl) ?_;refine wpIn_cond_split (t := !(pr x)) rfl (fun hc22 => ?_) (fun hc22 => ?_)
   ·apply uN;intro _ _;replace hv := hv.front 1 rfl;simp only [eS, eZ] at hv;have hpx : pr x = false := by simpa using hc22
    obtain ⟨g0, mid2, hmg⟩ : ∃ g0 m2, mid = g0 :: m2 := (by cases mid with | nil => simp at hmid | cons a m => exact ⟨a, m, rfl⟩);subst hmg;rw [dm_cells] at hv;have hkc : (memCells kept).length = i * 2 := by rw [memCells_len, hik]
    apply uN;refine oL (.agg #[vI x.1, vS x.2]) rfl (lM 1 s9wd123 hv rfl rfl rfl rfl) ?_;refine oG (.pointer (some ⟨b, 0 + i * 2, none⟩)) rfl (ex_index rfl rfl rfl (run_idx (k := i) Tryz.underlying82 s9es82 (by omega))) ?_;refine sl_storeRowN (new := [vI x.1, strV x.2]) tV (wn rfl) rfl rfl rfl hv s11sz123 (by rw [hkc, Nat.zero_add]) rfl (one_cons rfl (one_cons rfl one_nil)) (fun w24 hv => ?_);apply uN;refine oG (vI ((i + 1 : Nat) : Int)) rfl (ex_add rfl rfl rfl (by rw [i64_in (by omega)]; omega)) ?_;refine oG (vI ((j + 1 : Nat) : Int)) rfl (ex_add rfl rfl rfl (by rw [i64_in (by omega)]; omega)) ?_;refine then_normal ?_
    go_roundw
    case rel => exact ⟨i + 1, j + 1, kept ++ [x], mid2 ++ [x], rfl, rfl, by omega, by rw [dm_filter hx, ← hkept, hpx]; rfl, by rw [List.length_append]; simp; exact hik, by simp, by simp at hij ⊢; omega, by rw [← dm_set hx]; exact (hv.kp [] 1 1)⟩
    case measure => show l.length - (((j + 1 : Nat) : Int)).toNat < l.length - ((j : Int)).toNat; omega
   apply uN;have hpx : pr x = true := by simpa using hc22
   apply uN;refine oG (vI ((j + 1 : Nat) : Int)) rfl (ex_add rfl rfl rfl (by rw [i64_in (by omega)]; omega)) ?_;refine then_normal ?_
   go_roundw
   case rel => exact ⟨i, j + 1, kept, mid ++ [x], rfl, rfl, by omega, by rw [dm_filter hx, ← hkept, hpx]; simp, hik, by simp, by simp; omega, by rw [← dm_skip hx]; exact (hv.kp [1] 1 1)⟩
   case measure => show l.length - (((j + 1 : Nat) : Int)).toNat < l.length - ((j : Int)).toNat; omega
  intro _ _;obtain rfl : j = l.length := by omega
  rw [List.drop_length, List.append_nil, mem_app] at hv;rw [List.take_length] at hkept;obtain ⟨L, hL1, hL2, hL3, hL4, hv⟩ := hv.rowCell;obtain ⟨tl, hLe⟩ : ∃ tl, L = memCells kept ++ memCells mid ++ tl := ⟨L.drop (l.length * 2), by rw [← hL2, List.take_append_drop]⟩;subst hLe;have hkn : (memCells kept).length = i * 2 := by rw [memCells_len, hik]
  apply uN;refine oG (.slice (some ⟨b, 0 + i * 2, none⟩) (l.length - i) (rc - i)) rfl (ex_slice (lo' := some (vI i)) rfl rfl (congrArg some rfl) rfl rfl (run_from (size := 2) Tryz.underlying82 s9es82 (by omega) (by omega))) ?_;refine sl_clearAt 0 (pre := memCells kept) (mid := memCells mid) (post := tl) (m := l.length - i) tV (wn rfl) rfl rfl zc1el82 (one_cons rfl (one_cons rfl one_nil)) hv rfl rfl (by rw [hkn, Nat.zero_add]) (by rw [memCells_len]; omega) (fun zs w26 hzs hv => ?_);simp only [zO] at hv;apply uN;intro _ _;refine oG (.slice (some ⟨b, 0, none⟩) i rc) rfl (ex_slice (hi' := some (vI i)) rfl rfl rfl (congrArg some rfl) rfl (run_hi Tryz.underlying82 s9es82 (by omega))) ?_;refine bR rfl rfl ?_;have h8 := hv.cellRow (n := i) (c := rc) (size := 2) (by simp only [List.length_append, hzs] at hL1 ⊢; exact hL1) (by omega) hL4;rw [List.append_assoc, List.take_left' hkn, hik, hkept] at h8;rw [hik, hkept];exact ⟨_, _, rfl, h8⟩
theorem zc3al123 : AL Tryz.prog 123 [vI 0, vS []] := fun w => by kernel_rfl
theorem zc3mk123 : (Tryz.prog.info? 123).map (fun i => (i.zero, i.size, i.bytes)) = some (some (.agg #[vI 0, vS []]), 2, 24) := by kernel_rfl
theorem zc3el82 : Elem Tryz.prog 82 123 (.agg #[vI 0, vS []]) 2 24 := elem_of Tryz.underlying82 zc3mk123 (by rfl) (by decide)
theorem zc3sz3 : (Tryz.prog.info? 3).map (·.size) = some 1 := by kernel_rfl
theorem zc3callable110 : Callable Tryz.prog 110 := cb Tryz.func110 (by kernel_rfl)
theorem zsetAdd (B : Base) (H : List Res) (w : World) (ad : Option Addr) (c : Nat) (z : Zs) (hr : RdV B [] ad (memCells z)) (hm : z.length ≤ 1000000) (hzd : (z.map nmZ).Nodup) (ma : Option Addr) (mc : Nat) (ms : Zs) (hrm : RdV B [] ma (memCells ms)) (hmm : ms.length ≤ 1000000) (hv : Inv B H w) :
  Calls Tryz.prog 74 #[.slice ad z.length c, .slice ma ms.length mc] w fun e w' => ∃ D oa oc out ad9 ch ec, B.Le D ∧ e = .returned (.tuple #[.slice oa out.length oc, vI ad9, vI ch, vI ec]) ∧ SliceOk oa out.length oc ∧ RdV D [] oa (memCells out) ∧ 0 ≤ ad9 ∧ AddR z ms out ad9 ec ∧ Inv D H w' := by
 refine cW Tryz.func74 rfl Tryz.ntmps74 ?_;simp only [al];apply uN;intro _ _;apply uN;intro _ _ _ _;refine xC s11callable108 rfl ((containsFuncMem B _ _ 109 #[] ma mc ms (fun m : Int × List UInt8 => decide (m.2.length > 4096)) hrm hmm s11callable109 (fun x _ w hv => zsetLong B _ w x.1 x.2 hv) hv).mono ?_) rfl;rintro e w4 ⟨rfl, hv⟩;apply eR;refine wpIn_cond_split (t := ms.any (fun m : Int × List UInt8 => decide (m.2.length > 4096))) rfl (fun hc5 => ?_) (fun hc5 => ?_)
 ·apply uN;intro _ _;apply uN;refine bodyPost_ret (results_tmp4 rfl _ _ _) rfl ?_;obtain ⟨m9, hm9, hl9⟩ := List.any_eq_true.1 hc5;exact ⟨B, none, 0, [], 0, 0, 12, Base.Le.refl _, rfl, okZ0, rdV_nil, Int.le_refl _, .inl ⟨rfl, ⟨m9, hm9, by simpa using hl9⟩, rfl, rfl⟩, hv⟩
 apply uN;intro _ _;refine oG (vI (ms.length : Int)) rfl (ex_len0 Tryz.underlying82 rfl rfl) ?_;refine sl_makeMapV (m := (ms.length : Int)) tV (wn rfl) rfl rfl Tryz.underlying149 hv (fun mp8 w9 hv => ?_);apply uN;intro _ _ _ _;refine oG (vI (ms.length : Int)) rfl (ex_len0 Tryz.underlying82 rfl rfl) ?_
 gi_loopw [27] (fun x27 wr => ∃ (i : Nat), x27 = vI i ∧ i ≤ ms.length ∧ Inv B (Res.vmap mp8 (intE (givenZ (ms.take i))) :: H) wr) (fun x27 _ => ms.length - (intOf x27).toNat)
 case atStart => exact ⟨0, rfl, Nat.zero_le _, hv⟩
 case round =>
  obtain ⟨i, rfl, hi, hv⟩ := hrel;apply uN;intro _ _;refine uB (fun hb14 => ?_) fun hb14 => ?_
  ·intro _ _;apply uN;intro _ _ _ _;obtain ⟨x, hx⟩ : ∃ x, ms[i]? = some x := ⟨_, List.getElem?_eq_getElem (show i < ms.length by omega)⟩;obtain ⟨mb9, mo9, had, hrdx⟩ := mem_reads hrm hx;subst had;apply uN;refine oG (.pointer (some ⟨mb9, mo9 + i * 2, none⟩)) rfl (ex_index rfl rfl rfl (run_idx (k := i) Tryz.underlying82 s9es82 (by omega))) ?_;refine oL (.agg #[vI x.1, vS x.2]) rfl (run_loadR (cs := [vI x.1, vS x.2]) s9wd123 (Reads.mid (pre := []) (mid := [vI x.1, vS x.2]) (post := []) hrdx _ _ _ (Base.Le.refl _) no_res hv)) ?_;refine sl_alloc tV (wn rfl) rfl hv zc3al123 (fun b18 w19 hv => ?_);simp only [zP, po];refine zX 0 rfl hv s11sz123 rfl (fun w20 hv => ?_) (by exact ⟨rfl, rfl, trivial⟩);apply uN;refine oF (.pointer (some ⟨b18, 1, none⟩)) rfl (s9fa123_1 _ _ _) ?_;refine oL _ rfl (run_load1 s9na9 (hv.load 0 1 rfl rfl)) ?_;refine oF (vP b18) rfl (s11fa123_0 _ _ _) ?_;refine oL _ rfl (run_load1 s2na3 (hv.load 0 0 rfl rfl)) ?_;replace hv := hv.front 1 rfl;simp only [eS, eZ] at hv;refine sl_updI (k := x.2) (vI := x.1) tV (wn rfl) rfl rfl rfl rfl Tryz.underlying149 Tryz.underlying9 hv (fun w21 hv => ?_);apply uN;refine oG (vI ((i + 1 : Nat) : Int)) rfl (ex_add rfl rfl rfl (by rw [i64_in (by omega)]; omega)) ?_;refine then_normal ?_
   go_roundw
   case rel => exact ⟨i + 1, rfl, by omega, by rw [given_next hx]; exact (hv.kp [] 1 1)⟩
   case measure => show ms.length - (((i + 1 : Nat) : Int)).toNat < ms.length - ((i : Int)).toNat; omega
  intro _ _ _ _;obtain rfl : i = ms.length := by omega
  rw [List.take_length] at hv;have hgl := given_len ms;apply uN;refine oG (vI (z.length : Int)) rfl (ex_len0 Tryz.underlying82 rfl rfl) ?_;refine oG (vI ((givenZ ms).length : Int)) rfl (ex_lenI 0 Tryz.underlying149 rfl rfl hv rfl) ?_;refine oG (vI ((z.length + (givenZ ms).length : Nat) : Int)) rfl (ex_add rfl rfl rfl (by rw [i64_in (by omega)]; omega)) ?_;refine sl_makeRow (cap := (z.length + (givenZ ms).length : Nat)) tV (wn rfl) rfl rfl rfl zc3el82 (by unfold maxLen; omega) (by omega) hv (fun b24 w25 hv => ?_);apply uN;intro _ _;apply uN;intro _ _ _ _;refine oG (vI (z.length : Int)) rfl (ex_len0 Tryz.underlying82 rfl rfl) ?_
  gi_loopw [11, 12, 45] (fun x11 x12 x45 wr => ∃ (i : Nat) (oa : Option Addr) (oc : Nat) (ch : Int), x11 = .slice oa i oc ∧ x12 = vI ch ∧ x45 = vI i ∧ i ≤ z.length ∧ 0 ≤ ch ∧ ch ≤ (i : Int) ∧ Inv B (Res.row 123 2 (.slice oa i oc) i (memCells ((z.take i).map (setZ (givenZ ms)))) :: Res.vmap mp8 (intE (leftZ (givenZ ms) (z.take i))) :: H) wr) (fun x11 x12 x45 _ => z.length - (intOf x45).toNat)
  case atStart => exact ⟨0, _, _, 0, rfl, rfl, rfl, Nat.zero_le _, Int.le_refl _, Int.le_refl _, by rw [List.take_zero, left_nil]; exact ((hv.front 1 rfl).front 1 rfl)⟩
  case round =>
   obtain ⟨i, oa, oc, ch, rfl, rfl, rfl, hi, hc0, hci, hv⟩ := hrel;apply uN;intro _ _;refine uB (fun hb31 => ?_) fun hb31 => ?_
   ·intro _ _;apply uN;intro _ _ _ _;obtain ⟨x, hx⟩ : ∃ x, z[i]? = some x := ⟨_, List.getElem?_eq_getElem (show i < z.length by omega)⟩;obtain ⟨zb9, zo9, had, hrdx⟩ := mem_reads hr hx;subst had;apply uN;refine oG (.pointer (some ⟨zb9, zo9 + i * 2, none⟩)) rfl (ex_index rfl rfl rfl (run_idx (k := i) Tryz.underlying82 s9es82 (by omega))) ?_;refine oL (.agg #[vI x.1, vS x.2]) rfl (run_loadR (cs := [vI x.1, vS x.2]) s9wd123 (Reads.mid (pre := []) (mid := [vI x.1, vS x.2]) (post := []) hrdx _ _ _ (Base.Le.refl _) no_res hv)) ?_;refine sl_alloc tV (wn rfl) rfl hv zc3al123 (fun b35 w36 hv => ?_);simp only [zP, po];refine zX 0 rfl hv s11sz123 rfl (fun w37 hv => ?_) (by exact ⟨rfl, rfl, trivial⟩);apply uN;intro _ _ _ _;have hlk : lookA (leftZ (givenZ ms) (z.take i)) x.2 = lookA (givenZ ms) x.2 := left_look (nodup_take hzd hx);apply uN;refine oF (.pointer (some ⟨b35, 1, none⟩)) rfl (s9fa123_1 _ _ _) ?_;refine oL _ rfl (run_load1 s9na9 (hv.load 0 1 rfl rfl)) ?_;refine oG (.tuple #[vI ((lookA (leftZ (givenZ ms) (z.take i)) x.2).getD 0), .bool ((lookA (leftZ (givenZ ms) (z.take i)) x.2).isSome)]) rfl (ex_lookI1 2 rfl rfl rfl Tryz.underlying149 Tryz.underlying9 (fun w => by kernel_rfl) hv rfl) ?_;intro _ _;apply uN;refine wpIn_cond_split (t := (lookA (leftZ (givenZ ms) (z.take i)) x.2).isSome) rfl (fun hc41 => ?_) (fun hc41 => ?_)
    ·apply uN;intro _ _ _ _;refine oF (vP b35) rfl (s11fa123_0 _ _ _) ?_;refine oL _ rfl (run_load1 s2na3 (hv.load 0 0 rfl rfl)) ?_;refine uB (fun hb44 => ?_) fun hb44 => ?_
     ·refine oG (vI (ch + 1)) rfl (ex_add rfl rfl rfl (i64_in (by omega))) ?_;intro _ _;refine oF (vP b35) rfl (s11fa123_0 _ _ _) ?_;refine xV 0 (vI ((lookA (leftZ (givenZ ms) (z.take i)) x.2).getD 0)) rfl hv zc3sz3 rfl rfl (fun w46 hv => ?_);simp only [zO, sp] at hv;apply uN;refine oF (.pointer (some ⟨b35, 1, none⟩)) rfl (s9fa123_1 _ _ _) ?_;refine oL _ rfl (run_load1 s9na9 (hv.load 0 1 rfl rfl)) ?_;replace hv := hv.front 2 rfl;simp only [eS, eZ] at hv;refine sl_delI (k := x.2) tV (wn rfl) rfl rfl rfl Tryz.underlying149 Tryz.underlying9 hv (fun w47 hv => ?_);apply uN;refine oL (.agg #[vI ((lookA (leftZ (givenZ ms) (z.take i)) x.2).getD 0), vS x.2]) rfl (lM 1 s9wd123 hv rfl rfl rfl rfl) ?_;refine sl_rowAgg (L := [vI ((lookA (leftZ (givenZ ms) (z.take i)) x.2).getD 0), vS x.2]) tV (wn rfl) rfl rfl hv zc3el82 rfl (by decide) (fun b48 w49 hv => ?_);simp only [zP, po];replace hv := hv.front 3 rfl;simp only [eS, eZ] at hv;refine sl_append (news := [vI ((lookA (leftZ (givenZ ms) (z.take i)) x.2).getD 0), vS x.2]) tV (wn rfl) rfl rfl rfl zc3el82 hv (ok_full (by omega)) rfl (rd_all (hv.get 1 rfl)) (by intro u hu; simp only [List.mem_cons, List.not_mem_nil, or_false] at hu; rcases hu with rfl | rfl <;> rfl) (by unfold maxLen; omega) (by omega) (fun rv50 w53 hv => ?_);obtain ⟨ra51, rc52, rfl⟩ := row_slice hv.head;apply uN;refine oG (vI ((i + 1 : Nat) : Int)) rfl (ex_add rfl rfl rfl (by rw [i64_in (by omega)]; omega)) ?_;refine then_normal ?_
      go_roundw
      case rel => exact ⟨i + 1, _, _, _, rfl, rfl, rfl, by omega, by omega, by omega, by
         have hs := setZ_some hc41 hlk;have hl := left_next (g := givenZ ms) hx;rw [hl]; rw [take_next hx, List.map_append, List.map_singleton, hs, ← mem_snoc]; exact (hv.kp [2, 1] 2 2)⟩
      case measure => show z.length - (((i + 1 : Nat) : Int)).toNat < z.length - ((i : Int)).toNat; omega
     intro _ _;refine oF (vP b35) rfl (s11fa123_0 _ _ _) ?_;refine xV 0 (vI ((lookA (leftZ (givenZ ms) (z.take i)) x.2).getD 0)) rfl hv zc3sz3 rfl rfl (fun w55 hv => ?_);simp only [zO, sp] at hv;apply uN;refine oF (.pointer (some ⟨b35, 1, none⟩)) rfl (s9fa123_1 _ _ _) ?_;refine oL _ rfl (run_load1 s9na9 (hv.load 0 1 rfl rfl)) ?_;replace hv := hv.front 2 rfl;simp only [eS, eZ] at hv;refine sl_delI (k := x.2) tV (wn rfl) rfl rfl rfl Tryz.underlying149 Tryz.underlying9 hv (fun w56 hv => ?_);apply uN;refine oL (.agg #[vI ((lookA (leftZ (givenZ ms) (z.take i)) x.2).getD 0), vS x.2]) rfl (lM 1 s9wd123 hv rfl rfl rfl rfl) ?_;refine sl_rowAgg (L := [vI ((lookA (leftZ (givenZ ms) (z.take i)) x.2).getD 0), vS x.2]) tV (wn rfl) rfl rfl hv zc3el82 rfl (by decide) (fun b57 w58 hv => ?_);simp only [zP, po];replace hv := hv.front 3 rfl;simp only [eS, eZ] at hv;refine sl_append (news := [vI ((lookA (leftZ (givenZ ms) (z.take i)) x.2).getD 0), vS x.2]) tV (wn rfl) rfl rfl rfl zc3el82 hv (ok_full (by omega)) rfl (rd_all (hv.get 1 rfl)) (by intro u hu; simp only [List.mem_cons, List.not_mem_nil, or_false] at hu; rcases hu with rfl | rfl <;> rfl) (by unfold maxLen; omega) (by omega) (fun rv59 w62 hv => ?_);obtain ⟨ra60, rc61, rfl⟩ := row_slice hv.head;apply uN;refine oG (vI ((i + 1 : Nat) : Int)) rfl (ex_add rfl rfl rfl (by rw [i64_in (by omega)]; omega)) ?_;refine then_normal ?_
     go_roundw
     case rel => exact ⟨i + 1, _, _, _, rfl, rfl, rfl, by omega, by omega, by omega, by
        have hs := setZ_some hc41 hlk;have hl := left_next (g := givenZ ms) hx;rw [hl]; rw [take_next hx, List.map_append, List.map_singleton, hs, ← mem_snoc]; exact (hv.kp [2, 1] 2 2)⟩
     case measure => show z.length - (((i + 1 : Nat) : Int)).toNat < z.length - ((i : Int)).toNat; omega
    apply uN;refine oL (.agg #[vI x.1, vS x.2]) rfl (lM 0 s9wd123 hv rfl rfl rfl rfl) ?_;refine sl_rowAgg (L := [vI x.1, vS x.2]) tV (wn rfl) rfl rfl hv zc3el82 rfl (by decide) (fun b63 w64 hv => ?_);simp only [zP, po];replace hv := hv.front 2 rfl;simp only [eS, eZ] at hv;refine sl_append (news := [vI x.1, vS x.2]) tV (wn rfl) rfl rfl rfl zc3el82 hv (ok_full (by omega)) rfl (rd_all (hv.get 1 rfl)) (by intro u hu; simp only [List.mem_cons, List.not_mem_nil, or_false] at hu; rcases hu with rfl | rfl <;> rfl) (by unfold maxLen; omega) (by omega) (fun rv65 w68 hv => ?_);obtain ⟨ra66, rc67, rfl⟩ := row_slice hv.head;apply uN;refine oG (vI ((i + 1 : Nat) : Int)) rfl (ex_add rfl rfl rfl (by rw [i64_in (by omega)]; omega)) ?_;refine then_normal ?_
    go_roundw
    case rel => exact ⟨i + 1, _, _, _, rfl, rfl, rfl, by omega, by omega, by omega, by
       obtain ⟨hs, hn9⟩ := setZ_none hc41 hlk;have hl := left_drop (g := givenZ ms) hx hn9;rw [hl]; rw [take_next hx, List.map_append, List.map_singleton, hs, ← mem_snoc]; exact (hv.kp [3, 1] 2 2)⟩
    case measure => show z.length - (((i + 1 : Nat) : Int)).toNat < z.length - ((i : Int)).toNat; omega
   intro _ _ _ _;obtain rfl : i = z.length := by omega
   rw [List.take_length] at hv;have hll : (leftZ (givenZ ms) z).length ≤ (givenZ ms).length := List.length_filter_le _ _;apply uN;refine oG (vI ((leftZ (givenZ ms) z).length : Int)) rfl (ex_lenI 1 Tryz.underlying149 rfl rfl hv rfl) ?_;intro _ _ _ _;replace hv := hv.front 1 rfl;simp only [eS, eZ] at hv;refine sl_rangeI tV (wn rfl) rfl rfl Tryz.underlying149 hv (fun it73 w74 hv => ?_);apply uN
   gi_loopw [11] (fun x11 wr => ∃ (d : List (List UInt8 × Int)) (oa : Option Addr) (oc : Nat), x11 = .slice oa (outZ z (givenZ ms) d).length oc ∧ Inv B (Res.mit it73 mp8 (intE (leftZ (givenZ ms) z)) (intE d) :: Res.row 123 2 (.slice oa ((outZ z (givenZ ms) d).length) oc) ((outZ z (givenZ ms) d).length) (memCells (outZ z (givenZ ms) d)) :: H) wr) (fun x11 _ => z.length + (leftZ (givenZ ms) z).length - slLen x11)
   case atStart => exact ⟨[], oa, oc, by rw [outZ_nil, List.length_map], by rw [outZ_nil, List.length_map]; exact ((hv.front 1 rfl).front 1 rfl)⟩
   case round =>
    obtain ⟨d, oa, oc, rfl, hv⟩ := hrel;apply uN;intro _ _;refine sl_nextI tV (wn rfl) rfl rfl hv (fun hpm => ?_) (fun mk77 mv78 w79 hmem hlt hv => ?_)
    ·apply uN;intro _ _ _ _ _ _;have hol := outZ_len z (givenZ ms) d;have hdl := hpm.length_eq;apply uN;refine oG (vI (((outZ z (givenZ ms) d).length) : Int)) rfl (ex_len0 Tryz.underlying82 rfl rfl) ?_;refine uB (fun hb83 => ?_) fun hb83 => ?_
     ·intro _ _;apply uN;refine bodyPost_ret (results_tmp4 rfl _ _ _) rfl ?_;have hms : ∀ m ∈ ms, m.2.length ≤ 4096 := fun m9 hm9 => by have h9 := List.any_eq_false.1 (by simpa only [Bool.not_eq_true] using hc5) m9 hm9; simp at h9; omega
      have hpp := outZ_perm hpm;have hpl := hpp.length_eq;exact ⟨B, none, 0, [], 0, 0, 22, Base.Le.refl _, rfl, okZ0, rdV_nil, Int.le_refl _, .inr ⟨hms, .inl ⟨rfl, by omega, rfl, rfl⟩⟩, (hv.kp [] 0 2)⟩
     intro _ _;replace hv := hv.front 1 rfl;simp only [eS, eZ] at hv;refine xC zc3callable110 rfl ((sortMem B _ _ _ (outZ z (givenZ ms) d) (by omega) hv).mono ?_) rfl;rintro e w86 ⟨rfl, hv⟩;apply eR;intro _ _;apply uN;refine bodyPost_ret (results_tmp4 rfl _ _ _) rfl ?_;have hms : ∀ m ∈ ms, m.2.length ≤ 4096 := fun m9 hm9 => by have h9 := List.any_eq_false.1 (by simpa only [Bool.not_eq_true] using hc5) m9 hm9; simp at h9; omega
     have hpp := outZ_perm hpm;have hpl := hpp.length_eq;obtain ⟨D, hD, hv, hro, hoko, -⟩ := ((hv.sub (sC _ (sD _ (sR _))))).rowBy;have hsl := (sortZ_perm (outZ z (givenZ ms) d)).length_eq;exact ⟨D, oa, oc, sortZ (outZ z (givenZ ms) d), _, _, 0, hD, by rw [hsl]; rfl, by rw [hsl]; exact hoko, hro, Int.natCast_nonneg _, .inr ⟨hms, .inr ⟨rfl, by omega, rfl, _, hpp, rfl⟩⟩, hv⟩
    apply uN;intro _ _;apply uN;intro _ _;have hol := outZ_len z (givenZ ms) d;apply uN;refine oG (.tuple #[vS mk77, vI mv78]) rfl (ex_entryI 0 rfl rfl hv rfl) ?_;refine oG (.agg #[vI mv78, vS mk77]) rfl (ex_buildN (vs := #[(0, vI mv78), (1, vS mk77)]) rfl (by simp only [List.map_toArray, List.map_cons, List.map_nil]; rfl) (by kernel_rfl)) ?_;refine sl_rowAgg (L := [vI mv78, vS mk77]) tV (wn rfl) rfl rfl hv zc3el82 rfl (by decide) (fun b90 w91 hv => ?_);simp only [zP, po];replace hv := hv.front 2 rfl;simp only [eS, eZ] at hv;refine sl_append (news := [vI mv78, vS mk77]) tV (wn rfl) rfl rfl rfl zc3el82 hv (ok_full (by omega)) rfl (rd_all (hv.get 1 rfl)) (by intro u hu; simp only [List.mem_cons, List.not_mem_nil, or_false] at hu; rcases hu with rfl | rfl <;> rfl) (by unfold maxLen; omega) (by omega) (fun rv92 w95 hv => ?_);obtain ⟨ra93, rc94, rfl⟩ := row_slice hv.head;apply uN;refine then_normal ?_
    go_roundw
    case rel => exact ⟨d ++ [(mk77, mv78)], _, _, by rw [outZ_snoc, List.length_append]; rfl, by rw [outZ_snoc, List.length_append, ← mem_snoc]; exact (hv.kp [2] 2 1)⟩
    case measure => show _ - slLen _ < _ - slLen _; simp only [slLen, outZ_len]; omega
end Go.Proofs.YtgbhdfpobgefgaaGreatDoor
