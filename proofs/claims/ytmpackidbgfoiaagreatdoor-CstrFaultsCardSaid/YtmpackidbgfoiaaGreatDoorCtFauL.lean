/- cstr: combine, bitop. -/
import Derived.Test.YtmpackidbgfoiaaGreatDoorCtFauC
import Derived.Test.YtmpackidbgfoiaaGreatDoorCtFauK
import Derived.Test.YtmpackidbgfoiaaGreatDoorCtFauB
import Derived.Test.YtmpackidbgfoiaaGreatDoorRows
set_option maxRecDepth 100000
set_option maxHeartbeats 16000000
set_option synthInstance.maxSize 4096
set_option synthInstance.maxHeartbeats 400000
namespace Go.Proofs.YtmpackidbgfoiaaGreatDoor
open Go.RowKit Go.Pm
theorem cs4mk5 : (Tryz.prog.info? 5).map (fun i => (i.zero, i.size, i.bytes)) = some (some (.int .u8 0), 1, 1) := by kernel_rfl
theorem cstrCombine (B : Base) (H : List Res) (w : World) (op : Int) (xa : Option Addr) (xc : Nat) (xs : List (List UInt8)) (hrx : RdV B [] xa (textCells xs)) (hmx : xs.length ≤ 10000) (hxl : ∀ x ∈ xs, x.length ≤ 4096) (hv : Inv B H w) :
  Calls Tryz.prog 96 #[vI op, .slice xa xs.length xc] w fun e w' => ∃ r : List UInt8, e = .returned (vS r) ∧ Inv B H w' := by
 refine cW Tryz.func96 rfl Tryz.ntmps96 ?_;simp only [al];refine sK fun _ k1 => rL (uA rfl ?_);refine uW k1 (sK fun _ k2 => ?_);refine rL (uA rfl ?_);refine uW k2 (sK fun _ k3 => ?_);refine sK fun _ k4 => rL (uM rfl ?_);refine uG (vI (xs.length : Int)) rfl (ex_len0 Tryz.underlying23 rfl rfl) (uM rfl ?_);refine uW k4 (bB ?_)
 gi_loopw [15, 5] (fun x15 x5 wr => ∃ (i n9 : Nat), x15 = vI i ∧ x5 = vI n9 ∧ i ≤ xs.length ∧ n9 ≤ 4096 ∧ Inv B H wr) (fun x15 x5 _ => xs.length - (intOf x15).toNat)
 case atStart => exact ⟨0, 0, rfl, rfl, Nat.zero_le _, Nat.zero_le _, hv⟩
 case round =>
  obtain ⟨i, n9, rfl, rfl, hi, hn9, hv⟩ := hrel
  refine sK fun _ k6 => rL ?_
  by_cases hb7 : (i : Int) < (xs.length : Int)
  ·refine uG (.bool true) rfl (ex_lss rfl rfl rfl (qT hb7)) (uW k6 ?_)
   refine sK fun _ k8 => cT rfl (kS ?_);refine tK k8 (sK fun _ k9 => ?_);refine bB (sK fun _ k10 => ?_)
   have hv9 := hv
   obtain ⟨x, hx⟩ : ∃ x, xs[i]? = some x := ⟨_, List.getElem?_eq_getElem (show i < xs.length by omega)⟩
   obtain ⟨xb, xo, had, hrdx⟩ := text_reads hrx hx
   subst had
   have hv := hv9
   clear hv9;refine rL (uG (.pointer (some ⟨xb, xo + i, none⟩)) rfl (ex_index rfl rfl rfl (run_idx1 (k := i) Tryz.underlying23 s9es23 (by omega))) ?_);refine uL _ rfl (run_load1 s9na9 (hrdx _ _ _ (Base.Le.refl _) no_res hv 0 _ rfl)) (uA rfl ?_);refine uW k10 (rL ?_);refine uM rfl (uM rfl ?_);refine uG (vI (x.length : Int)) rfl (ex_lenStr Tryz.underlying9 rfl rfl) ?_;refine uG (vI ((max n9 x.length : Nat) : Int)) rfl (ex_max2 (m := (n9 : Int)) (n := (x.length : Int)) rfl rfl rfl (by split <;> omega)) (uA rfl ?_);refine uZ (bN ?_);refine tK k9 (rL ?_);refine uG (vI ((i + 1 : Nat) : Int)) rfl (ex_add rfl rfl rfl (by rw [i64_in (by omega)]; omega)) (uM rfl ?_);refine uZ (then_normal ?_)
   go_roundw
   case rel => exact ⟨i + 1, max n9 x.length, rfl, rfl, by omega, by have := hxl x (List.mem_of_getElem? hx); omega, hv⟩
   case measure => show xs.length - (((i + 1 : Nat) : Int)).toNat < xs.length - ((i : Int)).toNat; omega
  refine uG (.bool false) rfl (ex_lss rfl rfl rfl (qF hb7)) (uW k6 ?_);refine sK fun _ k11 => cF rfl (xE ?_);refine tX (tX ?_);refine bH (tK k3 ?_);refine sK fun _ k12 => rL (uM rfl ?_);refine sl_make1 (len := n9) (cap := n9) tV (wn rfl) rfl rfl rfl Tryz.underlying188 cs4mk5 rfl (by omega) (by unfold maxLen; omega) (by omega) hv (fun b13 w14 hv => ?_)
  obtain ⟨bm15, hbm16, hbe17⟩ := rep8 n9
  rw [hbe17] at hv;refine uA rfl (uW k12 ?_);refine sK fun _ k18 => sK fun _ k19 => rL (uM rfl ?_);refine uG (vI (xs.length : Int)) rfl (ex_len0 Tryz.underlying23 rfl rfl) (uM rfl ?_);refine uW k19 (bB ?_)
  gi_loopw [28] (fun x28 wr => ∃ (j : Nat) (M9 : List UInt8), x28 = vI j ∧ j ≤ xs.length ∧ M9.length = n9 ∧ Inv B (Res.cell b13 (M9.map B8) 5 :: H) wr) (fun x28 _ => xs.length - (intOf x28).toNat)
  case atStart => exact ⟨0, bm15, rfl, Nat.zero_le _, by omega, hv⟩
  case round =>
   obtain ⟨j, M9, rfl, hj, hM9, hv⟩ := hrel
   refine sK fun _ k21 => rL ?_
   by_cases hb22 : (j : Int) < (xs.length : Int)
   ·refine uG (.bool true) rfl (ex_lss rfl rfl rfl (qT hb22)) (uW k21 ?_)
    refine sK fun _ k23 => cT rfl (kS ?_);refine tK k23 (sK fun _ k24 => ?_);refine bB (sK fun _ k25 => ?_)
    have hv9 := hv
    obtain ⟨x2, hx2⟩ : ∃ x, xs[j]? = some x := ⟨_, List.getElem?_eq_getElem (show j < xs.length by omega)⟩
    obtain ⟨xb, xo, had, hrdx2⟩ := text_reads hrx hx2
    subst had
    have hv := hv9
    clear hv9;refine rL (uM rfl ?_);refine uG (.pointer (some ⟨xb, xo + j, none⟩)) rfl (ex_index rfl rfl rfl (run_idx1 (k := j) Tryz.underlying23 s9es23 (by omega))) ?_;refine uL _ rfl (run_load1 s9na9 (hrdx2 _ _ _ (Base.Le.refl _) no_res hv 0 _ rfl)) (uA rfl ?_);refine uA rfl (uW k25 ?_);refine sK fun _ k26 => rL (uM rfl ?_);refine uG (vI n9) rfl (ex_len0 Tryz.underlying188 rfl rfl) (uM rfl ?_);refine uW k26 (bB ?_)
    gi_loopw [35] (fun x35 wr => ∃ (k : Nat) (M8 : List UInt8), x35 = vI k ∧ k ≤ n9 ∧ M8.length = n9 ∧ Inv B (Res.cell b13 (M8.map B8) 5 :: H) wr) (fun x35 _ => n9 - (intOf x35).toNat)
    case atStart => exact ⟨0, M9, rfl, Nat.zero_le _, by omega, hv⟩
    case round =>
     obtain ⟨k, M8, rfl, hk, hM8, hv⟩ := hrel
     refine sK fun _ k28 => rL ?_
     by_cases hb29 : (k : Int) < (n9 : Int)
     ·refine uG (.bool true) rfl (ex_lss rfl rfl rfl (qT hb29)) (uW k28 ?_)
      refine sK fun _ k30 => cT rfl (kS ?_);refine tK k30 (sK fun _ k31 => ?_);refine bB (sK fun _ k32 => ?_);refine rL (uM rfl ?_);refine uA rfl (uW k32 ?_);refine sK fun _ k33 => rL (uA rfl ?_);refine uW k33 (sK fun _ k34 => ?_);refine sK fun _ k35 => rL (uM rfl ?_);refine uM rfl ?_;refine uG (vI (x2.length : Int)) rfl (ex_lenStr Tryz.underlying9 rfl rfl) ?_
      by_cases hb36 : (k : Int) < (x2.length : Int)
      ·refine uG (.bool true) rfl (ex_lss rfl rfl rfl (qT hb36)) (uW k35 ?_)
       refine cT rfl (rL ?_);refine uM rfl (uM rfl ?_);refine uG (.int .u8 ((x2[k]?.getD 0).toNat : Int)) rfl (ex_sidx0 Tryz.underlying9 rfl rfl rfl (by rw [List.getElem?_eq_getElem (show k < x2.length by omega)]; rfl)) ?_;refine uA rfl (uW k34 ?_);refine bB (sK fun _ k37 => ?_);refine rL (uM rfl ?_)
       by_cases hb38 : op = 3
       ·refine uG (.bool true) rfl (ex_eql rfl rfl rfl (qT hb38)) (uA rfl ?_)
        refine uW k37 (cT rfl ?_);refine rL (uM rfl ?_);refine uM rfl (uM rfl ?_);refine uG (.int .u8 ((notB (x2[k]?.getD 0)).toNat : Int)) rfl (ex_notB (c := (x2[k]?.getD 0)) rfl rfl) ?_;refine uG (.pointer (some ⟨b13, 0 + k, none⟩)) rfl (ex_index rfl rfl rfl (run_idx1 (k := k) Tryz.underlying188 t2es188 (by omega))) ?_;refine sl_storeAt 0 (v := .int .u8 ((notB (x2[k]?.getD 0)).toNat : Int)) (L' := (M8.set k (notB (x2[k]?.getD 0))).map B8) tV (wn rfl) rfl rfl rfl hv rfl t2sz5 (by rw [List.length_map]; omega) rfl rfl (by rw [Nat.zero_add]; exact map_set8 M8 k (notB (x2[k]?.getD 0))) (fun w39 hv => ?_);simp only [zO] at hv
        obtain ⟨bm40, hbm41, hbe42⟩ : ∃ q : List UInt8, q.length = M8.length ∧ (M8.set k (notB (x2[k]?.getD 0))) = q := ⟨_, List.length_set, rfl⟩
        rw [hbe42] at hv;refine uZ (bN ?_);refine bN (tK k31 ?_);refine rL (uG (vI ((k + 1 : Nat) : Int)) rfl (ex_add rfl rfl rfl (by rw [i64_in (by omega)]; omega)) ?_);refine uM rfl (uZ ?_);refine then_normal ?_
        go_roundw
        case rel => exact ⟨k + 1, bm40, rfl, by omega, by omega, hv⟩
        case measure => show n9 - (((k + 1 : Nat) : Int)).toNat < n9 - ((k : Int)).toNat; omega
       refine uG (.bool false) rfl (ex_eql rfl rfl rfl (qF hb38)) (uA rfl ?_);refine uW k37 (cF rfl ?_);refine sK fun _ k43 => rL (uM rfl ?_)
       by_cases hb44 : (j : Int) = 0
       ·refine uG (.bool true) rfl (ex_eql rfl rfl rfl (qT hb44)) (uA rfl ?_)
        refine uW k43 (cT rfl ?_);refine rL (uM rfl ?_);refine uM rfl (uM rfl ?_);refine uG (.pointer (some ⟨b13, 0 + k, none⟩)) rfl (ex_index rfl rfl rfl (run_idx1 (k := k) Tryz.underlying188 t2es188 (by omega))) ?_;refine sl_storeAt 0 (v := .int .u8 ((x2[k]?.getD 0).toNat : Int)) (L' := (M8.set k (x2[k]?.getD 0)).map B8) tV (wn rfl) rfl rfl rfl hv rfl t2sz5 (by rw [List.length_map]; omega) rfl rfl (by rw [Nat.zero_add]; exact map_set8 M8 k (x2[k]?.getD 0)) (fun w45 hv => ?_);simp only [zO] at hv
        obtain ⟨bm46, hbm47, hbe48⟩ : ∃ q : List UInt8, q.length = M8.length ∧ (M8.set k (x2[k]?.getD 0)) = q := ⟨_, List.length_set, rfl⟩
        rw [hbe48] at hv;refine uZ (bN ?_);refine bN (tK k31 ?_);refine rL (uG (vI ((k + 1 : Nat) : Int)) rfl (ex_add rfl rfl rfl (by rw [i64_in (by omega)]; omega)) ?_);refine uM rfl (uZ ?_);refine then_normal ?_
        go_roundw
        case rel => exact ⟨k + 1, bm46, rfl, by omega, by omega, hv⟩
        case measure => show n9 - (((k + 1 : Nat) : Int)).toNat < n9 - ((k : Int)).toNat; omega
       refine uG (.bool false) rfl (ex_eql rfl rfl rfl (qF hb44)) (uA rfl ?_);refine uW k43 (cF rfl ?_);refine sK fun _ k49 => rL (uM rfl ?_)
       by_cases hb50 : op = 0
       ·refine uG (.bool true) rfl (ex_eql rfl rfl rfl (qT hb50)) (uA rfl ?_)
        refine uW k49 (cT rfl ?_);refine rL (uM rfl ?_);refine uM rfl ?_;refine uG (.pointer (some ⟨b13, 0 + k, none⟩)) rfl (ex_index rfl rfl rfl (run_idx1 (k := k) Tryz.underlying188 t2es188 (by omega))) ?_;refine uL (.int .u8 ((M8[k]?.getD 0).toNat : Int)) rfl (run_load1 t2na5 (load8 (hv.get 0 rfl) (by omega))) (uM rfl ?_);refine uG (.int .u8 ((bitsB .and (M8[k]?.getD 0) (x2[k]?.getD 0)).toNat : Int)) rfl (ex_bitsB (c := (M8[k]?.getD 0)) (d := (x2[k]?.getD 0)) rfl rfl rfl rfl) ?_;refine uG (.pointer (some ⟨b13, 0 + k, none⟩)) rfl (ex_index rfl rfl rfl (run_idx1 (k := k) Tryz.underlying188 t2es188 (by omega))) ?_;refine sl_storeAt 0 (v := .int .u8 ((bitsB .and (M8[k]?.getD 0) (x2[k]?.getD 0)).toNat : Int)) (L' := (M8.set k (bitsB .and (M8[k]?.getD 0) (x2[k]?.getD 0))).map B8) tV (wn rfl) rfl rfl rfl hv rfl t2sz5 (by rw [List.length_map]; omega) rfl rfl (by rw [Nat.zero_add]; exact map_set8 M8 k (bitsB .and (M8[k]?.getD 0) (x2[k]?.getD 0))) (fun w51 hv => ?_);simp only [zO] at hv
        obtain ⟨bm52, hbm53, hbe54⟩ : ∃ q : List UInt8, q.length = M8.length ∧ (M8.set k (bitsB .and (M8[k]?.getD 0) (x2[k]?.getD 0))) = q := ⟨_, List.length_set, rfl⟩
        rw [hbe54] at hv;refine uZ (bN ?_);refine bN (tK k31 ?_);refine rL (uG (vI ((k + 1 : Nat) : Int)) rfl (ex_add rfl rfl rfl (by rw [i64_in (by omega)]; omega)) ?_);refine uM rfl (uZ ?_);refine then_normal ?_
        go_roundw
        case rel => exact ⟨k + 1, bm52, rfl, by omega, by omega, hv⟩
        case measure => show n9 - (((k + 1 : Nat) : Int)).toNat < n9 - ((k : Int)).toNat; omega
       refine uG (.bool false) rfl (ex_eql rfl rfl rfl (qF hb50)) (uA rfl ?_);refine uW k49 (cF rfl ?_);refine sK fun _ k55 => rL (uM rfl ?_)
       by_cases hb56 : op = 1
       ·refine uG (.bool true) rfl (ex_eql rfl rfl rfl (qT hb56)) (uA rfl ?_)
        refine uW k55 (cT rfl ?_);refine rL (uM rfl ?_);refine uM rfl ?_;refine uG (.pointer (some ⟨b13, 0 + k, none⟩)) rfl (ex_index rfl rfl rfl (run_idx1 (k := k) Tryz.underlying188 t2es188 (by omega))) ?_;refine uL (.int .u8 ((M8[k]?.getD 0).toNat : Int)) rfl (run_load1 t2na5 (load8 (hv.get 0 rfl) (by omega))) (uM rfl ?_);refine uG (.int .u8 ((bitsB .or (M8[k]?.getD 0) (x2[k]?.getD 0)).toNat : Int)) rfl (ex_bitsB (c := (M8[k]?.getD 0)) (d := (x2[k]?.getD 0)) rfl rfl rfl rfl) ?_;refine uG (.pointer (some ⟨b13, 0 + k, none⟩)) rfl (ex_index rfl rfl rfl (run_idx1 (k := k) Tryz.underlying188 t2es188 (by omega))) ?_;refine sl_storeAt 0 (v := .int .u8 ((bitsB .or (M8[k]?.getD 0) (x2[k]?.getD 0)).toNat : Int)) (L' := (M8.set k (bitsB .or (M8[k]?.getD 0) (x2[k]?.getD 0))).map B8) tV (wn rfl) rfl rfl rfl hv rfl t2sz5 (by rw [List.length_map]; omega) rfl rfl (by rw [Nat.zero_add]; exact map_set8 M8 k (bitsB .or (M8[k]?.getD 0) (x2[k]?.getD 0))) (fun w57 hv => ?_);simp only [zO] at hv
        obtain ⟨bm58, hbm59, hbe60⟩ : ∃ q : List UInt8, q.length = M8.length ∧ (M8.set k (bitsB .or (M8[k]?.getD 0) (x2[k]?.getD 0))) = q := ⟨_, List.length_set, rfl⟩
        rw [hbe60] at hv;refine uZ (bN ?_);refine bN (tK k31 ?_);refine rL (uG (vI ((k + 1 : Nat) : Int)) rfl (ex_add rfl rfl rfl (by rw [i64_in (by omega)]; omega)) ?_);refine uM rfl (uZ ?_);refine then_normal ?_
        go_roundw
        case rel => exact ⟨k + 1, bm58, rfl, by omega, by omega, hv⟩
        case measure => show n9 - (((k + 1 : Nat) : Int)).toNat < n9 - ((k : Int)).toNat; omega
       refine uG (.bool false) rfl (ex_eql rfl rfl rfl (qF hb56)) (uA rfl ?_);refine uW k55 (cF rfl ?_);refine sK fun _ k61 => rL (uM rfl ?_)
       by_cases hb62 : op = 2
       ·refine uG (.bool true) rfl (ex_eql rfl rfl rfl (qT hb62)) (uA rfl ?_)
        refine uW k61 (cT rfl ?_);refine rL (uM rfl ?_);refine uM rfl ?_;refine uG (.pointer (some ⟨b13, 0 + k, none⟩)) rfl (ex_index rfl rfl rfl (run_idx1 (k := k) Tryz.underlying188 t2es188 (by omega))) ?_;refine uL (.int .u8 ((M8[k]?.getD 0).toNat : Int)) rfl (run_load1 t2na5 (load8 (hv.get 0 rfl) (by omega))) (uM rfl ?_);refine uG (.int .u8 ((bitsB .xor (M8[k]?.getD 0) (x2[k]?.getD 0)).toNat : Int)) rfl (ex_bitsB (c := (M8[k]?.getD 0)) (d := (x2[k]?.getD 0)) rfl rfl rfl rfl) ?_;refine uG (.pointer (some ⟨b13, 0 + k, none⟩)) rfl (ex_index rfl rfl rfl (run_idx1 (k := k) Tryz.underlying188 t2es188 (by omega))) ?_;refine sl_storeAt 0 (v := .int .u8 ((bitsB .xor (M8[k]?.getD 0) (x2[k]?.getD 0)).toNat : Int)) (L' := (M8.set k (bitsB .xor (M8[k]?.getD 0) (x2[k]?.getD 0))).map B8) tV (wn rfl) rfl rfl rfl hv rfl t2sz5 (by rw [List.length_map]; omega) rfl rfl (by rw [Nat.zero_add]; exact map_set8 M8 k (bitsB .xor (M8[k]?.getD 0) (x2[k]?.getD 0))) (fun w63 hv => ?_);simp only [zO] at hv
        obtain ⟨bm64, hbm65, hbe66⟩ : ∃ q : List UInt8, q.length = M8.length ∧ (M8.set k (bitsB .xor (M8[k]?.getD 0) (x2[k]?.getD 0))) = q := ⟨_, List.length_set, rfl⟩
        rw [hbe66] at hv;refine uZ (bN ?_);refine bN (tK k31 ?_);refine rL (uG (vI ((k + 1 : Nat) : Int)) rfl (ex_add rfl rfl rfl (by rw [i64_in (by omega)]; omega)) ?_);refine uM rfl (uZ ?_);refine then_normal ?_
        go_roundw
        case rel => exact ⟨k + 1, bm64, rfl, by omega, by omega, hv⟩
        case measure => show n9 - (((k + 1 : Nat) : Int)).toNat < n9 - ((k : Int)).toNat; omega
       refine uG (.bool false) rfl (ex_eql rfl rfl rfl (qF hb62)) (uA rfl ?_);refine uW k61 (cF rfl ?_);refine kS (bN ?_);refine bN (tK k31 ?_);refine rL (uG (vI ((k + 1 : Nat) : Int)) rfl (ex_add rfl rfl rfl (by rw [i64_in (by omega)]; omega)) ?_);refine uM rfl (uZ ?_);refine then_normal ?_
       go_roundw
       case rel => exact ⟨k + 1, M8, rfl, by omega, by omega, hv⟩
       case measure => show n9 - (((k + 1 : Nat) : Int)).toNat < n9 - ((k : Int)).toNat; omega
      refine uG (.bool false) rfl (ex_lss rfl rfl rfl (qF hb36)) (uW k35 ?_);refine cF rfl (kS ?_);refine tK k34 (bB ?_);refine sK fun _ k67 => rL (uM rfl ?_)
      by_cases hb68 : op = 3
      ·refine uG (.bool true) rfl (ex_eql rfl rfl rfl (qT hb68)) (uA rfl ?_)
       refine uW k67 (cT rfl ?_);refine rL (uM rfl ?_);refine uM rfl (uM rfl ?_);refine uG (.int .u8 ((notB (0 : UInt8)).toNat : Int)) rfl (ex_notB (c := (0 : UInt8)) rfl rfl) ?_;refine uG (.pointer (some ⟨b13, 0 + k, none⟩)) rfl (ex_index rfl rfl rfl (run_idx1 (k := k) Tryz.underlying188 t2es188 (by omega))) ?_;refine sl_storeAt 0 (v := .int .u8 ((notB (0 : UInt8)).toNat : Int)) (L' := (M8.set k (notB (0 : UInt8))).map B8) tV (wn rfl) rfl rfl rfl hv rfl t2sz5 (by rw [List.length_map]; omega) rfl rfl (by rw [Nat.zero_add]; exact map_set8 M8 k (notB (0 : UInt8))) (fun w69 hv => ?_);simp only [zO] at hv
       obtain ⟨bm70, hbm71, hbe72⟩ : ∃ q : List UInt8, q.length = M8.length ∧ (M8.set k (notB (0 : UInt8))) = q := ⟨_, List.length_set, rfl⟩
       rw [hbe72] at hv;refine uZ (bN ?_);refine bN (tK k31 ?_);refine rL (uG (vI ((k + 1 : Nat) : Int)) rfl (ex_add rfl rfl rfl (by rw [i64_in (by omega)]; omega)) ?_);refine uM rfl (uZ ?_);refine then_normal ?_
       go_roundw
       case rel => exact ⟨k + 1, bm70, rfl, by omega, by omega, hv⟩
       case measure => show n9 - (((k + 1 : Nat) : Int)).toNat < n9 - ((k : Int)).toNat; omega
      refine uG (.bool false) rfl (ex_eql rfl rfl rfl (qF hb68)) (uA rfl ?_);refine uW k67 (cF rfl ?_);refine sK fun _ k73 => rL (uM rfl ?_)
      by_cases hb74 : (j : Int) = 0
      ·refine uG (.bool true) rfl (ex_eql rfl rfl rfl (qT hb74)) (uA rfl ?_)
       refine uW k73 (cT rfl ?_);refine rL (uM rfl ?_);refine uM rfl (uM rfl ?_);refine uG (.pointer (some ⟨b13, 0 + k, none⟩)) rfl (ex_index rfl rfl rfl (run_idx1 (k := k) Tryz.underlying188 t2es188 (by omega))) ?_;refine sl_storeAt 0 (v := .int .u8 0) (L' := (M8.set k (0 : UInt8)).map B8) tV (wn rfl) rfl rfl rfl hv rfl t2sz5 (by rw [List.length_map]; omega) rfl rfl (by rw [Nat.zero_add]; exact map_set8 M8 k (0 : UInt8)) (fun w75 hv => ?_);simp only [zO] at hv
       obtain ⟨bm76, hbm77, hbe78⟩ : ∃ q : List UInt8, q.length = M8.length ∧ (M8.set k (0 : UInt8)) = q := ⟨_, List.length_set, rfl⟩
       rw [hbe78] at hv;refine uZ (bN ?_);refine bN (tK k31 ?_);refine rL (uG (vI ((k + 1 : Nat) : Int)) rfl (ex_add rfl rfl rfl (by rw [i64_in (by omega)]; omega)) ?_);refine uM rfl (uZ ?_);refine then_normal ?_
       go_roundw
       case rel => exact ⟨k + 1, bm76, rfl, by omega, by omega, hv⟩
       case measure => show n9 - (((k + 1 : Nat) : Int)).toNat < n9 - ((k : Int)).toNat; omega
      refine uG (.bool false) rfl (ex_eql rfl rfl rfl (qF hb74)) (uA rfl ?_);refine uW k73 (cF rfl ?_);refine sK fun _ k79 => rL (uM rfl ?_)
      by_cases hb80 : op = 0
      ·refine uG (.bool true) rfl (ex_eql rfl rfl rfl (qT hb80)) (uA rfl ?_)
       refine uW k79 (cT rfl ?_);refine rL (uM rfl ?_);refine uM rfl ?_;refine uG (.pointer (some ⟨b13, 0 + k, none⟩)) rfl (ex_index rfl rfl rfl (run_idx1 (k := k) Tryz.underlying188 t2es188 (by omega))) ?_;refine uL (.int .u8 ((M8[k]?.getD 0).toNat : Int)) rfl (run_load1 t2na5 (load8 (hv.get 0 rfl) (by omega))) (uM rfl ?_);refine uG (.int .u8 ((bitsB .and (M8[k]?.getD 0) (0 : UInt8)).toNat : Int)) rfl (ex_bitsB (c := (M8[k]?.getD 0)) (d := (0 : UInt8)) rfl rfl rfl rfl) ?_;refine uG (.pointer (some ⟨b13, 0 + k, none⟩)) rfl (ex_index rfl rfl rfl (run_idx1 (k := k) Tryz.underlying188 t2es188 (by omega))) ?_;refine sl_storeAt 0 (v := .int .u8 ((bitsB .and (M8[k]?.getD 0) (0 : UInt8)).toNat : Int)) (L' := (M8.set k (bitsB .and (M8[k]?.getD 0) (0 : UInt8))).map B8) tV (wn rfl) rfl rfl rfl hv rfl t2sz5 (by rw [List.length_map]; omega) rfl rfl (by rw [Nat.zero_add]; exact map_set8 M8 k (bitsB .and (M8[k]?.getD 0) (0 : UInt8))) (fun w81 hv => ?_);simp only [zO] at hv
       obtain ⟨bm82, hbm83, hbe84⟩ : ∃ q : List UInt8, q.length = M8.length ∧ (M8.set k (bitsB .and (M8[k]?.getD 0) (0 : UInt8))) = q := ⟨_, List.length_set, rfl⟩
       rw [hbe84] at hv;refine uZ (bN ?_);refine bN (tK k31 ?_);refine rL (uG (vI ((k + 1 : Nat) : Int)) rfl (ex_add rfl rfl rfl (by rw [i64_in (by omega)]; omega)) ?_);refine uM rfl (uZ ?_);refine then_normal ?_
       go_roundw
       case rel => exact ⟨k + 1, bm82, rfl, by omega, by omega, hv⟩
       case measure => show n9 - (((k + 1 : Nat) : Int)).toNat < n9 - ((k : Int)).toNat; omega
      refine uG (.bool false) rfl (ex_eql rfl rfl rfl (qF hb80)) (uA rfl ?_);refine uW k79 (cF rfl ?_);refine sK fun _ k85 => rL (uM rfl ?_)
      by_cases hb86 : op = 1
      ·refine uG (.bool true) rfl (ex_eql rfl rfl rfl (qT hb86)) (uA rfl ?_)
       refine uW k85 (cT rfl ?_);refine rL (uM rfl ?_);refine uM rfl ?_;refine uG (.pointer (some ⟨b13, 0 + k, none⟩)) rfl (ex_index rfl rfl rfl (run_idx1 (k := k) Tryz.underlying188 t2es188 (by omega))) ?_;refine uL (.int .u8 ((M8[k]?.getD 0).toNat : Int)) rfl (run_load1 t2na5 (load8 (hv.get 0 rfl) (by omega))) (uM rfl ?_);refine uG (.int .u8 ((bitsB .or (M8[k]?.getD 0) (0 : UInt8)).toNat : Int)) rfl (ex_bitsB (c := (M8[k]?.getD 0)) (d := (0 : UInt8)) rfl rfl rfl rfl) ?_;refine uG (.pointer (some ⟨b13, 0 + k, none⟩)) rfl (ex_index rfl rfl rfl (run_idx1 (k := k) Tryz.underlying188 t2es188 (by omega))) ?_;refine sl_storeAt 0 (v := .int .u8 ((bitsB .or (M8[k]?.getD 0) (0 : UInt8)).toNat : Int)) (L' := (M8.set k (bitsB .or (M8[k]?.getD 0) (0 : UInt8))).map B8) tV (wn rfl) rfl rfl rfl hv rfl t2sz5 (by rw [List.length_map]; omega) rfl rfl (by rw [Nat.zero_add]; exact map_set8 M8 k (bitsB .or (M8[k]?.getD 0) (0 : UInt8))) (fun w87 hv => ?_);simp only [zO] at hv
       obtain ⟨bm88, hbm89, hbe90⟩ : ∃ q : List UInt8, q.length = M8.length ∧ (M8.set k (bitsB .or (M8[k]?.getD 0) (0 : UInt8))) = q := ⟨_, List.length_set, rfl⟩
       rw [hbe90] at hv;refine uZ (bN ?_);refine bN (tK k31 ?_);refine rL (uG (vI ((k + 1 : Nat) : Int)) rfl (ex_add rfl rfl rfl (by rw [i64_in (by omega)]; omega)) ?_);refine uM rfl (uZ ?_);refine then_normal ?_
       go_roundw
       case rel => exact ⟨k + 1, bm88, rfl, by omega, by omega, hv⟩
       case measure => show n9 - (((k + 1 : Nat) : Int)).toNat < n9 - ((k : Int)).toNat; omega
      refine uG (.bool false) rfl (ex_eql rfl rfl rfl (qF hb86)) (uA rfl ?_);refine uW k85 (cF rfl ?_);refine sK fun _ k91 => rL (uM rfl ?_)
      by_cases hb92 : op = 2
      ·refine uG (.bool true) rfl (ex_eql rfl rfl rfl (qT hb92)) (uA rfl ?_)
       refine uW k91 (cT rfl ?_);refine rL (uM rfl ?_);refine uM rfl ?_;refine uG (.pointer (some ⟨b13, 0 + k, none⟩)) rfl (ex_index rfl rfl rfl (run_idx1 (k := k) Tryz.underlying188 t2es188 (by omega))) ?_;refine uL (.int .u8 ((M8[k]?.getD 0).toNat : Int)) rfl (run_load1 t2na5 (load8 (hv.get 0 rfl) (by omega))) (uM rfl ?_);refine uG (.int .u8 ((bitsB .xor (M8[k]?.getD 0) (0 : UInt8)).toNat : Int)) rfl (ex_bitsB (c := (M8[k]?.getD 0)) (d := (0 : UInt8)) rfl rfl rfl rfl) ?_;refine uG (.pointer (some ⟨b13, 0 + k, none⟩)) rfl (ex_index rfl rfl rfl (run_idx1 (k := k) Tryz.underlying188 t2es188 (by omega))) ?_;refine sl_storeAt 0 (v := .int .u8 ((bitsB .xor (M8[k]?.getD 0) (0 : UInt8)).toNat : Int)) (L' := (M8.set k (bitsB .xor (M8[k]?.getD 0) (0 : UInt8))).map B8) tV (wn rfl) rfl rfl rfl hv rfl t2sz5 (by rw [List.length_map]; omega) rfl rfl (by rw [Nat.zero_add]; exact map_set8 M8 k (bitsB .xor (M8[k]?.getD 0) (0 : UInt8))) (fun w93 hv => ?_);simp only [zO] at hv
       obtain ⟨bm94, hbm95, hbe96⟩ : ∃ q : List UInt8, q.length = M8.length ∧ (M8.set k (bitsB .xor (M8[k]?.getD 0) (0 : UInt8))) = q := ⟨_, List.length_set, rfl⟩
       rw [hbe96] at hv;refine uZ (bN ?_);refine bN (tK k31 ?_);refine rL (uG (vI ((k + 1 : Nat) : Int)) rfl (ex_add rfl rfl rfl (by rw [i64_in (by omega)]; omega)) ?_);refine uM rfl (uZ ?_);refine then_normal ?_
       go_roundw
       case rel => exact ⟨k + 1, bm94, rfl, by omega, by omega, hv⟩
       case measure => show n9 - (((k + 1 : Nat) : Int)).toNat < n9 - ((k : Int)).toNat; omega
      refine uG (.bool false) rfl (ex_eql rfl rfl rfl (qF hb92)) (uA rfl ?_);refine uW k91 (cF rfl ?_);refine kS (bN ?_);refine bN (tK k31 ?_);refine rL (uG (vI ((k + 1 : Nat) : Int)) rfl (ex_add rfl rfl rfl (by rw [i64_in (by omega)]; omega)) ?_);refine uM rfl (uZ ?_);refine then_normal ?_
      go_roundw
      case rel => exact ⟨k + 1, M8, rfl, by omega, by omega, hv⟩
      case measure => show n9 - (((k + 1 : Nat) : Int)).toNat < n9 - ((k : Int)).toNat; omega
     refine uG (.bool false) rfl (ex_lss rfl rfl rfl (qF hb29)) (uW k28 ?_);refine sK fun _ k97 => cF rfl (xE ?_);refine tX (tX ?_);refine bH (bN ?_);refine tK k24 (rL ?_);refine uG (vI ((j + 1 : Nat) : Int)) rfl (ex_add rfl rfl rfl (by rw [i64_in (by omega)]; omega)) (uM rfl ?_);refine uZ (then_normal ?_)
     go_roundw
     case rel => exact ⟨j + 1, M8, rfl, by omega, by omega, hv⟩
     case measure => show xs.length - (((j + 1 : Nat) : Int)).toNat < xs.length - ((j : Int)).toNat; omega
   refine uG (.bool false) rfl (ex_lss rfl rfl rfl (qF hb22)) (uW k21 ?_);refine sK fun _ k98 => cF rfl (xE ?_);refine tX (tX ?_);refine bH (tK k18 ?_);refine sK fun _ k99 => rL (uM rfl ?_);refine uG (vS M9) rfl (ex_str Tryz.underlying188 Tryz.underlying5 Tryz.underlying9 rfl rfl (bytes_all (hv.get 0 rfl)) (by omega)) (uA rfl ?_);refine uW k99 (rR ?_);refine bR rfl rfl (⟨_, rfl, (hv.kp [] 0 1)⟩)
theorem cs4al38 : AL Tryz.prog 38 [vI 0, vS [], vI 0, vN] := fun w => by kernel_rfl
theorem cs4mk9 : (Tryz.prog.info? 9).map (fun i => (i.zero, i.size, i.bytes)) = some (some (vS []), 1, 16) := by kernel_rfl
theorem cs4el23 : Elem Tryz.prog 23 9 (vS []) 1 16 := elem_of Tryz.underlying23 cs4mk9 (by rfl) (by decide)
theorem cs4al81 : AL Tryz.prog 81 [vI 0, .bool false, vI 0, vI 0, vS [], vN, vN, vN] := fun w => by kernel_rfl
theorem cs4callable96 : Callable Tryz.prog 96 := cb Tryz.func96 (by kernel_rfl)
theorem cs4callable59 : Callable Tryz.prog 59 := cb Tryz.func59 (by kernel_rfl)
theorem cstrBitop (B : Base) (H : List Res) (w : World) (v t m s p wb : Nat) (va : Option Addr) (vc : Nat) (sv : Value) (clk : Int) (es : List (List UInt8 × Value)) (M : List (List UInt8 × Ver)) (hM : VM B es M) (hO : OkM M) (aa : Option Addr) (an ac : Nat) (wd d : List UInt8) (hwd : wd.length ≤ 9223372036854775807) (xa : Option Addr) (xc : Nat) (xs : List (List UInt8)) (hrx : RdV B [] xa (textCells xs)) (hmx : xs.length ≤ 10000) (hv : Inv B (Res.cell v [.iface 52 (vP t)] 79 :: txR t m s p wb va vc sv clk es :: H) w) :
  Calls Tryz.prog 67 #[.agg #[vP v, .slice aa an ac], vS wd, vS d, .slice xa xs.length xc] w fun e w' => ∃ C es' M' r cs, B.Le C ∧ e = .returned (.agg cs.toArray) ∧ RpAt C r cs ∧ VM C es' M' ∧ CmdR M M' r ∧ Inv C (Res.cell v [.iface 52 (vP t)] 79 :: txR t m s p wb va vc sv clk es' :: H) w' := by
 refine cW Tryz.func67 rfl Tryz.ntmps67 ?_;simp only [al];refine sK fun _ k1 => rL (sl_box (L := [vP v, .slice aa an ac]) tV (wn rfl) rfl rfl hv (fun w => by kernel_rfl) (fun b2 w3 hv => ?_));simp only [zP, po];refine sl_alloc tV (wn rfl) rfl hv cs4al38 (fun b4 w5 hv => ?_);refine uW k1 (sK fun _ k6 => ?_);refine rL (uM rfl ?_);refine sl_rowN (pv := #[(0, vS [65, 78, 68]), (1, vS [79, 82]), (2, vS [88, 79, 82]), (3, vS [78, 79, 84])]) (L := [vS [65, 78, 68], vS [79, 82], vS [88, 79, 82], vS [78, 79, 84]]) (e := 9) tV (wn rfl) rfl (by simp only [List.map_toArray, List.map_cons, List.map_nil]; rfl) hv (fun w => by kernel_rfl) (fun b7 w8 hv => ?_);simp only [zP, po]
 obtain ⟨K9, hK9, hv, hrkK9, hokK9, -⟩ := (hv.cellRow (n := 4) (c := 4) (size := 1) rfl (by decide) (by decide)).rowBy
 refine xC cs1callable95 rfl ((viewIs K9 _ _ wd _ 4 [([65, 78, 68] : List UInt8), ([79, 82] : List UInt8), ([88, 79, 82] : List UInt8), ([78, 79, 84] : List UInt8)] hrkK9 (Nat.le_of_ble_eq_true rfl) hwd hv).mono ?_) rfl;rintro e w10 ⟨r, rfl, -, hv⟩;refine ⟨_, rfl, uA rfl ?_⟩;refine uW k6 (sK fun _ k11 => ?_);refine sK fun _ k12 => rL (uM rfl ?_)
 by_cases hb13 : r < 0
 ·refine uG (.bool true) rfl (ex_lss rfl rfl rfl (qT hb13)) (uM rfl ?_)
  iterate 7 refine uP rfl ?_
  refine uK rfl (uW k12 ?_);refine cT rfl (sK fun _ k14 => ?_);refine rL (xC rscallable22 rfl ((viewWrong K9 _ _ 42 hv).mono ?_) rfl);rintro e w16 ⟨s15, rfl, hv⟩;refine ⟨_, rfl, ?_⟩;simp only [zP, po];refine xS 0 rfl hv rssz38 rfl (by exact ⟨rfl, rfl, rfl, rfl, trivial⟩) (fun w17 hv => ?_);simp only [zO, sp] at hv;refine uW k14 (rR ?_);refine tR (bC 0 rswd38 hv rfl rfl rfl rfl ?_);exact ⟨K9, es, M, (.mk 1 s15 0 []), _, hK9, rfl, rpAt_leaf, hM.more hK9, ⟨hO, fun _ => rfl⟩, (hv.kp [3, 3] 2 2)⟩
 refine uG (.bool false) rfl (ex_lss rfl rfl rfl (qF hb13)) (uM rfl ?_);refine uM rfl ?_
 by_cases hb18 : r = 3
 ·refine uG (.bool true) rfl (ex_eql rfl rfl rfl (qT hb18)) ?_
  refine uM rfl ?_;refine uM rfl ?_;refine uG (vI (xs.length : Int)) rfl (ex_len0 Tryz.underlying23 rfl rfl) ?_
  by_cases hb19 : (xs.length : Int) > 1
  ·refine uG (.bool true) rfl (ex_gtr rfl rfl rfl (qT hb19)) ?_
   refine uK rfl (uK rfl ?_);refine uW k12 (cT rfl ?_);refine sK fun _ k20 => rL (xC rscallable22 rfl ((viewWrong K9 _ _ 42 hv).mono ?_) rfl);rintro e w22 ⟨s21, rfl, hv⟩;refine ⟨_, rfl, ?_⟩;simp only [zP, po];refine xS 0 rfl hv rssz38 rfl (by exact ⟨rfl, rfl, rfl, rfl, trivial⟩) (fun w23 hv => ?_);simp only [zO, sp] at hv;refine uW k20 (rR ?_);refine tR (bC 0 rswd38 hv rfl rfl rfl rfl ?_);exact ⟨K9, es, M, (.mk 1 s21 0 []), _, hK9, rfl, rpAt_leaf, hM.more hK9, ⟨hO, fun _ => rfl⟩, (hv.kp [3, 3] 2 2)⟩
  refine uG (.bool false) rfl (ex_gtr rfl rfl rfl (qF hb19)) ?_;refine uK rfl (uK rfl ?_);refine uW k12 (cF rfl ?_);refine kS (tK k11 ?_);refine sK fun _ k24 => rL (uM rfl ?_);refine uG (vI (xs.length : Int)) rfl (ex_len0 Tryz.underlying23 rfl rfl) ?_;refine sl_makeRow (cap := xs.length) tV (wn rfl) rfl rfl rfl cs4el23 (by unfold maxLen; omega) (by omega) hv (fun b25 w26 hv => ?_);refine uA rfl (uW k24 ?_);refine sK fun _ k27 => sK fun _ k28 => rL (uM rfl ?_);refine uG (vI (xs.length : Int)) rfl (ex_len0 Tryz.underlying23 rfl rfl) (uM rfl ?_);refine uW k28 (bB ?_)
  gi_loopw [36, 10] (fun x36 x10 wr => ∃ (i : Nat) (D : Base) (ts : List (List UInt8)) (ra : Option Addr) (rc : Nat), x36 = vI i ∧ x10 = .slice ra ts.length rc ∧ B.Le D ∧ i ≤ xs.length ∧ ts.length = i ∧ (∀ x ∈ ts, x.length ≤ 4096) ∧ Inv D (Res.row 9 1 (.slice ra ts.length rc) ts.length (textCells ts) :: Res.cell b4 [vI 0, vS [], vI 0, vN] 38 :: Res.cell b2 [vP v, .slice aa an ac] 72 :: Res.cell v [.iface 52 (vP t)] 79 :: txR t m s p wb va vc sv clk es :: H) wr) (fun x36 x10 _ => xs.length - (intOf x36).toNat)
  case atStart => exact ⟨0, K9, [], _, _, rfl, rfl, hK9, Nat.zero_le _, rfl, fun x h => (by cases h), (((((hv.front 4 rfl).front 4 rfl).front 4 rfl).front 4 rfl).front 4 rfl)⟩
  case round =>
   obtain ⟨i, D, ts, ra, rc, rfl, rfl, hBD, hi, htl, hts, hv⟩ := hrel
   refine sK fun _ k30 => rL ?_
   by_cases hb31 : (i : Int) < (xs.length : Int)
   ·refine uG (.bool true) rfl (ex_lss rfl rfl rfl (qT hb31)) (uW k30 ?_)
    refine sK fun _ k32 => cT rfl (kS ?_);refine tK k32 (sK fun _ k33 => ?_);refine bB (sK fun _ k34 => ?_)
    have hv9 := hv
    obtain ⟨key, hkey⟩ : ∃ x, xs[i]? = some x := ⟨_, List.getElem?_eq_getElem (show i < xs.length by omega)⟩
    obtain ⟨xb, xo, had, hrdkey⟩ := text_reads hrx hkey
    subst had
    have hv := hv9
    clear hv9;refine rL (uG (.pointer (some ⟨xb, xo + i, none⟩)) rfl (ex_index rfl rfl rfl (run_idx1 (k := i) Tryz.underlying23 s9es23 (by omega))) ?_);refine uL _ rfl (run_load1 s9na9 (hrdkey _ _ _ hBD no_res hv 0 _ rfl)) (uA rfl ?_);refine uW k34 (sK fun _ k35 => ?_);refine rL (uF (vP b2) rfl (cs0fa72_0 _ _ _) ?_);refine uL _ rfl (run_load1 cs0na28 (hv.load 2 0 rfl rfl)) (uM rfl ?_);replace hv := hv.front 4 rfl;simp only [eS, eZ] at hv;replace hv := hv.front 4 rfl;simp only [eS, eZ] at hv;refine xC cs2callable44 rfl ((viewText D _ _ v t m s p wb va vc sv clk es M key (hM.more hBD) hv).mono ?_) rfl;rintro e w36 ⟨C, y, yp, yt, yz, ec, hC, rfl, hyv, hof, hv⟩;refine ⟨_, rfl, ?_⟩
    obtain ⟨pa, pc, sa, sc, za, zc, rfl, rfl, rfl, hokp, hrp, hoks, hrs, hokz, hrz⟩ := valAt_open hyv
    refine uM rfl (uE rfl ?_);refine uE rfl ?_;refine sl_alloc tV (wn rfl) rfl hv cs4al81 (fun b37 w38 hv => ?_);simp only [zP, po];refine xS 0 rfl hv x0sz81 rfl (by exact ⟨rfl, rfl, rfl, rfl, rfl, rfl, rfl, rfl, trivial⟩) (fun w39 hv => ?_);simp only [zO, sp] at hv;refine uA rfl (uW k35 ?_);refine sK fun _ k40 => sK fun _ k41 => rL (uM rfl ?_)
    by_cases hb42 : ec ≠ 0
    ·refine uG (.bool true) rfl (ex_neq rfl rfl rfl (qT hb42)) (uW k41 ?_)
     refine cT rfl (sK fun _ k43 => ?_);refine rL (uM rfl ?_);refine xC rscallable22 rfl ((viewWrong C _ _ ec hv).mono ?_) rfl;rintro e w45 ⟨s44, rfl, hv⟩;refine ⟨_, rfl, ?_⟩;simp only [zP, po];refine xS 4 rfl hv rssz38 rfl (by exact ⟨rfl, rfl, rfl, rfl, trivial⟩) (fun w46 hv => ?_);simp only [zS, zO, sp] at hv;refine uW k43 (rR ?_);refine tR (bZ ?_);refine tR (tR ?_);refine bZ (tR ?_);refine bC 4 rswd38 hv rfl rfl rfl rfl (⟨C, es, M, (.mk 1 s44 0 []), _, (hBD.trans hC), rfl, rpAt_leaf, hM.more (hBD.trans hC), ⟨hO, fun _ => rfl⟩, (hv.kp [2, 2] 2 4)⟩)
    refine uG (.bool false) rfl (ex_neq rfl rfl rfl (qF hb42)) (uW k41 ?_);refine cF rfl (kS ?_);refine tK k40 (rL ?_);refine uM rfl ?_;refine uF (.pointer (some ⟨b37, 3, none⟩)) rfl (x2fa81_3 _ _ _) ?_;refine uF (.pointer (some ⟨b37, 4, none⟩)) rfl (s12fa60_1 _ _ _) ?_;refine uL _ rfl (run_load1 s9na9 (hv.load 0 4 rfl rfl)) ?_;refine sl_rowOne (v := vS y.val.text) tV (wn rfl) rfl rfl hv cs4el23 rfl (fun b47 w48 hv => ?_);simp only [zP, po];replace hv := hv.front 4 rfl;simp only [eS, eZ] at hv;refine sl_append (news := [vS y.val.text]) tV (wn rfl) rfl rfl rfl cs4el23 hv (ok_full (by omega)) rfl (rd_all (hv.get 1 rfl)) (by intro u hu; simp only [List.mem_cons, List.not_mem_nil, or_false] at hu; rcases hu with rfl <;> rfl) (by unfold maxLen; omega) (by omega) (fun rv49 w52 hv => ?_)
    obtain ⟨ra50, rc51, rfl⟩ := row_slice hv.head
    refine uA rfl (uZ ?_);refine bN (tK k33 ?_);refine rL (uG (vI ((i + 1 : Nat) : Int)) rfl (ex_add rfl rfl rfl (by rw [i64_in (by omega)]; omega)) ?_);refine uM rfl (uZ ?_);refine then_normal ?_
    go_roundw
    case rel => exact ⟨i + 1, C, ts ++ [y.val.text], _, _, rfl, by rw [List.length_append, List.length_singleton], (hBD.trans hC), by omega, by rw [List.length_append, List.length_singleton, htl], fun x hx9 => ((List.mem_append.1 hx9).elim (hts x) fun h9 => by rw [List.mem_singleton.1 h9]; exact hO.text hof), by rw [List.length_append, List.length_singleton, ← text_snoc]; exact (hv.kp [4, 4, 6, 6, 4] 5 2)⟩
    case measure => show xs.length - (((i + 1 : Nat) : Int)).toNat < xs.length - ((i : Int)).toNat; omega
   refine uG (.bool false) rfl (ex_lss rfl rfl rfl (qF hb31)) (uW k30 ?_);refine sK fun _ k53 => cF rfl (xE ?_);refine tX (tX ?_);refine bH (tK k27 ?_);refine sK fun _ k54 => rL (uM rfl ?_);refine uM rfl ?_
   obtain ⟨E, hE, hv, hre, hoke, -⟩ := hv.rowBy
   refine xC cs4callable96 rfl ((cstrCombine E _ _ r ra rc ts hre (by omega) hts hv).mono ?_) rfl;rintro e w55 ⟨out, rfl, hv⟩;refine ⟨_, rfl, uA rfl ?_⟩;refine uW k54 (sK fun _ k56 => ?_);refine sK fun _ k57 => rL (uM rfl ?_)
   by_cases hb58 : out = ([] : List UInt8)
   ·refine uG (.bool true) rfl (ex_seql rfl rfl rfl (qT hb58)) (uW k57 ?_)
    refine cT rfl (sK fun _ k59 => ?_);refine rL (uL (.agg #[vP v, .slice aa an ac]) rfl (lM 1 cs2wd72 hv rfl rfl rfl rfl) ?_);refine uM rfl ?_;replace hv := hv.front 3 rfl;simp only [eS, eZ] at hv;replace hv := hv.front 3 rfl;simp only [eS, eZ] at hv;refine xC cs4callable59 rfl ((cstrDrop E _ _ v t m s p wb va vc sv clk es M (hM.more (hBD.trans hE)) hO aa an ac d hv).mono ?_) rfl;rintro e w65 ⟨G60, es64, Mk62, hG60, rfl, hMk61, hOk63, hv⟩;refine ⟨_, rfl, ?_⟩;simp only [zP, po];refine xC cs0callable48 rfl ((respInt G60 _ _ 0 hv).mono ?_) rfl;rintro e w66 ⟨rfl, hv⟩;refine ⟨_, rfl, ?_⟩;simp only [zP, po];refine xC cs2callable45 rfl ((viewDone G60 _ _ 0 2 0 ([] : List UInt8) (vN) rfl rfl hv).mono ?_) rfl;rintro e w67 ⟨xr, hxr, rfl, hv⟩;refine ⟨_, rfl, ?_⟩
    obtain rfl : xr = .agg #[vI 2, vS [], vI 0, vN] := hxr.elim (fun h => h.2) (fun h => absurd rfl h.1)
    simp only [zP, po];refine xS 2 rfl hv rssz38 rfl (by exact ⟨rfl, rfl, rfl, rfl, trivial⟩) (fun w68 hv => ?_);simp only [zS, zO, sp] at hv;refine uW k59 (rR ?_);refine tR (bC 2 rswd38 hv rfl rfl rfl rfl ?_);exact ⟨G60, es64, Mk62, (.mk 2 ([] : List UInt8) 0 []), _, ((hBD.trans hE).trans hG60), rfl, rpAt_leaf, hMk61.more (Base.Le.refl _), ⟨hOk63, fun h9 => absurd h9 isF_int⟩, (hv.kp [1, 1] 2 2)⟩
   refine uG (.bool false) rfl (ex_seql rfl rfl rfl (qF hb58)) (uW k57 ?_);refine cF rfl (kS ?_);refine tK k56 (sK fun _ k69 => ?_);refine rW mixed [4, 5, 8, 9, 10] [0,1,2,3,6,7,4,5,8,9,10] 78 rfl (by kernel_rfl) hv ?_;simp only [qm, opAt];refine dG (vP b2) rfl (ex_field rfl rfl (cs0fa72_0 _ _ _)) (dF _ rfl (fun hv => ex_load rfl rfl (run_load1 cs0na28 (hv.load 1 0 rfl rfl))) fun f70 hf70 => ?_);refine dM (vS d) rfl ?_;simp only [zP, po];refine dM (vS out) rfl (dM (vS out) rfl ?_);refine dG (vI (out.length : Int)) rfl (ex_lenStr Tryz.underlying9 rfl rfl) ?_;simp only [zP, po];refine dS rfl fun w71 hv => mC cs2callable58 rfl ((cstrText E _ _ out hv).mono ?_) rfl;rintro e w72 ⟨rfl, hv⟩;refine ⟨_, rfl, dV hv (fC (fun ww hv => hf70 ww (ex_load rfl rfl (run_load1 cs0na28 (hv.load 1 0 rfl rfl)))) fN) ?_⟩;refine dS rfl fun w73 hv => ?_;replace hv := hv.front 3 rfl;simp only [eS, eZ] at hv;replace hv := hv.front 3 rfl;simp only [eS, eZ] at hv;refine mC cs2callable18 rfl ((viewKeep E _ _ v t m s p wb va vc sv clk es M d (textV out) _ _ _ 0 (hM.more (hBD.trans hE)) (textV_at _) hv).mono ?_) rfl;rintro e w80 ⟨G75, es79, Mk78, e74, hG75, rfl, hMk77, hkp76, hv⟩;refine ⟨_, rfl, dV hv (fK rfl fN) ?_⟩;refine dS rfl fun w81 hv => mC cs0callable48 rfl ((respInt G75 _ _ (out.length : Int) hv).mono ?_) rfl;rintro e w82 ⟨rfl, hv⟩;refine ⟨_, rfl, dV hv (fK rfl fN) ?_⟩;simp only [zP, po];refine dS rfl fun w83 hv => mC cs2callable45 rfl ((viewDone G75 _ _ e74 2 (out.length : Int) ([] : List UInt8) (vN) rfl rfl hv).mono ?_) rfl
   rintro e w84 ⟨xr, hxr, rfl, hv⟩
   rcases hxr with ⟨hec0, rfl⟩ | ⟨hec0, s85, rfl⟩
   ·refine ⟨_, rfl, dV hv (fK rfl fN) ?_⟩
    refine dS rfl fun w86 hv => mS 2 rfl hv rssz38 rfl (by exact ⟨rfl, rfl, rfl, rfl, trivial⟩) (fun w87 hv => ?_);simp only [zS, zO, sp] at hv;refine dV hv (fK rfl fN) (dE fun w88 hv => ?_);simp only [zP, po];refine tK k69 (rR ?_);refine bC 2 rswd38 hv rfl rfl rfl rfl (⟨G75, es79, Mk78, (.mk 2 ([] : List UInt8) (out.length : Int) []), _, ((hBD.trans hE).trans hG75), rfl, rpAt_leaf, hMk77.more (Base.Le.refl _), DoneR.keep (r0 := (.mk 2 ([] : List UInt8) (out.length : Int) [])) hO hkp76 (.inl ⟨by omega, rfl⟩) isF_int, (hv.kp [1, 1] 2 2)⟩)
   refine ⟨_, rfl, dV hv (fK rfl fN) ?_⟩;refine dS rfl fun w89 hv => mS 2 rfl hv rssz38 rfl (by exact ⟨rfl, rfl, rfl, rfl, trivial⟩) (fun w90 hv => ?_);simp only [zS, zO, sp] at hv;refine dV hv (fK rfl fN) (dE fun w91 hv => ?_);simp only [zP, po];refine tK k69 (rR ?_);refine bC 2 rswd38 hv rfl rfl rfl rfl (⟨G75, es79, Mk78, (.mk 1 s85 0 []), _, ((hBD.trans hE).trans hG75), rfl, rpAt_leaf, hMk77.more (Base.Le.refl _), DoneR.keep (r0 := (.mk 2 ([] : List UInt8) (out.length : Int) [])) hO hkp76 (.inr ⟨by omega, rfl⟩) isF_int, (hv.kp [1, 1] 2 2)⟩)
 refine uG (.bool false) rfl (ex_eql rfl rfl rfl (qF hb18)) ?_;refine uM rfl ?_
 iterate 3 refine uP rfl ?_
 refine uK rfl (uK rfl ?_);refine uW k12 (cF rfl ?_);refine kS (tK k11 ?_);refine sK fun _ k92 => rL (uM rfl ?_);refine uG (vI (xs.length : Int)) rfl (ex_len0 Tryz.underlying23 rfl rfl) ?_;refine sl_makeRow (cap := xs.length) tV (wn rfl) rfl rfl rfl cs4el23 (by unfold maxLen; omega) (by omega) hv (fun b93 w94 hv => ?_);refine uA rfl (uW k92 ?_);refine sK fun _ k95 => sK fun _ k96 => rL (uM rfl ?_);refine uG (vI (xs.length : Int)) rfl (ex_len0 Tryz.underlying23 rfl rfl) (uM rfl ?_);refine uW k96 (bB ?_)
 gi_loopw [36, 10] (fun x36 x10 wr => ∃ (i : Nat) (D : Base) (ts : List (List UInt8)) (ra : Option Addr) (rc : Nat), x36 = vI i ∧ x10 = .slice ra ts.length rc ∧ B.Le D ∧ i ≤ xs.length ∧ ts.length = i ∧ (∀ x ∈ ts, x.length ≤ 4096) ∧ Inv D (Res.row 9 1 (.slice ra ts.length rc) ts.length (textCells ts) :: Res.cell b4 [vI 0, vS [], vI 0, vN] 38 :: Res.cell b2 [vP v, .slice aa an ac] 72 :: Res.cell v [.iface 52 (vP t)] 79 :: txR t m s p wb va vc sv clk es :: H) wr) (fun x36 x10 _ => xs.length - (intOf x36).toNat)
 case atStart => exact ⟨0, K9, [], _, _, rfl, rfl, hK9, Nat.zero_le _, rfl, fun x h => (by cases h), (((((hv.front 4 rfl).front 4 rfl).front 4 rfl).front 4 rfl).front 4 rfl)⟩
 case round =>
  obtain ⟨i, D, ts, ra, rc, rfl, rfl, hBD, hi, htl, hts, hv⟩ := hrel
  refine sK fun _ k98 => rL ?_
  by_cases hb99 : (i : Int) < (xs.length : Int)
  ·refine uG (.bool true) rfl (ex_lss rfl rfl rfl (qT hb99)) (uW k98 ?_)
   refine sK fun _ k100 => cT rfl (kS ?_);refine tK k100 (sK fun _ k101 => ?_);refine bB (sK fun _ k102 => ?_)
   have hv9 := hv
   obtain ⟨key, hkey⟩ : ∃ x, xs[i]? = some x := ⟨_, List.getElem?_eq_getElem (show i < xs.length by omega)⟩
   obtain ⟨xb, xo, had, hrdkey⟩ := text_reads hrx hkey
   subst had
   have hv := hv9
   clear hv9;refine rL (uG (.pointer (some ⟨xb, xo + i, none⟩)) rfl (ex_index rfl rfl rfl (run_idx1 (k := i) Tryz.underlying23 s9es23 (by omega))) ?_);refine uL _ rfl (run_load1 s9na9 (hrdkey _ _ _ hBD no_res hv 0 _ rfl)) (uA rfl ?_);refine uW k102 (sK fun _ k103 => ?_);refine rL (uF (vP b2) rfl (cs0fa72_0 _ _ _) ?_);refine uL _ rfl (run_load1 cs0na28 (hv.load 2 0 rfl rfl)) (uM rfl ?_);replace hv := hv.front 4 rfl;simp only [eS, eZ] at hv;replace hv := hv.front 4 rfl;simp only [eS, eZ] at hv;refine xC cs2callable44 rfl ((viewText D _ _ v t m s p wb va vc sv clk es M key (hM.more hBD) hv).mono ?_) rfl;rintro e w104 ⟨C, y, yp, yt, yz, ec, hC, rfl, hyv, hof, hv⟩;refine ⟨_, rfl, ?_⟩
   obtain ⟨pa, pc, sa, sc, za, zc, rfl, rfl, rfl, hokp, hrp, hoks, hrs, hokz, hrz⟩ := valAt_open hyv
   refine uM rfl (uE rfl ?_);refine uE rfl ?_;refine sl_alloc tV (wn rfl) rfl hv cs4al81 (fun b105 w106 hv => ?_);simp only [zP, po];refine xS 0 rfl hv x0sz81 rfl (by exact ⟨rfl, rfl, rfl, rfl, rfl, rfl, rfl, rfl, trivial⟩) (fun w107 hv => ?_);simp only [zO, sp] at hv;refine uA rfl (uW k103 ?_);refine sK fun _ k108 => sK fun _ k109 => rL (uM rfl ?_)
   by_cases hb110 : ec ≠ 0
   ·refine uG (.bool true) rfl (ex_neq rfl rfl rfl (qT hb110)) (uW k109 ?_)
    refine cT rfl (sK fun _ k111 => ?_);refine rL (uM rfl ?_);refine xC rscallable22 rfl ((viewWrong C _ _ ec hv).mono ?_) rfl;rintro e w113 ⟨s112, rfl, hv⟩;refine ⟨_, rfl, ?_⟩;simp only [zP, po];refine xS 4 rfl hv rssz38 rfl (by exact ⟨rfl, rfl, rfl, rfl, trivial⟩) (fun w114 hv => ?_);simp only [zS, zO, sp] at hv;refine uW k111 (rR ?_);refine tR (bZ ?_);refine tR (tR ?_);refine bZ (tR ?_);refine bC 4 rswd38 hv rfl rfl rfl rfl (⟨C, es, M, (.mk 1 s112 0 []), _, (hBD.trans hC), rfl, rpAt_leaf, hM.more (hBD.trans hC), ⟨hO, fun _ => rfl⟩, (hv.kp [2, 2] 2 4)⟩)
   refine uG (.bool false) rfl (ex_neq rfl rfl rfl (qF hb110)) (uW k109 ?_);refine cF rfl (kS ?_);refine tK k108 (rL ?_);refine uM rfl ?_;refine uF (.pointer (some ⟨b105, 3, none⟩)) rfl (x2fa81_3 _ _ _) ?_;refine uF (.pointer (some ⟨b105, 4, none⟩)) rfl (s12fa60_1 _ _ _) ?_;refine uL _ rfl (run_load1 s9na9 (hv.load 0 4 rfl rfl)) ?_;refine sl_rowOne (v := vS y.val.text) tV (wn rfl) rfl rfl hv cs4el23 rfl (fun b115 w116 hv => ?_);simp only [zP, po];replace hv := hv.front 4 rfl;simp only [eS, eZ] at hv;refine sl_append (news := [vS y.val.text]) tV (wn rfl) rfl rfl rfl cs4el23 hv (ok_full (by omega)) rfl (rd_all (hv.get 1 rfl)) (by intro u hu; simp only [List.mem_cons, List.not_mem_nil, or_false] at hu; rcases hu with rfl <;> rfl) (by unfold maxLen; omega) (by omega) (fun rv117 w120 hv => ?_)
   obtain ⟨ra118, rc119, rfl⟩ := row_slice hv.head
   refine uA rfl (uZ ?_);refine bN (tK k101 ?_);refine rL (uG (vI ((i + 1 : Nat) : Int)) rfl (ex_add rfl rfl rfl (by rw [i64_in (by omega)]; omega)) ?_);refine uM rfl (uZ ?_);refine then_normal ?_
   go_roundw
   case rel => exact ⟨i + 1, C, ts ++ [y.val.text], _, _, rfl, by rw [List.length_append, List.length_singleton], (hBD.trans hC), by omega, by rw [List.length_append, List.length_singleton, htl], fun x hx9 => ((List.mem_append.1 hx9).elim (hts x) fun h9 => by rw [List.mem_singleton.1 h9]; exact hO.text hof), by rw [List.length_append, List.length_singleton, ← text_snoc]; exact (hv.kp [4, 4, 6, 6, 4] 5 2)⟩
   case measure => show xs.length - (((i + 1 : Nat) : Int)).toNat < xs.length - ((i : Int)).toNat; omega
  refine uG (.bool false) rfl (ex_lss rfl rfl rfl (qF hb99)) (uW k98 ?_);refine sK fun _ k121 => cF rfl (xE ?_);refine tX (tX ?_);refine bH (tK k95 ?_);refine sK fun _ k122 => rL (uM rfl ?_);refine uM rfl ?_
  obtain ⟨E, hE, hv, hre, hoke, -⟩ := hv.rowBy
  refine xC cs4callable96 rfl ((cstrCombine E _ _ r ra rc ts hre (by omega) hts hv).mono ?_) rfl;rintro e w123 ⟨out, rfl, hv⟩;refine ⟨_, rfl, uA rfl ?_⟩;refine uW k122 (sK fun _ k124 => ?_);refine sK fun _ k125 => rL (uM rfl ?_)
  by_cases hb126 : out = ([] : List UInt8)
  ·refine uG (.bool true) rfl (ex_seql rfl rfl rfl (qT hb126)) (uW k125 ?_)
   refine cT rfl (sK fun _ k127 => ?_);refine rL (uL (.agg #[vP v, .slice aa an ac]) rfl (lM 1 cs2wd72 hv rfl rfl rfl rfl) ?_);refine uM rfl ?_;replace hv := hv.front 3 rfl;simp only [eS, eZ] at hv;replace hv := hv.front 3 rfl;simp only [eS, eZ] at hv;refine xC cs4callable59 rfl ((cstrDrop E _ _ v t m s p wb va vc sv clk es M (hM.more (hBD.trans hE)) hO aa an ac d hv).mono ?_) rfl;rintro e w133 ⟨G128, es132, Mk130, hG128, rfl, hMk129, hOk131, hv⟩;refine ⟨_, rfl, ?_⟩;simp only [zP, po];refine xC cs0callable48 rfl ((respInt G128 _ _ 0 hv).mono ?_) rfl;rintro e w134 ⟨rfl, hv⟩;refine ⟨_, rfl, ?_⟩;simp only [zP, po];refine xC cs2callable45 rfl ((viewDone G128 _ _ 0 2 0 ([] : List UInt8) (vN) rfl rfl hv).mono ?_) rfl;rintro e w135 ⟨xr, hxr, rfl, hv⟩;refine ⟨_, rfl, ?_⟩
   obtain rfl : xr = .agg #[vI 2, vS [], vI 0, vN] := hxr.elim (fun h => h.2) (fun h => absurd rfl h.1)
   simp only [zP, po];refine xS 2 rfl hv rssz38 rfl (by exact ⟨rfl, rfl, rfl, rfl, trivial⟩) (fun w136 hv => ?_);simp only [zS, zO, sp] at hv;refine uW k127 (rR ?_);refine tR (bC 2 rswd38 hv rfl rfl rfl rfl ?_);exact ⟨G128, es132, Mk130, (.mk 2 ([] : List UInt8) 0 []), _, ((hBD.trans hE).trans hG128), rfl, rpAt_leaf, hMk129.more (Base.Le.refl _), ⟨hOk131, fun h9 => absurd h9 isF_int⟩, (hv.kp [1, 1] 2 2)⟩
  refine uG (.bool false) rfl (ex_seql rfl rfl rfl (qF hb126)) (uW k125 ?_);refine cF rfl (kS ?_);refine tK k124 (sK fun _ k137 => ?_);refine rW mixed [4, 5, 8, 9, 10] [0,1,2,3,6,7,4,5,8,9,10] 78 rfl (by kernel_rfl) hv ?_;simp only [qm, opAt];refine dG (vP b2) rfl (ex_field rfl rfl (cs0fa72_0 _ _ _)) (dF _ rfl (fun hv => ex_load rfl rfl (run_load1 cs0na28 (hv.load 1 0 rfl rfl))) fun f138 hf138 => ?_);refine dM (vS d) rfl ?_;simp only [zP, po];refine dM (vS out) rfl (dM (vS out) rfl ?_);refine dG (vI (out.length : Int)) rfl (ex_lenStr Tryz.underlying9 rfl rfl) ?_;simp only [zP, po];refine dS rfl fun w139 hv => mC cs2callable58 rfl ((cstrText E _ _ out hv).mono ?_) rfl;rintro e w140 ⟨rfl, hv⟩;refine ⟨_, rfl, dV hv (fC (fun ww hv => hf138 ww (ex_load rfl rfl (run_load1 cs0na28 (hv.load 1 0 rfl rfl)))) fN) ?_⟩;refine dS rfl fun w141 hv => ?_;replace hv := hv.front 3 rfl;simp only [eS, eZ] at hv;replace hv := hv.front 3 rfl;simp only [eS, eZ] at hv;refine mC cs2callable18 rfl ((viewKeep E _ _ v t m s p wb va vc sv clk es M d (textV out) _ _ _ 0 (hM.more (hBD.trans hE)) (textV_at _) hv).mono ?_) rfl;rintro e w148 ⟨G143, es147, Mk146, e142, hG143, rfl, hMk145, hkp144, hv⟩;refine ⟨_, rfl, dV hv (fK rfl fN) ?_⟩;refine dS rfl fun w149 hv => mC cs0callable48 rfl ((respInt G143 _ _ (out.length : Int) hv).mono ?_) rfl;rintro e w150 ⟨rfl, hv⟩;refine ⟨_, rfl, dV hv (fK rfl fN) ?_⟩;simp only [zP, po];refine dS rfl fun w151 hv => mC cs2callable45 rfl ((viewDone G143 _ _ e142 2 (out.length : Int) ([] : List UInt8) (vN) rfl rfl hv).mono ?_) rfl
  rintro e w152 ⟨xr, hxr, rfl, hv⟩
  rcases hxr with ⟨hec0, rfl⟩ | ⟨hec0, s153, rfl⟩
  ·refine ⟨_, rfl, dV hv (fK rfl fN) ?_⟩
   refine dS rfl fun w154 hv => mS 2 rfl hv rssz38 rfl (by exact ⟨rfl, rfl, rfl, rfl, trivial⟩) (fun w155 hv => ?_);simp only [zS, zO, sp] at hv;refine dV hv (fK rfl fN) (dE fun w156 hv => ?_);simp only [zP, po];refine tK k137 (rR ?_);refine bC 2 rswd38 hv rfl rfl rfl rfl (⟨G143, es147, Mk146, (.mk 2 ([] : List UInt8) (out.length : Int) []), _, ((hBD.trans hE).trans hG143), rfl, rpAt_leaf, hMk145.more (Base.Le.refl _), DoneR.keep (r0 := (.mk 2 ([] : List UInt8) (out.length : Int) [])) hO hkp144 (.inl ⟨by omega, rfl⟩) isF_int, (hv.kp [1, 1] 2 2)⟩)
  refine ⟨_, rfl, dV hv (fK rfl fN) ?_⟩;refine dS rfl fun w157 hv => mS 2 rfl hv rssz38 rfl (by exact ⟨rfl, rfl, rfl, rfl, trivial⟩) (fun w158 hv => ?_);simp only [zS, zO, sp] at hv;refine dV hv (fK rfl fN) (dE fun w159 hv => ?_);simp only [zP, po];refine tK k137 (rR ?_);refine bC 2 rswd38 hv rfl rfl rfl rfl (⟨G143, es147, Mk146, (.mk 1 s153 0 []), _, ((hBD.trans hE).trans hG143), rfl, rpAt_leaf, hMk145.more (Base.Le.refl _), DoneR.keep (r0 := (.mk 2 ([] : List UInt8) (out.length : Int) [])) hO hkp144 (.inr ⟨by omega, rfl⟩) isF_int, (hv.kp [1, 1] 2 2)⟩)
end Go.Proofs.YtmpackidbgfoiaaGreatDoor
