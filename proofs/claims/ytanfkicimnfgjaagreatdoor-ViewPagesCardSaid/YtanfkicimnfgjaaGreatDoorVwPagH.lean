/- pentimentoref02: class. -/
import Derived.Test.YtanfkicimnfgjaaGreatDoorVwPagB
import Derived.Test.YtanfkicimnfgjaaGreatDoorVwPagG
import Derived.Test.YtanfkicimnfgjaaGreatDoorVwPagE
import Derived.Test.YtanfkicimnfgjaaGreatDoorVwPagD
import Derived.Test.YtanfkicimnfgjaaGreatDoorRows
set_option maxRecDepth 100000
set_option maxHeartbeats 16000000
set_option synthInstance.maxSize 4096
set_option synthInstance.maxHeartbeats 400000
namespace Go.Proofs.YtanfkicimnfgjaaGreatDoor
open Go.RowKit Go.Pm
theorem clsR_go {q : List UInt8} {c i i1 hi j2 lo : Nat} {s r : Bool} (h : i < q.length) (h1 : litS q i = (lo, i1 + 1)) (h2 : highR q (i1 + 1) lo = (hi, j2)) (hr : r = (s || decide (min lo hi ≤ c ∧ c ≤ max lo hi))) : clsR q c i s = clsR q c j2 r := by
 rw [clsR_step q h, h1]; simp only [h2]; rw [hr]
theorem litS_esc {q : List UInt8} {i : Nat} (h : chr q i = 92) (h1 : i + 1 < q.length) : litS q i = (chr q (i + 1), i + 2) := if_pos ⟨h, h1⟩
theorem litS_no {q : List UInt8} {i : Nat} (h : ¬ (chr q i = 92 ∧ i + 1 < q.length)) : litS q i = (chr q i, i + 1) := if_neg h
theorem highR_yes {q : List UInt8} {i lo : Nat} (h : i + 2 < q.length) (h1 : chr q (i + 1) = 45) : highR q (i + 1) lo = litS q (i + 2) := if_pos ⟨h, h1⟩
theorem highR_no {q : List UInt8} {i lo : Nat} (h : ¬ (i + 1 < q.length ∧ chr q i = 45)) : highR q i lo = (lo, i) := if_neg h
theorem refClass (B : Base) (H : List Res) (w : World) (q : List UInt8) (hp : q.length ≤ 1000000) (c : Nat) (_ : c < 256) (hv : Inv B H w) :
  Calls Tryz.prog 34 #[vS q, .int .u8 (c : Int)] w fun e w' => e = .returned (.bool (clsFit q c)) ∧ Inv B H w' := by
 refine cW Tryz.func34 rfl Tryz.ntmps34 ?_
 simp only [al]
 refine sK fun _ k1 => rL (uA rfl ?_)
 refine uW k1 (sK fun _ k2 => ?_)
 refine rL (uA rfl ?_)
 refine uW k2 (sK fun _ k3 => ?_)
 refine rL (uA rfl ?_)
 refine uW k3 (sK fun K4 k4 => ?_)
 have hJ4 : ∀ (ot : Bool) (i0 : Nat) (j10 j11 j12 j13 j14 j15 j16 j17 : Value) (w5 : World), (clsFit q c = (clsR q c i0 false != ot)) → (i0 ≤ q.length) → Inv B (H) w5 → K4 { tmps := (vS q :: Value.int .u8 (c : Int) :: undef :: undef :: Value.bool false :: vI i0 :: Value.bool ot :: undef :: undef :: undef :: j10 :: j11 :: j12 :: j13 :: j14 :: j15 :: j16 :: j17 :: undef :: undef :: undef :: undef :: undef :: undef :: undef :: undef :: undef :: undef :: undef :: undef :: undef :: undef :: undef :: undef :: undef :: undef :: undef :: undef :: undef :: undef :: undef :: undef :: undef :: undef :: undef :: undef :: undef :: undef :: undef :: undef :: undef :: undef :: undef :: undef :: undef :: undef :: undef :: undef :: undef :: undef :: undef :: undef :: undef :: undef :: undef :: undef :: undef :: undef :: undef :: undef :: undef :: undef :: undef :: undef :: undef :: undef :: undef :: undef :: undef :: undef :: undef :: undef :: undef :: undef :: undef :: undef :: undef :: undef :: undef :: undef :: undef :: []).toArray, defers := [] } w5 := by
  intro ot i0 j10 j11 j12 j13 j14 j15 j16 j17 w5 hcf hi0 hv
  refine k4 _ _ (sK fun _ k6 => ?_)
  refine rL (uA rfl ?_)
  refine uW k6 (sK fun _ k7 => ?_)
  refine bB ?_
  gi_loopw [5, 7] (fun x5 x7 wr => ∃ (i : Nat) (s : Bool), x5 = vI i ∧ x7 = .bool s ∧ i ≤ q.length ∧ clsR q c i0 false = clsR q c i s ∧ Inv B H wr) (fun x5 x7 _ => q.length - (intOf x5).toNat)
  case atStart => exact ⟨i0, false, rfl, rfl, hi0, rfl, hv⟩
  case round =>
   obtain ⟨i, s, rfl, rfl, hi, hcl, hv⟩ := hrel
   refine sK fun _ k9 => sK fun _ k10 => rL (uM rfl ?_)
   refine uM rfl ?_
   refine uG (vI (q.length : Int)) rfl (ex_lenStr Tryz.underlying9 rfl rfl) ?_
   by_cases hb11 : (i : Int) < (q.length : Int)
   ·refine uG (.bool true) rfl (ex_lss rfl rfl rfl (qT hb11)) (uW k10 ?_)
    refine cT rfl (kS ?_)
    refine tK k9 (bB ?_)
    refine sK fun K12 k12 => ?_
    have hJ12 : ∀ (i1 : Nat) (j22 j23 j24 j25 j26 j27 j28 j29 j30 j31 j32 j33 j34 : Value) (w13 : World), (litS q i = (chr q i1, i1 + 1)) → (i ≤ i1 ∧ i1 < q.length) → Inv B (H) w13 → K12 { tmps := (vS q :: Value.int .u8 (c : Int) :: undef :: undef :: Value.bool false :: vI i1 :: Value.bool ot :: Value.bool s :: u8 :: u9 :: j10 :: j11 :: j12 :: j13 :: j14 :: j15 :: j16 :: j17 :: vI i :: vS q :: vI (q.length : Int) :: Value.bool true :: j22 :: j23 :: j24 :: j25 :: j26 :: j27 :: j28 :: j29 :: j30 :: j31 :: j32 :: j33 :: j34 :: u35 :: u36 :: u37 :: u38 :: u39 :: u40 :: u41 :: u42 :: u43 :: u44 :: u45 :: u46 :: u47 :: u48 :: u49 :: u50 :: u51 :: u52 :: u53 :: u54 :: u55 :: u56 :: u57 :: u58 :: u59 :: u60 :: u61 :: u62 :: u63 :: u64 :: u65 :: u66 :: u67 :: u68 :: u69 :: u70 :: u71 :: u72 :: u73 :: u74 :: u75 :: u76 :: u77 :: u78 :: u79 :: u80 :: u81 :: u82 :: u83 :: u84 :: u85 :: u86 :: u87 :: undef :: undef :: undef :: []).toArray, defers := [] } w13 := by
     intro i1 j22 j23 j24 j25 j26 j27 j28 j29 j30 j31 j32 j33 j34 w13 hl1 hi1 hv
     refine k12 _ _ (sK fun _ k14 => ?_)
     refine rL (uM rfl ?_)
     refine uM rfl ?_
     obtain ⟨y15, hy15⟩ : ∃ y, q[i1]? = some y := ⟨_, List.getElem?_eq_getElem (show i1 < q.length by omega)⟩
     have hy15c := chr_at hy15
     refine uG (.int .u8 (chr q (i1) : Int)) rfl ((by rw [hy15c]; exact ex_sidx0 Tryz.underlying9 rfl rfl rfl hy15)) (uA rfl ?_)
     refine uW k14 (sK fun _ k16 => ?_)
     refine rL (uM rfl ?_)
     refine uA rfl (uW k16 ?_)
     refine sK fun _ k17 => rL (uM rfl ?_)
     refine uG (vI ((i1 + 1 : Nat) : Int)) rfl (ex_add rfl rfl rfl (by rw [i64_in (by omega)]; omega)) (uA rfl ?_)
     refine uW k17 (sK fun K18 k18 => ?_)
     have hJ18 : ∀ (hi : Nat) (j2 : Nat) (j41 j42 j43 j44 j45 j46 j47 j48 j49 j50 j51 j52 j53 j54 j55 j56 j57 j58 j59 j60 j61 j62 j63 j64 j65 j66 j67 j68 j69 j70 j71 : Value) (w19 : World), (highR q (i1 + 1) (chr q i1) = (hi, j2)) → (i1 < j2 ∧ j2 ≤ q.length) → (hi < 256) → Inv B (H) w19 → K18 { tmps := (vS q :: Value.int .u8 (c : Int) :: undef :: undef :: Value.bool false :: vI j2 :: Value.bool ot :: Value.bool s :: Value.int .u8 (chr q (i1) : Int) :: Value.int .u8 (hi : Int) :: j10 :: j11 :: j12 :: j13 :: j14 :: j15 :: j16 :: j17 :: vI i :: vS q :: vI (q.length : Int) :: Value.bool true :: j22 :: j23 :: j24 :: j25 :: j26 :: j27 :: j28 :: j29 :: j30 :: j31 :: j32 :: j33 :: j34 :: vS q :: vI i1 :: Value.int .u8 (chr q (i1) : Int) :: Value.int .u8 (chr q (i1) : Int) :: vI i1 :: vI ((i1 + 1 : Nat) : Int) :: j41 :: j42 :: j43 :: j44 :: j45 :: j46 :: j47 :: j48 :: j49 :: j50 :: j51 :: j52 :: j53 :: j54 :: j55 :: j56 :: j57 :: j58 :: j59 :: j60 :: j61 :: j62 :: j63 :: j64 :: j65 :: j66 :: j67 :: j68 :: j69 :: j70 :: j71 :: u72 :: u73 :: u74 :: u75 :: u76 :: u77 :: u78 :: u79 :: u80 :: u81 :: u82 :: u83 :: u84 :: u85 :: u86 :: u87 :: undef :: undef :: undef :: []).toArray, defers := [] } w19 := by
      intro hi j2 j41 j42 j43 j44 j45 j46 j47 j48 j49 j50 j51 j52 j53 j54 j55 j56 j57 j58 j59 j60 j61 j62 j63 j64 j65 j66 j67 j68 j69 j70 j71 w19 hh hj2 hh6 hv
      refine k18 _ _ (sK fun K20 k20 => ?_)
      have hJ20 : ∀ (a : Nat) (b : Nat) (j72 j73 j74 j75 j76 : Value) (w21 : World), (a = min (chr q i1) hi) → (b = max (chr q i1) hi) → Inv B (H) w21 → K20 { tmps := (vS q :: Value.int .u8 (c : Int) :: undef :: undef :: Value.bool false :: vI j2 :: Value.bool ot :: Value.bool s :: Value.int .u8 (a : Int) :: Value.int .u8 (b : Int) :: j10 :: j11 :: j12 :: j13 :: j14 :: j15 :: j16 :: j17 :: vI i :: vS q :: vI (q.length : Int) :: Value.bool true :: j22 :: j23 :: j24 :: j25 :: j26 :: j27 :: j28 :: j29 :: j30 :: j31 :: j32 :: j33 :: j34 :: vS q :: vI i1 :: Value.int .u8 (chr q (i1) : Int) :: Value.int .u8 (chr q (i1) : Int) :: vI i1 :: vI ((i1 + 1 : Nat) : Int) :: j41 :: j42 :: j43 :: j44 :: j45 :: j46 :: j47 :: j48 :: j49 :: j50 :: j51 :: j52 :: j53 :: j54 :: j55 :: j56 :: j57 :: j58 :: j59 :: j60 :: j61 :: j62 :: j63 :: j64 :: j65 :: j66 :: j67 :: j68 :: j69 :: j70 :: j71 :: j72 :: j73 :: j74 :: j75 :: j76 :: u77 :: u78 :: u79 :: u80 :: u81 :: u82 :: u83 :: u84 :: u85 :: u86 :: u87 :: undef :: undef :: undef :: []).toArray, defers := [] } w21 := by
       intro a b j72 j73 j74 j75 j76 w21 ha hb hv
       refine k20 _ _ (rL ?_)
       refine uM rfl (uM rfl ?_)
       cases s
       ·refine uM rfl ?_
        refine uM rfl ?_
        by_cases hb22 : (c : Int) ≥ (a : Int)
        ·refine uG (.bool true) rfl (ex_geq rfl rfl rfl (qT hb22)) ?_
         refine uM rfl ?_
         refine uM rfl ?_
         refine uM rfl ?_
         by_cases hb23 : (c : Int) ≤ (b : Int)
         ·refine uG (.bool true) rfl (ex_leq rfl rfl rfl (qT hb23)) ?_
          refine uK rfl (uK rfl ?_)
          refine uA rfl (uZ ?_)
          refine bN (then_normal ?_)
          go_roundw
          case rel => exact ⟨j2, true, rfl, rfl, hj2.2, hcl.trans (clsR_go (by omega) hl1 hh (by first | rfl | (rw [qT (by omega)]; rfl) | (rw [qF (by omega)]; rfl))), hv⟩
          case measure => show q.length - ((j2 : Int)).toNat < q.length - ((i : Int)).toNat; omega
         refine uG (.bool false) rfl (ex_leq rfl rfl rfl (qF hb23)) ?_
         refine uK rfl (uK rfl ?_)
         refine uA rfl (uZ ?_)
         refine bN (then_normal ?_)
         go_roundw
         case rel => exact ⟨j2, false, rfl, rfl, hj2.2, hcl.trans (clsR_go (by omega) hl1 hh (by first | rfl | (rw [qT (by omega)]; rfl) | (rw [qF (by omega)]; rfl))), hv⟩
         case measure => show q.length - ((j2 : Int)).toNat < q.length - ((i : Int)).toNat; omega
        refine uG (.bool false) rfl (ex_geq rfl rfl rfl (qF hb22)) ?_
        refine uM rfl ?_
        iterate 3 refine uP rfl ?_
        refine uK rfl (uK rfl ?_)
        refine uA rfl (uZ ?_)
        refine bN (then_normal ?_)
        go_roundw
        case rel => exact ⟨j2, false, rfl, rfl, hj2.2, hcl.trans (clsR_go (by omega) hl1 hh (by first | rfl | (rw [qT (by omega)]; rfl) | (rw [qF (by omega)]; rfl))), hv⟩
        case measure => show q.length - ((j2 : Int)).toNat < q.length - ((i : Int)).toNat; omega
       iterate 8 refine uP rfl ?_
       refine uK rfl (uA rfl ?_)
       refine uZ (bN ?_)
       refine then_normal ?_
       go_roundw
       case rel => exact ⟨j2, true, rfl, rfl, hj2.2, hcl.trans (clsR_go (by omega) hl1 hh (by first | rfl | (rw [qT (by omega)]; rfl) | (rw [qF (by omega)]; rfl))), hv⟩
       case measure => show q.length - ((j2 : Int)).toNat < q.length - ((i : Int)).toNat; omega
      refine sK fun _ k24 => rL (uM rfl ?_)
      refine uM rfl ?_
      by_cases hb25 : (chr q (i1) : Int) > (hi : Int)
      ·refine uG (.bool true) rfl (ex_gtr rfl rfl rfl (qT hb25)) (uW k24 ?_)
       refine cT rfl (rL ?_)
       refine uM rfl (uM rfl ?_)
       refine uA rfl (uA rfl ?_)
       refine uZ (then_normal (hJ20 hi (chr q (i1)) _ _ _ _ _ _ (by omega) (by omega) hv))
      refine uG (.bool false) rfl (ex_gtr rfl rfl rfl (qF hb25)) (uW k24 ?_)
      refine cF rfl (kS ?_)
      exact then_normal (hJ20 (chr q (i1)) hi _ _ _ _ _ _ (by omega) (by omega) hv)
     refine sK fun _ k26 => rL (uM rfl ?_)
     refine uG (vI ((i1 + 2 : Nat) : Int)) rfl (ex_add rfl rfl rfl (by rw [i64_in (by omega)]; omega)) (uM rfl ?_)
     refine uG (vI (q.length : Int)) rfl (ex_lenStr Tryz.underlying9 rfl rfl) ?_
     by_cases hb27 : ((i1 + 2 : Nat) : Int) < (q.length : Int)
     ·refine uG (.bool true) rfl (ex_lss rfl rfl rfl (qT hb27)) (uM rfl ?_)
      refine uM rfl ?_
      refine uM rfl ?_
      obtain ⟨y28, hy28⟩ : ∃ y, q[i1 + 1]? = some y := ⟨_, List.getElem?_eq_getElem (show i1 + 1 < q.length by omega)⟩
      have hy28c := chr_at hy28
      refine uG (.int .u8 (chr q (i1 + 1) : Int)) rfl ((by rw [hy28c]; exact ex_sidx0 Tryz.underlying9 rfl rfl rfl hy28)) ?_
      by_cases hb29 : (chr q (i1 + 1) : Int) = 45
      ·refine uG (.bool true) rfl (ex_eql rfl rfl rfl (qT hb29)) (uK rfl ?_)
       refine uW k26 (cT rfl ?_)
       refine sK fun _ k30 => rL (uM rfl ?_)
       refine uG (vI ((i1 + 2 : Nat) : Int)) rfl (ex_add rfl rfl rfl (by rw [i64_in (by omega)]; omega)) (uA rfl ?_)
       refine uW k30 (sK fun _ k31 => ?_)
       refine sK fun _ k32 => rL (uM rfl ?_)
       refine uM rfl ?_
       obtain ⟨y33, hy33⟩ : ∃ y, q[i1 + 2]? = some y := ⟨_, List.getElem?_eq_getElem (show i1 + 2 < q.length by omega)⟩
       have hy33c := chr_at hy33
       refine uG (.int .u8 (chr q (i1 + 2) : Int)) rfl ((by rw [hy33c]; exact ex_sidx0 Tryz.underlying9 rfl rfl rfl hy33)) ?_
       by_cases hb34 : (chr q (i1 + 2) : Int) = 92
       ·refine uG (.bool true) rfl (ex_eql rfl rfl rfl (qT hb34)) (uM rfl ?_)
        refine uM rfl ?_
        refine uG (vI ((i1 + 3 : Nat) : Int)) rfl (ex_add rfl rfl rfl (by rw [i64_in (by omega)]; omega)) ?_
        refine uM rfl ?_
        refine uG (vI (q.length : Int)) rfl (ex_lenStr Tryz.underlying9 rfl rfl) ?_
        by_cases hb35 : ((i1 + 3 : Nat) : Int) < (q.length : Int)
        ·refine uG (.bool true) rfl (ex_lss rfl rfl rfl (qT hb35)) (uK rfl ?_)
         refine uW k32 (cT rfl ?_)
         refine rL (uM rfl ?_)
         refine uG (vI ((i1 + 3 : Nat) : Int)) rfl (ex_add rfl rfl rfl (by rw [i64_in (by omega)]; omega)) (uA rfl ?_)
         refine uW k31 (sK fun _ k36 => ?_)
         refine rL (uM rfl ?_)
         refine uM rfl ?_
         obtain ⟨y37, hy37⟩ : ∃ y, q[i1 + 3]? = some y := ⟨_, List.getElem?_eq_getElem (show i1 + 3 < q.length by omega)⟩
         have hy37c := chr_at hy37
         refine uG (.int .u8 (chr q (i1 + 3) : Int)) rfl ((by rw [hy37c]; exact ex_sidx0 Tryz.underlying9 rfl rfl rfl hy37)) (uA rfl ?_)
         refine uW k36 (rL ?_)
         refine uM rfl ?_
         refine uG (vI ((i1 + 4 : Nat) : Int)) rfl (ex_add rfl rfl rfl (by rw [i64_in (by omega)]; omega)) (uA rfl ?_)
         refine uZ (then_normal (hJ18 (chr q (i1 + 3)) (i1 + 4) _ _ _ _ _ _ _ _ _ _ _ _ _ _ _ _ _ _ _ _ _ _ _ _ _ _ _ _ _ _ _ _ ((highR_yes (by omega) (by omega)).trans (litS_esc (by omega) (by omega))) (⟨by omega, by omega⟩) (chr256 q _) hv))
        refine uG (.bool false) rfl (ex_lss rfl rfl rfl (qF hb35)) (uK rfl ?_)
        refine uW k32 (cF rfl ?_)
        refine kS (tK k31 ?_)
        refine sK fun _ k38 => rL (uM rfl ?_)
        refine uM rfl ?_
        refine uG (.int .u8 (chr q (i1 + 2) : Int)) rfl ((by rw [hy33c]; exact ex_sidx0 Tryz.underlying9 rfl rfl rfl hy33)) (uA rfl ?_)
        refine uW k38 (rL ?_)
        refine uM rfl ?_
        refine uG (vI ((i1 + 3 : Nat) : Int)) rfl (ex_add rfl rfl rfl (by rw [i64_in (by omega)]; omega)) (uA rfl ?_)
        refine uZ (then_normal (hJ18 (chr q (i1 + 2)) (i1 + 3) _ _ _ _ _ _ _ _ _ _ _ _ _ _ _ _ _ _ _ _ _ _ _ _ _ _ _ _ _ _ _ _ ((highR_yes (by omega) (by omega)).trans (litS_no (by omega))) (⟨by omega, by omega⟩) (chr256 q _) hv))
       refine uG (.bool false) rfl (ex_eql rfl rfl rfl (qF hb34)) (uM rfl ?_)
       iterate 5 refine uP rfl ?_
       refine uK rfl (uW k32 ?_)
       refine cF rfl (kS ?_)
       refine tK k31 (sK fun _ k39 => ?_)
       refine rL (uM rfl ?_)
       refine uM rfl ?_
       refine uG (.int .u8 (chr q (i1 + 2) : Int)) rfl ((by rw [hy33c]; exact ex_sidx0 Tryz.underlying9 rfl rfl rfl hy33)) (uA rfl ?_)
       refine uW k39 (rL ?_)
       refine uM rfl ?_
       refine uG (vI ((i1 + 3 : Nat) : Int)) rfl (ex_add rfl rfl rfl (by rw [i64_in (by omega)]; omega)) (uA rfl ?_)
       refine uZ (then_normal (hJ18 (chr q (i1 + 2)) (i1 + 3) _ _ _ _ _ _ _ _ _ _ _ _ _ _ _ _ _ _ _ _ _ _ _ _ _ _ _ _ _ _ _ _ ((highR_yes (by omega) (by omega)).trans (litS_no (by omega))) (⟨by omega, by omega⟩) (chr256 q _) hv))
      refine uG (.bool false) rfl (ex_eql rfl rfl rfl (qF hb29)) (uK rfl ?_)
      refine uW k26 (cF rfl ?_)
      refine kS (then_normal (hJ18 (chr q i1) (i1 + 1) _ _ _ _ _ _ _ _ _ _ _ _ _ _ _ _ _ _ _ _ _ _ _ _ _ _ _ _ _ _ _ _ (highR_no (by omega)) (⟨by omega, by omega⟩) (chr256 q _) hv))
     refine uG (.bool false) rfl (ex_lss rfl rfl rfl (qF hb27)) (uM rfl ?_)
     iterate 4 refine uP rfl ?_
     refine uK rfl (uW k26 ?_)
     refine cF rfl (kS ?_)
     exact then_normal (hJ18 (chr q i1) (i1 + 1) _ _ _ _ _ _ _ _ _ _ _ _ _ _ _ _ _ _ _ _ _ _ _ _ _ _ _ _ _ _ _ _ (highR_no (by omega)) (⟨by omega, by omega⟩) (chr256 q _) hv)
    refine sK fun _ k40 => rL (uM rfl ?_)
    refine uM rfl ?_
    obtain ⟨y41, hy41⟩ : ∃ y, q[i]? = some y := ⟨_, List.getElem?_eq_getElem (show i < q.length by omega)⟩
    have hy41c := chr_at hy41
    refine uG (.int .u8 (chr q (i) : Int)) rfl ((by rw [hy41c]; exact ex_sidx0 Tryz.underlying9 rfl rfl rfl hy41)) ?_
    by_cases hb42 : (chr q (i) : Int) = 92
    ·refine uG (.bool true) rfl (ex_eql rfl rfl rfl (qT hb42)) (uM rfl ?_)
     refine uM rfl ?_
     refine uG (vI ((i + 1 : Nat) : Int)) rfl (ex_add rfl rfl rfl (by rw [i64_in (by omega)]; omega)) ?_
     refine uM rfl ?_
     refine uG (vI (q.length : Int)) rfl (ex_lenStr Tryz.underlying9 rfl rfl) ?_
     by_cases hb43 : ((i + 1 : Nat) : Int) < (q.length : Int)
     ·refine uG (.bool true) rfl (ex_lss rfl rfl rfl (qT hb43)) (uK rfl ?_)
      refine uW k40 (cT rfl ?_)
      refine rL (uM rfl ?_)
      refine uG (vI ((i + 1 : Nat) : Int)) rfl (ex_add rfl rfl rfl (by rw [i64_in (by omega)]; omega)) (uA rfl ?_)
      refine uZ (then_normal (hJ12 (i + 1) _ _ _ _ _ _ _ _ _ _ _ _ _ _ (litS_esc (by omega) (by omega)) (⟨by omega, by omega⟩) hv))
     refine uG (.bool false) rfl (ex_lss rfl rfl rfl (qF hb43)) (uK rfl ?_)
     refine uW k40 (cF rfl ?_)
     refine kS (then_normal (hJ12 i _ _ _ _ _ _ _ _ _ _ _ _ _ _ (litS_no (by omega)) (⟨by omega, by omega⟩) hv))
    refine uG (.bool false) rfl (ex_eql rfl rfl rfl (qF hb42)) (uM rfl ?_)
    iterate 5 refine uP rfl ?_
    refine uK rfl (uW k40 ?_)
    refine cF rfl (kS ?_)
    exact then_normal (hJ12 i _ _ _ _ _ _ _ _ _ _ _ _ _ _ (litS_no (by omega)) (⟨by omega, by omega⟩) hv)
   refine uG (.bool false) rfl (ex_lss rfl rfl rfl (qF hb11)) (uW k10 ?_)
   refine cF rfl (xE ?_)
   refine tX (tX ?_)
   refine bH (tK k7 ?_)
   refine sK fun _ k44 => rL (uM rfl ?_)
   refine uM rfl ?_
   refine uG (.bool (s != ot)) rfl (ex_bneq Tryz.underlying4 rfl rfl rfl rfl) (uA rfl ?_)
   refine uW k44 (rR ?_)
   refine bR rfl rfl ?_
   rw [hcf, hcl, clsR_end q (by omega)]; exact ⟨rfl, hv⟩
 refine sK fun _ k45 => rL (uM rfl ?_)
 refine uG (vI (q.length : Int)) rfl (ex_lenStr Tryz.underlying9 rfl rfl) ?_
 by_cases hb46 : (q.length : Int) > 0
 ·refine uG (.bool true) rfl (ex_gtr rfl rfl rfl (qT hb46)) (uM rfl ?_)
  refine uM rfl ?_
  obtain ⟨y47, hy47⟩ : ∃ y, q[0]? = some y := ⟨_, List.getElem?_eq_getElem (show 0 < q.length by omega)⟩
  have hy47c := chr_at hy47
  refine uG (.int .u8 (chr q (0) : Int)) rfl ((by rw [hy47c]; exact ex_sidx0 Tryz.underlying9 rfl rfl rfl hy47)) ?_
  by_cases hb48 : (chr q (0) : Int) = 94
  ·refine uG (.bool true) rfl (ex_eql rfl rfl rfl (qT hb48)) (uK rfl ?_)
   refine uW k45 (cT rfl ?_)
   refine sK fun _ k49 => rL (uA rfl ?_)
   refine uW k49 (rL ?_)
   refine uA rfl (uZ ?_)
   exact then_normal (hJ4 true 1 _ _ _ _ _ _ _ _ _ (by unfold clsFit; rw [if_pos ⟨by omega, by omega⟩]; simp) (by omega) hv)
  refine uG (.bool false) rfl (ex_eql rfl rfl rfl (qF hb48)) (uK rfl ?_)
  refine uW k45 (cF rfl ?_)
  refine kS (then_normal (hJ4 false 0 _ _ _ _ _ _ _ _ _ (by unfold clsFit; rw [if_neg (by omega)]; simp) (by omega) hv))
 refine uG (.bool false) rfl (ex_gtr rfl rfl rfl (qF hb46)) (uM rfl ?_)
 iterate 3 refine uP rfl ?_
 refine uK rfl (uW k45 ?_)
 refine cF rfl (kS ?_)
 exact then_normal (hJ4 false 0 _ _ _ _ _ _ _ _ _ (by unfold clsFit; rw [if_neg (by omega)]; simp) (by omega) hv)
end Go.Proofs.YtanfkicimnfgjaaGreatDoor
