/- pentimentoref02: Match. -/
import Derived.Test.YtanfkicimnfgjaaGreatDoorVwPagB
import Derived.Test.YtanfkicimnfgjaaGreatDoorVwPagH
import Derived.Test.YtanfkicimnfgjaaGreatDoorVwPagG
import Derived.Test.YtanfkicimnfgjaaGreatDoorVwPagE
import Derived.Test.YtanfkicimnfgjaaGreatDoorVwPagD
import Derived.Test.YtanfkicimnfgjaaGreatDoorRows
set_option maxRecDepth 100000
set_option maxHeartbeats 16000000
set_option synthInstance.maxSize 4096
set_option synthInstance.maxHeartbeats 400000
namespace Go.Proofs.YtanfkicimnfgjaaGreatDoor
open Go.RowKit Go.Pm
def bV (l : List Bool) : List Value := l.map fun b => .bool b
theorem bV_len (l : List Bool) : (bV l).length = l.length := List.length_map _
theorem bV_get {l : List Bool} {k : Nat} {b : Bool} (h : l[k]? = some b) : (bV l)[k]? = some (.bool b) := by unfold bV; rw [List.getElem?_map, h]; rfl
theorem bV_set {l : List Bool} {k : Nat} {b : Bool} : (bV l).set k (.bool b) = bV (l.set k b) := by unfold bV; rw [List.map_set]
theorem bV_new (n : Nat) : List.replicate n (Value.bool false) = bV (List.replicate n false) := by unfold bV; rw [List.map_replicate]
theorem r2cmk4 : (Tryz.prog.info? 4).map (fun i => (i.zero, i.size, i.bytes)) = some (some (.bool false), 1, 1) := by kernel_rfl
theorem r2ces90 (w : World) : (sizeOf (Tryz.prog.elem 90)).run Tryz.prog w = .ok 1 w := by kernel_rfl
theorem r2csz4 : (Tryz.prog.info? 4).map (·.size) = some 1 := by kernel_rfl
theorem r2ccallable33 : Callable Tryz.prog 33 := cb Tryz.func33 (by kernel_rfl)
theorem r2cna4 (w : World) : (isAgg 4).run Tryz.prog w = .ok false w := by kernel_rfl
theorem r2ccallable34 : Callable Tryz.prog 34 := cb Tryz.func34 (by kernel_rfl)
theorem refMatch (B : Base) (H : List Res) (w : World) (p : List UInt8) (hp : p.length ≤ 1000000) (s : List UInt8) (hs : s.length ≤ 1000000) (hv : Inv B H w) :
  Calls Tryz.prog 18 #[vS p, vS s] w fun e w' => ∃ r, e = .returned (.bool r) ∧ (r = true ↔ MatchP (divS p true 0) s) ∧ Inv B H w' := by
 refine cW Tryz.func18 rfl Tryz.ntmps18 ?_
 simp only [al]
 refine sK fun _ k1 => rL (xA (.bool false) rfl ?_)
 simp only [zP, po]
 refine wK k1 (sK fun _ k2 => ?_)
 refine rL (xM (vS s) rfl ?_)
 simp only [zP, po]
 refine xG (vI (s.length : Int)) rfl (ex_lenStr Tryz.underlying9 rfl rfl) ?_
 simp only [zP, po]
 refine xG (vI ((s.length + 1 : Nat) : Int)) rfl (ex_add rfl rfl rfl (by rw [i64_in (by omega)]; omega)) ?_
 simp only [zP, po]
 refine sl_make1 (len := (s.length + 1 : Nat)) (cap := (s.length + 1 : Nat)) tV (wn rfl) rfl rfl rfl Tryz.underlying90 r2cmk4 rfl (by omega) (by unfold maxLen; omega) (by omega) hv (fun b3 w4 hv => ?_)
 rw [bV_new] at hv
 simp only [zP, po]
 refine xA (.slice (some ⟨b3, 0, none⟩) (s.length + 1) (s.length + 1)) rfl ?_
 simp only [zP, po]
 refine wK k2 (sK fun _ k5 => ?_)
 refine rL (xM (.slice (some ⟨b3, 0, none⟩) (s.length + 1) (s.length + 1)) rfl ?_)
 simp only [zP, po]
 refine xG (.pointer (some ⟨b3, 0 + 0, none⟩)) rfl (ex_index rfl rfl rfl (run_idx1 (k := 0) Tryz.underlying90 r2ces90 (by omega))) ?_
 simp only [zP, po]
 refine sl_storeAt 0 (v := .bool true) (L' := bV ((List.replicate (s.length + 1) false).set 0 true)) tV (wn rfl) rfl rfl rfl hv rfl r2csz4 (by rw [bV_len]; have := List.length_replicate (n := s.length + 1) (a := false); omega) rfl rfl (by rw [Nat.zero_add]; exact bV_set) (fun w6 hv => ?_)
 simp only [zO] at hv
 simp only [zP, po]
 refine wK k5 (sK fun _ k7 => ?_)
 refine sK fun _ k8 => rL (xA (vI 0) rfl ?_)
 simp only [zP, po]
 refine wK k8 (bB ?_)
 gi_loopw [5, 6] (fun x5 x6 wr => ∃ (i b : Nat) (q : List Bool), x5 = .slice (some ⟨b, 0, none⟩) (s.length + 1) (s.length + 1) ∧ x6 = vI i ∧ i ≤ p.length ∧ RInv p s i q ∧ Inv B (Res.cell b (bV q) 4 :: H) wr) (fun x5 x6 _ => p.length - (intOf x6).toNat)
 case atStart => exact ⟨0, b3, _, rfl, rfl, Nat.zero_le _, rinv_start p s, hv⟩
 case round =>
  obtain ⟨i, b, q, rfl, rfl, hi, hri, hv⟩ := hrel
  refine sK fun _ k10 => sK fun _ k11 => rL (xM (vI i) rfl ?_)
  simp only [zP, po]
  refine xM (vS p) rfl ?_
  simp only [zP, po]
  refine xG (vI (p.length : Int)) rfl (ex_lenStr Tryz.underlying9 rfl rfl) ?_
  simp only [zP, po]
  by_cases hb12 : (i : Int) < (p.length : Int)
  ·refine xG (.bool true) rfl (ex_lss rfl rfl rfl (qT hb12)) ?_
   simp only [zP, po]
   refine wK k11 (cT rfl ?_)
   refine kS (tK k10 ?_)
   refine sK fun _ k13 => bB (sK fun _ k14 => ?_)
   refine rL (xM (vS s) rfl ?_)
   simp only [zP, po]
   refine xG (vI (s.length : Int)) rfl (ex_lenStr Tryz.underlying9 rfl rfl) ?_
   simp only [zP, po]
   refine xG (vI ((s.length + 1 : Nat) : Int)) rfl (ex_add rfl rfl rfl (by rw [i64_in (by omega)]; omega)) ?_
   simp only [zP, po]
   refine sl_make1 (len := (s.length + 1 : Nat)) (cap := (s.length + 1 : Nat)) tV (wn rfl) rfl rfl rfl Tryz.underlying90 r2cmk4 rfl (by omega) (by unfold maxLen; omega) (by omega) hv (fun b15 w16 hv => ?_)
   rw [bV_new] at hv
   simp only [zP, po]
   refine xA (.slice (some ⟨b15, 0, none⟩) (s.length + 1) (s.length + 1)) rfl ?_
   simp only [zP, po]
   refine wK k14 (sK fun _ k17 => ?_)
   refine rL (xA (vI (-1)) rfl ?_)
   simp only [zP, po]
   refine wK k17 (sK fun _ k18 => ?_)
   refine sK fun _ k19 => rL (xM (vS p) rfl ?_)
   simp only [zP, po]
   refine xM (vI i) rfl ?_
   simp only [zP, po]
   obtain ⟨y20, hy20⟩ : ∃ y, p[i]? = some y := ⟨_, List.getElem?_eq_getElem (show i < p.length by omega)⟩
   have hy20c := chr_at hy20
   refine xG (.int .u8 (chr p (i) : Int)) rfl ((by rw [hy20c]; exact ex_sidx0 Tryz.underlying9 rfl rfl rfl hy20)) ?_
   simp only [zP, po]
   by_cases hb21 : (chr p (i) : Int) = 91
   ·refine xG (.bool true) rfl (ex_eql rfl rfl rfl (qT hb21)) ?_
    simp only [zP, po]
    refine wK k19 (cT rfl ?_)
    refine rL (xM (vS p) rfl ?_)
    simp only [zP, po]
    refine xM (vI i) rfl ?_
    simp only [zP, po]
    refine xC r2ccallable33 rfl ((refEnd B _ _ p hp i (by omega) hv).mono ?_) rfl
    rintro e w22 ⟨k, rfl, hk, hv⟩
    refine ⟨_, rfl, ?_⟩
    rcases hk with ⟨rfl, hk⟩ | ⟨qq, ws, rfl, hk⟩
    ·simp only [zP, po]
     refine xA (vI (-1)) rfl ?_
     simp only [zP, po]
     refine wK k18 (sK fun _ k23 => ?_)
     refine rL (xM (vS p) rfl ?_)
     simp only [zP, po]
     refine xM (vI i) rfl ?_
     simp only [zP, po]
     refine xG (.int .u8 (chr p (i) : Int)) rfl ((by rw [hy20c]; exact ex_sidx0 Tryz.underlying9 rfl rfl rfl hy20)) ?_
     simp only [zP, po]
     refine xA (.int .u8 (chr p (i) : Int)) rfl ?_
     simp only [zP, po]
     refine wK k23 (sK fun _ k24 => ?_)
     refine rL (xM (vS p) rfl ?_)
     simp only [zP, po]
     refine xM (vI i) rfl ?_
     simp only [zP, po]
     refine xG (.int .u8 (chr p (i) : Int)) rfl ((by rw [hy20c]; exact ex_sidx0 Tryz.underlying9 rfl rfl rfl hy20)) ?_
     simp only [zP, po]
     refine xG (.bool false) rfl (ex_eql rfl rfl rfl (qF (by omega))) ?_
     simp only [zP, po]
     refine xM (.bool false) rfl ?_
     simp only [zP, po]
     refine yP rfl ?_
     simp only [zP, po]
     refine yP rfl ?_
     simp only [zP, po]
     refine yP rfl ?_
     simp only [zP, po]
     refine yP rfl ?_
     simp only [zP, po]
     refine yP rfl ?_
     simp only [zP, po]
     refine xK false (.bool false) rfl ?_
     simp only [zP, po]
     refine xA (.bool false) rfl ?_
     simp only [zP, po]
     refine wK k24 (sK fun K25 k25 => ?_)
     have hJ25 : ∀ (k : Int) (lit : Nat) (esc : Bool) (x : Part) (j50 j51 j52 j53 j54 : Value) (w26 : World), (PStep p i k lit esc x) → (i < p.length) → Inv B (Res.cell b15 (bV (List.replicate (s.length + 1) false)) 4 :: Res.cell b (bV q) 4 :: H) w26 → K25 { tmps := (vS p :: vS s :: undef :: undef :: Value.bool false :: Value.slice (some ⟨b, 0, none⟩) (s.length + 1) (s.length + 1) :: vI i :: Value.slice (some ⟨b15, 0, none⟩) (s.length + 1) (s.length + 1) :: vI k :: Value.int .u8 (lit : Int) :: Value.bool esc :: u11 :: u12 :: vS s :: vI (s.length : Int) :: vI ((s.length + 1 : Nat) : Int) :: Value.slice (some ⟨b3, 0, none⟩) (s.length + 1) (s.length + 1) :: Value.slice (some ⟨b3, 0, none⟩) (s.length + 1) (s.length + 1) :: Value.pointer (some ⟨b3, 0 + 0, none⟩) :: vI i :: vS p :: vI (p.length : Int) :: Value.bool true :: u23 :: u24 :: vS s :: vI (s.length : Int) :: vI ((s.length + 1 : Nat) : Int) :: Value.slice (some ⟨b15, 0, none⟩) (s.length + 1) (s.length + 1) :: vS p :: vI i :: Value.int .u8 (chr p (i) : Int) :: Value.bool true :: vS p :: vI i :: vI (-1) :: vS p :: vI i :: Value.int .u8 (chr p (i) : Int) :: vS p :: vI i :: Value.int .u8 (chr p (i) : Int) :: Value.bool false :: Value.bool false :: undef :: undef :: undef :: undef :: undef :: Value.bool false :: j50 :: j51 :: j52 :: j53 :: j54 :: u55 :: u56 :: u57 :: u58 :: u59 :: u60 :: u61 :: u62 :: u63 :: u64 :: u65 :: u66 :: u67 :: u68 :: u69 :: u70 :: u71 :: u72 :: u73 :: u74 :: u75 :: u76 :: u77 :: u78 :: u79 :: u80 :: u81 :: u82 :: u83 :: u84 :: u85 :: u86 :: u87 :: u88 :: u89 :: u90 :: u91 :: u92 :: u93 :: u94 :: u95 :: u96 :: u97 :: u98 :: u99 :: u100 :: u101 :: u102 :: u103 :: u104 :: u105 :: u106 :: u107 :: u108 :: u109 :: u110 :: u111 :: u112 :: u113 :: u114 :: u115 :: u116 :: u117 :: u118 :: u119 :: u120 :: u121 :: u122 :: u123 :: u124 :: u125 :: u126 :: u127 :: u128 :: undef :: undef :: undef :: undef :: undef :: []).toArray, defers := [] } w26 := by
      intro k lit esc x j50 j51 j52 j53 j54 w26 hps hil hv
      refine k25 _ _ (sK fun _ k27 => ?_)
      refine sK fun _ k28 => rL (xA (vI 0) rfl ?_)
      simp only [zP, po]
      refine wK k28 (bB ?_)
      gi_loopw [11] (fun x11 wr => ∃ (a : Nat) (n : List Bool), x11 = vI a ∧ a ≤ s.length + 1 ∧ Inn s x q a n ∧ Inv B (Res.cell b15 (bV n) 4 :: Res.cell b (bV q) 4 :: H) wr) (fun x11 _ => s.length + 1 - (intOf x11).toNat)
      case atStart => exact ⟨0, _, rfl, Nat.zero_le _, Inn.start s x q, ((hv.front 1 rfl).front 1 rfl)⟩
      case round =>
       obtain ⟨a, n, rfl, ha, hin, hv⟩ := hrel
       have hql := hri.1
       have hnl := hin.len
       refine sK fun _ k30 => sK fun _ k31 => rL (xM (vI a) rfl ?_)
       simp only [zP, po]
       refine xM (vS s) rfl ?_
       simp only [zP, po]
       refine xG (vI (s.length : Int)) rfl (ex_lenStr Tryz.underlying9 rfl rfl) ?_
       simp only [zP, po]
       by_cases hb32 : (a : Int) ≤ (s.length : Int)
       ·refine xG (.bool true) rfl (ex_leq rfl rfl rfl (qT hb32)) ?_
        simp only [zP, po]
        refine wK k31 (cT rfl ?_)
        refine kS (tK k30 ?_)
        refine sK fun _ k33 => bB (sK fun _ k34 => ?_)
        refine sK fun _ k35 => rL (xM (vS p) rfl ?_)
        simp only [zP, po]
        refine xM (vI i) rfl ?_
        simp only [zP, po]
        obtain ⟨y36, hy36⟩ : ∃ y, p[i]? = some y := ⟨_, List.getElem?_eq_getElem (show i < p.length by omega)⟩
        have hy36c := chr_at hy36
        refine xG (.int .u8 (chr p (i) : Int)) rfl ((by rw [hy36c]; exact ex_sidx0 Tryz.underlying9 rfl rfl rfl hy36)) ?_
        simp only [zP, po]
        by_cases hb37 : (chr p (i) : Int) = 42
        ·refine xG (.bool true) rfl (ex_eql rfl rfl rfl (qT hb37)) ?_
         simp only [zP, po]
         refine wK k35 (cT rfl ?_)
         refine sK fun _ k38 => ?_
         have hst : x.star = true := by rw [hps.st]; exact qT (by omega)
         refine rL (xM (.slice (some ⟨b15, 0, none⟩) (s.length + 1) (s.length + 1)) rfl ?_)
         simp only [zP, po]
         refine xM (vI a) rfl ?_
         simp only [zP, po]
         refine xM (.slice (some ⟨b, 0, none⟩) (s.length + 1) (s.length + 1)) rfl ?_
         simp only [zP, po]
         refine xM (vI a) rfl ?_
         simp only [zP, po]
         refine xG (.pointer (some ⟨b, 0 + a, none⟩)) rfl (ex_index rfl rfl rfl (run_idx1 (k := a) Tryz.underlying90 r2ces90 (by omega))) ?_
         simp only [zP, po]
         obtain ⟨z39, hz39⟩ : ∃ y, q[a]? = some y := ⟨_, List.getElem?_eq_getElem (show a < q.length by have := hql; omega)⟩
         refine xL (.bool z39) rfl (run_load1 r2cna4 (hv.load 1 (0 + a) rfl (by rw [Nat.zero_add]; exact bV_get hz39))) ?_
         simp only [zP, po]
         refine xM (.bool z39) rfl ?_
         simp only [zP, po]
         cases z39
         ·refine xM (vI a) rfl ?_
          simp only [zP, po]
          by_cases hb40 : (a : Int) > 0
          ·refine xG (.bool true) rfl (ex_gtr rfl rfl rfl (qT hb40)) ?_
           simp only [zP, po]
           refine xM (.bool true) rfl ?_
           simp only [zP, po]
           refine xM (.slice (some ⟨b15, 0, none⟩) (s.length + 1) (s.length + 1)) rfl ?_
           simp only [zP, po]
           refine xM (vI a) rfl ?_
           simp only [zP, po]
           refine xG (vI ((a - 1 : Nat) : Int)) rfl (ex_sub rfl rfl rfl (by rw [i64_in (by omega)]; omega)) ?_
           simp only [zP, po]
           refine xG (.pointer (some ⟨b15, 0 + (a - 1 : Nat), none⟩)) rfl (ex_index rfl rfl rfl (run_idx1 (k := (a - 1 : Nat)) Tryz.underlying90 r2ces90 (by omega))) ?_
           simp only [zP, po]
           obtain ⟨z41, hz41⟩ : ∃ y, n[(a - 1)]? = some y := ⟨_, List.getElem?_eq_getElem (show (a - 1) < n.length by have := hnl; omega)⟩
           refine xL (.bool z41) rfl (run_load1 r2cna4 (hv.load 0 (0 + (a - 1)) rfl (by rw [Nat.zero_add]; exact bV_get hz41))) ?_
           simp only [zP, po]
           refine xK true (.bool z41) rfl ?_
           simp only [zP, po]
           refine xK false (.bool z41) rfl ?_
           simp only [zP, po]
           refine xG (.pointer (some ⟨b15, 0 + a, none⟩)) rfl (ex_index rfl rfl rfl (run_idx1 (k := a) Tryz.underlying90 r2ces90 (by omega))) ?_
           simp only [zP, po]
           refine sl_storeAt 0 (v := .bool z41) (L' := bV (n.set a z41)) tV (wn rfl) rfl rfl rfl hv rfl r2csz4 (by rw [bV_len]; have := hnl; omega) rfl rfl (by rw [Nat.zero_add]; exact bV_set) (fun w42 hv => ?_)
           simp only [zO] at hv
           have hin2 := hin.set (v := z41) (by omega) (⟨fun h9 => (rnext_star hst).2 (.inr ⟨by omega, (hin.done _ (by omega)).1 (by rw [hz41, h9])⟩), fun h9 => ((rnext_star hst).1 h9).elim (fun h8 => by rw [hz39] at h8; cases h8) (fun h8 => Option.some.inj (hz41.symm.trans ((hin.done _ (by omega)).2 h8.2)))⟩)
           simp only [zP, po]
           refine wK k38 (xE ?_)
           refine tX (bH ?_)
           refine tK k33 (rL ?_)
           refine xM (vI a) rfl ?_
           simp only [zP, po]
           refine xG (vI ((a + 1 : Nat) : Int)) rfl (ex_add rfl rfl rfl (by rw [i64_in (by omega)]; omega)) ?_
           simp only [zP, po]
           refine xA (vI ((a + 1 : Nat) : Int)) rfl (wL ?_)
           simp only [zP, po]
           refine then_normal ?_
           go_roundw
           case rel => exact ⟨a + 1, _, rfl, by omega, hin2, ((hv.front 1 rfl).front 1 rfl)⟩
           case measure => show s.length + 1 - (((a + 1 : Nat) : Int)).toNat < s.length + 1 - ((a : Int)).toNat; omega
          refine xG (.bool false) rfl (ex_gtr rfl rfl rfl (qF hb40)) ?_
          simp only [zP, po]
          refine xM (.bool false) rfl ?_
          simp only [zP, po]
          refine yP rfl ?_
          simp only [zP, po]
          refine yP rfl ?_
          simp only [zP, po]
          refine yP rfl ?_
          simp only [zP, po]
          refine yP rfl ?_
          simp only [zP, po]
          refine yP rfl ?_
          simp only [zP, po]
          refine xK false (.bool false) rfl ?_
          simp only [zP, po]
          refine xK false (.bool false) rfl ?_
          simp only [zP, po]
          refine xG (.pointer (some ⟨b15, 0 + a, none⟩)) rfl (ex_index rfl rfl rfl (run_idx1 (k := a) Tryz.underlying90 r2ces90 (by omega))) ?_
          simp only [zP, po]
          refine sl_storeAt 0 (v := .bool false) (L' := bV (n.set a false)) tV (wn rfl) rfl rfl rfl hv rfl r2csz4 (by rw [bV_len]; have := hnl; omega) rfl rfl (by rw [Nat.zero_add]; exact bV_set) (fun w43 hv => ?_)
          simp only [zO] at hv
          have hin2 := hin.set (v := false) (by omega) (⟨fun h9 => (by cases h9), fun h9 => ((rnext_star hst).1 h9).elim (fun h8 => by rw [hz39] at h8; cases h8) (fun h8 => by omega)⟩)
          simp only [zP, po]
          refine wK k38 (xE ?_)
          refine tX (bH ?_)
          refine tK k33 (rL ?_)
          refine xM (vI a) rfl ?_
          simp only [zP, po]
          refine xG (vI ((a + 1 : Nat) : Int)) rfl (ex_add rfl rfl rfl (by rw [i64_in (by omega)]; omega)) ?_
          simp only [zP, po]
          refine xA (vI ((a + 1 : Nat) : Int)) rfl (wL ?_)
          simp only [zP, po]
          refine then_normal ?_
          go_roundw
          case rel => exact ⟨a + 1, _, rfl, by omega, hin2, ((hv.front 1 rfl).front 1 rfl)⟩
          case measure => show s.length + 1 - (((a + 1 : Nat) : Int)).toNat < s.length + 1 - ((a : Int)).toNat; omega
         refine yP rfl ?_
         simp only [zP, po]
         refine yP rfl ?_
         simp only [zP, po]
         refine yP rfl ?_
         simp only [zP, po]
         refine yP rfl ?_
         simp only [zP, po]
         refine yP rfl ?_
         simp only [zP, po]
         refine yP rfl ?_
         simp only [zP, po]
         refine yP rfl ?_
         simp only [zP, po]
         refine yP rfl ?_
         simp only [zP, po]
         refine yP rfl ?_
         simp only [zP, po]
         refine xK true (.bool true) rfl ?_
         simp only [zP, po]
         refine xG (.pointer (some ⟨b15, 0 + a, none⟩)) rfl (ex_index rfl rfl rfl (run_idx1 (k := a) Tryz.underlying90 r2ces90 (by omega))) ?_
         simp only [zP, po]
         refine sl_storeAt 0 (v := .bool true) (L' := bV (n.set a true)) tV (wn rfl) rfl rfl rfl hv rfl r2csz4 (by rw [bV_len]; have := hnl; omega) rfl rfl (by rw [Nat.zero_add]; exact bV_set) (fun w44 hv => ?_)
         simp only [zO] at hv
         have hin2 := hin.set (v := true) (by omega) (⟨fun _ => (rnext_star hst).2 (.inl hz39), fun _ => rfl⟩)
         simp only [zP, po]
         refine wK k38 (xE ?_)
         refine tX (bH ?_)
         refine tK k33 (rL ?_)
         refine xM (vI a) rfl ?_
         simp only [zP, po]
         refine xG (vI ((a + 1 : Nat) : Int)) rfl (ex_add rfl rfl rfl (by rw [i64_in (by omega)]; omega)) ?_
         simp only [zP, po]
         refine xA (vI ((a + 1 : Nat) : Int)) rfl (wL ?_)
         simp only [zP, po]
         refine then_normal ?_
         go_roundw
         case rel => exact ⟨a + 1, _, rfl, by omega, hin2, ((hv.front 1 rfl).front 1 rfl)⟩
         case measure => show s.length + 1 - (((a + 1 : Nat) : Int)).toNat < s.length + 1 - ((a : Int)).toNat; omega
        refine xG (.bool false) rfl (ex_eql rfl rfl rfl (qF hb37)) ?_
        simp only [zP, po]
        refine wK k35 (cF rfl ?_)
        refine kS (tK k34 ?_)
        refine sK fun _ k45 => sK fun _ k46 => ?_
        have hsf : x.star = false := by rw [hps.st]; exact qF (by omega)
        refine rL (xM (vI a) rfl ?_)
        simp only [zP, po]
        by_cases hb47 : (a : Int) = 0
        ·refine xG (.bool true) rfl (ex_eql rfl rfl rfl (qT hb47)) ?_
         simp only [zP, po]
         refine xM (.bool true) rfl ?_
         simp only [zP, po]
         refine yP rfl ?_
         simp only [zP, po]
         refine yP rfl ?_
         simp only [zP, po]
         refine yP rfl ?_
         simp only [zP, po]
         refine yP rfl ?_
         simp only [zP, po]
         refine yP rfl ?_
         simp only [zP, po]
         refine yP rfl ?_
         simp only [zP, po]
         refine xK true (.bool true) rfl ?_
         simp only [zP, po]
         refine wK k46 (cT rfl ?_)
         refine xE (tX ?_)
         refine bH (tK k33 ?_)
         refine rL (xM (vI a) rfl ?_)
         simp only [zP, po]
         refine xG (vI ((a + 1 : Nat) : Int)) rfl (ex_add rfl rfl rfl (by rw [i64_in (by omega)]; omega)) ?_
         simp only [zP, po]
         refine xA (vI ((a + 1 : Nat) : Int)) rfl (wL ?_)
         simp only [zP, po]
         refine then_normal ?_
         go_roundw
         case rel => exact ⟨a + 1, n, rfl, by omega, hin.skip (by omega) (fun h9 => absurd ((rnext_byte hsf).1 h9).1 (by omega)), ((hv.front 1 rfl).front 1 rfl)⟩
         case measure => show s.length + 1 - (((a + 1 : Nat) : Int)).toNat < s.length + 1 - ((a : Int)).toNat; omega
        refine xG (.bool false) rfl (ex_eql rfl rfl rfl (qF hb47)) ?_
        simp only [zP, po]
        refine xM (.bool false) rfl ?_
        simp only [zP, po]
        refine xM (.slice (some ⟨b, 0, none⟩) (s.length + 1) (s.length + 1)) rfl ?_
        simp only [zP, po]
        refine xM (vI a) rfl ?_
        simp only [zP, po]
        refine xG (vI ((a - 1 : Nat) : Int)) rfl (ex_sub rfl rfl rfl (by rw [i64_in (by omega)]; omega)) ?_
        simp only [zP, po]
        refine xG (.pointer (some ⟨b, 0 + (a - 1 : Nat), none⟩)) rfl (ex_index rfl rfl rfl (run_idx1 (k := (a - 1 : Nat)) Tryz.underlying90 r2ces90 (by omega))) ?_
        simp only [zP, po]
        obtain ⟨z48, hz48⟩ : ∃ y, q[(a - 1)]? = some y := ⟨_, List.getElem?_eq_getElem (show (a - 1) < q.length by have := hql; omega)⟩
        cases z48
        ·refine xL (.bool false) rfl (run_load1 r2cna4 (hv.load 1 (0 + (a - 1)) rfl (by rw [Nat.zero_add]; exact bV_get hz48))) ?_
         simp only [zP, po]
         refine xG (.bool true) rfl (ex_not rfl rfl rfl) ?_
         simp only [zP, po]
         refine xK false (.bool true) rfl ?_
         simp only [zP, po]
         refine wK k46 (cT rfl ?_)
         refine xE (tX ?_)
         refine bH (tK k33 ?_)
         refine rL (xM (vI a) rfl ?_)
         simp only [zP, po]
         refine xG (vI ((a + 1 : Nat) : Int)) rfl (ex_add rfl rfl rfl (by rw [i64_in (by omega)]; omega)) ?_
         simp only [zP, po]
         refine xA (vI ((a + 1 : Nat) : Int)) rfl (wL ?_)
         simp only [zP, po]
         refine then_normal ?_
         go_roundw
         case rel => exact ⟨a + 1, n, rfl, by omega, hin.skip (by omega) (fun h9 => absurd ((rnext_byte hsf).1 h9).2.1 (by rw [hz48]; decide)), ((hv.front 1 rfl).front 1 rfl)⟩
         case measure => show s.length + 1 - (((a + 1 : Nat) : Int)).toNat < s.length + 1 - ((a : Int)).toNat; omega
        refine xL (.bool true) rfl (run_load1 r2cna4 (hv.load 1 (0 + (a - 1)) rfl (by rw [Nat.zero_add]; exact bV_get hz48))) ?_
        simp only [zP, po]
        refine xG (.bool false) rfl (ex_not rfl rfl rfl) ?_
        simp only [zP, po]
        refine xK false (.bool false) rfl ?_
        simp only [zP, po]
        refine wK k46 (cF rfl ?_)
        refine kS (tK k45 ?_)
        refine sK fun _ k49 => rL (xM (vS s) rfl ?_)
        simp only [zP, po]
        refine xM (vI a) rfl ?_
        simp only [zP, po]
        refine xG (vI ((a - 1 : Nat) : Int)) rfl (ex_sub rfl rfl rfl (by rw [i64_in (by omega)]; omega)) ?_
        simp only [zP, po]
        obtain ⟨y50, hy50⟩ : ∃ y, s[(a - 1)]? = some y := ⟨_, List.getElem?_eq_getElem (show (a - 1) < s.length by omega)⟩
        have hy50c := chr_at hy50
        refine xG (.int .u8 (chr s ((a - 1)) : Int)) rfl ((by rw [hy50c]; exact ex_sidx0 Tryz.underlying9 rfl rfl rfl hy50)) ?_
        simp only [zP, po]
        refine xA (.int .u8 (chr s ((a - 1)) : Int)) rfl ?_
        simp only [zP, po]
        refine wK k49 (sK fun _ k51 => ?_)
        refine rL (xM (vS p) rfl ?_)
        simp only [zP, po]
        refine xM (vI i) rfl ?_
        simp only [zP, po]
        refine xG (.int .u8 (chr p (i) : Int)) rfl ((by rw [hy36c]; exact ex_sidx0 Tryz.underlying9 rfl rfl rfl hy36)) ?_
        simp only [zP, po]
        by_cases hb52 : (chr p (i) : Int) = 63
        ·refine xG (.bool true) rfl (ex_eql rfl rfl rfl (qT hb52)) ?_
         simp only [zP, po]
         refine wK k51 (cT rfl ?_)
         refine rL (xM (.slice (some ⟨b15, 0, none⟩) (s.length + 1) (s.length + 1)) rfl ?_)
         simp only [zP, po]
         refine xM (vI a) rfl ?_
         simp only [zP, po]
         refine xG (.pointer (some ⟨b15, 0 + a, none⟩)) rfl (ex_index rfl rfl rfl (run_idx1 (k := a) Tryz.underlying90 r2ces90 (by omega))) ?_
         simp only [zP, po]
         refine sl_storeAt 0 (v := .bool true) (L' := bV (n.set a true)) tV (wn rfl) rfl rfl rfl hv rfl r2csz4 (by rw [bV_len]; have := hnl; omega) rfl rfl (by rw [Nat.zero_add]; exact bV_set) (fun w53 hv => ?_)
         simp only [zO] at hv
         have hin2 := hin.set (v := true) (by omega) (⟨fun h9 => (rnext_byte hsf).2 ⟨by omega, hz48, hps.an (by omega) _ (chr256 s _)⟩, fun h9 => rfl⟩)
         refine wL ?_
         simp only [zP, po]
         refine bN (tK k33 ?_)
         refine rL (xM (vI a) rfl ?_)
         simp only [zP, po]
         refine xG (vI ((a + 1 : Nat) : Int)) rfl (ex_add rfl rfl rfl (by rw [i64_in (by omega)]; omega)) ?_
         simp only [zP, po]
         refine xA (vI ((a + 1 : Nat) : Int)) rfl (wL ?_)
         simp only [zP, po]
         refine then_normal ?_
         go_roundw
         case rel => exact ⟨a + 1, _, rfl, by omega, hin2, ((hv.front 1 rfl).front 1 rfl)⟩
         case measure => show s.length + 1 - (((a + 1 : Nat) : Int)).toNat < s.length + 1 - ((a : Int)).toNat; omega
        refine xG (.bool false) rfl (ex_eql rfl rfl rfl (qF hb52)) ?_
        simp only [zP, po]
        refine wK k51 (cF rfl ?_)
        refine sK fun _ k54 => rL (xM (vI k) rfl ?_)
        simp only [zP, po]
        by_cases hb55 : k ≥ 0
        ·refine xG (.bool true) rfl (ex_geq rfl rfl rfl (qT hb55)) ?_
         simp only [zP, po]
         refine wK k54 (cT rfl ?_)
         obtain ⟨kk, rfl⟩ : ∃ kk : Nat, k = (kk : Int) := ⟨k.toNat, by omega⟩
         obtain ⟨hk91, hk1, hk2, hk3⟩ := hps.cl (by omega)
         rw [Int.toNat_natCast] at hk1 hk2 hk3
         have hcq := hk3 (chr s (a - 1)) (chr256 s _)
         refine rL (xM (.slice (some ⟨b15, 0, none⟩) (s.length + 1) (s.length + 1)) rfl ?_)
         simp only [zP, po]
         refine xM (vI a) rfl ?_
         simp only [zP, po]
         refine xM (vS p) rfl ?_
         simp only [zP, po]
         refine xM (vI i) rfl ?_
         simp only [zP, po]
         refine xG (vI ((i + 1 : Nat) : Int)) rfl (ex_add rfl rfl rfl (by rw [i64_in (by omega)]; omega)) ?_
         simp only [zP, po]
         refine xM (vI kk) rfl ?_
         simp only [zP, po]
         refine xG (vS ((p.drop (i + 1)).take (kk - (i + 1)))) rfl (ex_slice (lo' := some (vI ((i + 1 : Nat) : Int))) (hi' := some (vI kk)) rfl rfl (congrArg some rfl) (congrArg some rfl) rfl (run_cut Tryz.underlying9 (by omega) (by omega) _)) ?_
         simp only [zP, po]
         refine xM (.int .u8 (chr s ((a - 1)) : Int)) rfl ?_
         simp only [zP, po]
         rw [show (p.take kk).drop (i + 1) = (p.drop (i + 1)).take (kk - (i + 1)) from by rw [List.drop_take]] at hcq
         refine xC r2ccallable34 rfl ((refClass B _ _ ((p.drop (i + 1)).take (kk - (i + 1))) (by rw [List.length_take, List.length_drop]; omega) (chr s (a - 1)) (chr256 s _) hv).mono ?_) rfl
         rintro e w56 ⟨rfl, hv⟩
         refine ⟨_, rfl, ?_⟩
         simp only [zP, po]
         refine xG (.pointer (some ⟨b15, 0 + a, none⟩)) rfl (ex_index rfl rfl rfl (run_idx1 (k := a) Tryz.underlying90 r2ces90 (by omega))) ?_
         simp only [zP, po]
         refine sl_storeAt 0 (v := .bool (clsFit ((p.drop (i + 1)).take (kk - (i + 1))) (chr s (a - 1)))) (L' := bV (n.set a (clsFit ((p.drop (i + 1)).take (kk - (i + 1))) (chr s (a - 1))))) tV (wn rfl) rfl rfl rfl hv rfl r2csz4 (by rw [bV_len]; have := hnl; omega) rfl rfl (by rw [Nat.zero_add]; exact bV_set) (fun w57 hv => ?_)
         simp only [zO] at hv
         have hin2 := hin.set (v := (clsFit ((p.drop (i + 1)).take (kk - (i + 1))) (chr s (a - 1)))) (by omega) ((by rw [hcq]; exact ⟨fun h9 => (rnext_byte hsf).2 ⟨by omega, hz48, h9⟩, fun h9 => ((rnext_byte hsf).1 h9).2.2⟩))
         refine wL ?_
         simp only [zP, po]
         refine bN (tK k33 ?_)
         refine rL (xM (vI a) rfl ?_)
         simp only [zP, po]
         refine xG (vI ((a + 1 : Nat) : Int)) rfl (ex_add rfl rfl rfl (by rw [i64_in (by omega)]; omega)) ?_
         simp only [zP, po]
         refine xA (vI ((a + 1 : Nat) : Int)) rfl (wL ?_)
         simp only [zP, po]
         refine then_normal ?_
         go_roundw
         case rel => exact ⟨a + 1, _, rfl, by omega, hin2, ((hv.front 1 rfl).front 1 rfl)⟩
         case measure => show s.length + 1 - (((a + 1 : Nat) : Int)).toNat < s.length + 1 - ((a : Int)).toNat; omega
        refine xG (.bool false) rfl (ex_geq rfl rfl rfl (qF hb55)) ?_
        simp only [zP, po]
        refine wK k54 (cF rfl ?_)
        refine rL (xM (.slice (some ⟨b15, 0, none⟩) (s.length + 1) (s.length + 1)) rfl ?_)
        simp only [zP, po]
        refine xM (vI a) rfl ?_
        simp only [zP, po]
        refine xM (.int .u8 (chr s ((a - 1)) : Int)) rfl ?_
        simp only [zP, po]
        refine xM (.int .u8 (lit : Int)) rfl ?_
        simp only [zP, po]
        refine xG (.bool (decide ((chr s ((a - 1)) : Int) = (lit : Int)))) rfl (ex_eql rfl rfl rfl rfl) ?_
        simp only [zP, po]
        refine xG (.pointer (some ⟨b15, 0 + a, none⟩)) rfl (ex_index rfl rfl rfl (run_idx1 (k := a) Tryz.underlying90 r2ces90 (by omega))) ?_
        simp only [zP, po]
        refine sl_storeAt 0 (v := .bool (decide ((chr s ((a - 1)) : Int) = (lit : Int)))) (L' := bV (n.set a (decide ((chr s ((a - 1)) : Int) = (lit : Int))))) tV (wn rfl) rfl rfl rfl hv rfl r2csz4 (by rw [bV_len]; have := hnl; omega) rfl rfl (by rw [Nat.zero_add]; exact bV_set) (fun w58 hv => ?_)
        simp only [zO] at hv
        have hin2 := hin.set (v := decide ((chr s ((a - 1)) : Int) = (lit : Int))) (by omega) (⟨fun h9 => (rnext_byte hsf).2 ⟨by omega, hz48, (by rw [hps.li (by omega) (by omega) (by omega) _ (chr256 s _)]; have h8 := of_decide_eq_true h9; exact qT (by omega))⟩, fun h9 => (by have h8 := ((rnext_byte hsf).1 h9).2.2; rw [hps.li (by omega) (by omega) (by omega) _ (chr256 s _)] at h8; have h7 := of_decide_eq_true h8; exact qT (by omega))⟩)
        refine wL ?_
        simp only [zP, po]
        refine bN (tK k33 ?_)
        refine rL (xM (vI a) rfl ?_)
        simp only [zP, po]
        refine xG (vI ((a + 1 : Nat) : Int)) rfl (ex_add rfl rfl rfl (by rw [i64_in (by omega)]; omega)) ?_
        simp only [zP, po]
        refine xA (vI ((a + 1 : Nat) : Int)) rfl (wL ?_)
        simp only [zP, po]
        refine then_normal ?_
        go_roundw
        case rel => exact ⟨a + 1, _, rfl, by omega, hin2, ((hv.front 1 rfl).front 1 rfl)⟩
        case measure => show s.length + 1 - (((a + 1 : Nat) : Int)).toNat < s.length + 1 - ((a : Int)).toNat; omega
       refine xG (.bool false) rfl (ex_leq rfl rfl rfl (qF hb32)) ?_
       simp only [zP, po]
       refine wK k31 (cF rfl ?_)
       refine xE (tX ?_)
       refine tX (bH ?_)
       refine tK k27 (sK fun _ k59 => ?_)
       refine sK fun _ k60 => ?_
       obtain rfl : a = s.length + 1 := by omega
       refine rL (xM (vI k) rfl ?_)
       simp only [zP, po]
       by_cases hb61 : k ≥ 0
       ·refine xG (.bool true) rfl (ex_geq rfl rfl rfl (qT hb61)) ?_
        simp only [zP, po]
        refine wK k60 (cT rfl ?_)
        obtain ⟨kk, rfl⟩ : ∃ kk : Nat, k = (kk : Int) := ⟨k.toNat, by omega⟩
        obtain ⟨hk91, hk1, hk2, hk3⟩ := hps.cl (by omega)
        rw [Int.toNat_natCast] at hk1 hk2
        refine rL (xM (vI kk) rfl ?_)
        simp only [zP, po]
        refine xA (vI kk) rfl ?_
        simp only [zP, po]
        refine wK k59 (sK fun _ k62 => ?_)
        refine sK fun _ k63 => rL (xM (.bool esc) rfl ?_)
        simp only [zP, po]
        refine wK k63 (wpIn_cond_split (t := esc) rfl (fun hc64 => ?_) (fun hc64 => ?_))
        ·have hes := hps.es hc64
         refine rL (xM (vI kk) rfl ?_)
         simp only [zP, po]
         refine xG (vI ((kk + 1 : Nat) : Int)) rfl (ex_add rfl rfl rfl (by rw [i64_in (by omega)]; omega)) ?_
         simp only [zP, po]
         refine xA (vI ((kk + 1 : Nat) : Int)) rfl ?_
         simp only [zP, po]
         refine wK k62 (rL ?_)
         refine xM (.slice (some ⟨b15, 0, none⟩) (s.length + 1) (s.length + 1)) rfl ?_
         simp only [zP, po]
         refine xA (.slice (some ⟨b15, 0, none⟩) (s.length + 1) (s.length + 1)) rfl (wL ?_)
         simp only [zP, po]
         refine bN (tK k13 ?_)
         refine rL (xM (vI ((kk + 1 : Nat) : Int)) rfl ?_)
         simp only [zP, po]
         refine xG (vI ((kk + 2 : Nat) : Int)) rfl (ex_add rfl rfl rfl (by rw [i64_in (by omega)]; omega)) ?_
         simp only [zP, po]
         refine xA (vI ((kk + 2 : Nat) : Int)) rfl (wL ?_)
         simp only [zP, po]
         refine then_normal ?_
         go_roundw
         case rel => exact ⟨kk + 2, b15, n, rfl, rfl, by omega, rinv_step hri (by have h9 := hps.dv; rw [if_pos (by omega), if_pos hc64] at h9; exact h9) hin.len hin.all, (hv.kp [] 1 1)⟩
         case measure => show p.length - (((kk + 2 : Nat) : Int)).toNat < p.length - ((i : Int)).toNat; omega
        refine kS (tK k62 ?_)
        refine rL (xM (.slice (some ⟨b15, 0, none⟩) (s.length + 1) (s.length + 1)) rfl ?_)
        simp only [zP, po]
        refine xA (.slice (some ⟨b15, 0, none⟩) (s.length + 1) (s.length + 1)) rfl (wL ?_)
        simp only [zP, po]
        refine bN (tK k13 ?_)
        refine rL (xM (vI kk) rfl ?_)
        simp only [zP, po]
        refine xG (vI ((kk + 1 : Nat) : Int)) rfl (ex_add rfl rfl rfl (by rw [i64_in (by omega)]; omega)) ?_
        simp only [zP, po]
        refine xA (vI ((kk + 1 : Nat) : Int)) rfl (wL ?_)
        simp only [zP, po]
        refine then_normal ?_
        go_roundw
        case rel => exact ⟨kk + 1, b15, n, rfl, rfl, by omega, rinv_step hri (by have h9 := hps.dv; rw [if_pos (by omega), if_neg (by rw [hc64]; decide)] at h9; exact h9) hin.len hin.all, (hv.kp [] 1 1)⟩
        case measure => show p.length - (((kk + 1 : Nat) : Int)).toNat < p.length - ((i : Int)).toNat; omega
       refine xG (.bool false) rfl (ex_geq rfl rfl rfl (qF hb61)) ?_
       simp only [zP, po]
       refine wK k60 (cF rfl ?_)
       refine kS (tK k59 ?_)
       refine sK fun _ k65 => sK fun _ k66 => rL (xM (.bool esc) rfl ?_)
       simp only [zP, po]
       refine wK k66 (wpIn_cond_split (t := esc) rfl (fun hc67 => ?_) (fun hc67 => ?_))
       ·have hes := hps.es hc67
        refine rL (xM (vI i) rfl ?_)
        simp only [zP, po]
        refine xG (vI ((i + 1 : Nat) : Int)) rfl (ex_add rfl rfl rfl (by rw [i64_in (by omega)]; omega)) ?_
        simp only [zP, po]
        refine xA (vI ((i + 1 : Nat) : Int)) rfl ?_
        simp only [zP, po]
        refine wK k65 (rL ?_)
        refine xM (.slice (some ⟨b15, 0, none⟩) (s.length + 1) (s.length + 1)) rfl ?_
        simp only [zP, po]
        refine xA (.slice (some ⟨b15, 0, none⟩) (s.length + 1) (s.length + 1)) rfl (wL ?_)
        simp only [zP, po]
        refine bN (tK k13 ?_)
        refine rL (xM (vI ((i + 1 : Nat) : Int)) rfl ?_)
        simp only [zP, po]
        refine xG (vI ((i + 2 : Nat) : Int)) rfl (ex_add rfl rfl rfl (by rw [i64_in (by omega)]; omega)) ?_
        simp only [zP, po]
        refine xA (vI ((i + 2 : Nat) : Int)) rfl (wL ?_)
        simp only [zP, po]
        refine then_normal ?_
        go_roundw
        case rel => exact ⟨i + 2, b15, n, rfl, rfl, by omega, rinv_step hri (by have h9 := hps.dv; rw [if_neg (by omega), if_pos hc67] at h9; exact h9) hin.len hin.all, (hv.kp [] 1 1)⟩
        case measure => show p.length - (((i + 2 : Nat) : Int)).toNat < p.length - ((i : Int)).toNat; omega
       refine kS (tK k65 ?_)
       refine rL (xM (.slice (some ⟨b15, 0, none⟩) (s.length + 1) (s.length + 1)) rfl ?_)
       simp only [zP, po]
       refine xA (.slice (some ⟨b15, 0, none⟩) (s.length + 1) (s.length + 1)) rfl (wL ?_)
       simp only [zP, po]
       refine bN (tK k13 ?_)
       refine rL (xM (vI i) rfl ?_)
       simp only [zP, po]
       refine xG (vI ((i + 1 : Nat) : Int)) rfl (ex_add rfl rfl rfl (by rw [i64_in (by omega)]; omega)) ?_
       simp only [zP, po]
       refine xA (vI ((i + 1 : Nat) : Int)) rfl (wL ?_)
       simp only [zP, po]
       refine then_normal ?_
       go_roundw
       case rel => exact ⟨i + 1, b15, n, rfl, rfl, by omega, rinv_step hri (by have h9 := hps.dv; rw [if_neg (by omega), if_neg (by rw [hc67]; decide)] at h9; exact h9) hin.len hin.all, (hv.kp [] 1 1)⟩
       case measure => show p.length - (((i + 1 : Nat) : Int)).toNat < p.length - ((i : Int)).toNat; omega
     refine sK fun _ k68 => rL (xM (.bool false) rfl ?_)
     simp only [zP, po]
     refine wK k68 (cF rfl ?_)
     refine kS (then_normal (hJ25 (-1) (chr p (i)) false (oneP 91) _ _ _ _ _ _ (pstep_open (by omega) (by omega) hk) (by omega) hv))
    simp only [zP, po]
    refine xA (vI qq) rfl ?_
    simp only [zP, po]
    refine wK k18 (sK fun _ k69 => ?_)
    refine rL (xM (vS p) rfl ?_)
    simp only [zP, po]
    refine xM (vI i) rfl ?_
    simp only [zP, po]
    refine xG (.int .u8 (chr p (i) : Int)) rfl ((by rw [hy20c]; exact ex_sidx0 Tryz.underlying9 rfl rfl rfl hy20)) ?_
    simp only [zP, po]
    refine xA (.int .u8 (chr p (i) : Int)) rfl ?_
    simp only [zP, po]
    refine wK k69 (sK fun _ k70 => ?_)
    refine rL (xM (vS p) rfl ?_)
    simp only [zP, po]
    refine xM (vI i) rfl ?_
    simp only [zP, po]
    refine xG (.int .u8 (chr p (i) : Int)) rfl ((by rw [hy20c]; exact ex_sidx0 Tryz.underlying9 rfl rfl rfl hy20)) ?_
    simp only [zP, po]
    refine xG (.bool false) rfl (ex_eql rfl rfl rfl (qF (by omega))) ?_
    simp only [zP, po]
    refine xM (.bool false) rfl ?_
    simp only [zP, po]
    refine yP rfl ?_
    simp only [zP, po]
    refine yP rfl ?_
    simp only [zP, po]
    refine yP rfl ?_
    simp only [zP, po]
    refine yP rfl ?_
    simp only [zP, po]
    refine yP rfl ?_
    simp only [zP, po]
    refine xK false (.bool false) rfl ?_
    simp only [zP, po]
    refine xA (.bool false) rfl ?_
    simp only [zP, po]
    refine wK k70 (sK fun K71 k71 => ?_)
    have hJ71 : ∀ (k : Int) (lit : Nat) (esc : Bool) (x : Part) (j50 j51 j52 j53 j54 : Value) (w72 : World), (PStep p i k lit esc x) → (i < p.length) → Inv B (Res.cell b15 (bV (List.replicate (s.length + 1) false)) 4 :: Res.cell b (bV q) 4 :: H) w72 → K71 { tmps := (vS p :: vS s :: undef :: undef :: Value.bool false :: Value.slice (some ⟨b, 0, none⟩) (s.length + 1) (s.length + 1) :: vI i :: Value.slice (some ⟨b15, 0, none⟩) (s.length + 1) (s.length + 1) :: vI k :: Value.int .u8 (lit : Int) :: Value.bool esc :: u11 :: u12 :: vS s :: vI (s.length : Int) :: vI ((s.length + 1 : Nat) : Int) :: Value.slice (some ⟨b3, 0, none⟩) (s.length + 1) (s.length + 1) :: Value.slice (some ⟨b3, 0, none⟩) (s.length + 1) (s.length + 1) :: Value.pointer (some ⟨b3, 0 + 0, none⟩) :: vI i :: vS p :: vI (p.length : Int) :: Value.bool true :: u23 :: u24 :: vS s :: vI (s.length : Int) :: vI ((s.length + 1 : Nat) : Int) :: Value.slice (some ⟨b15, 0, none⟩) (s.length + 1) (s.length + 1) :: vS p :: vI i :: Value.int .u8 (chr p (i) : Int) :: Value.bool true :: vS p :: vI i :: vI qq :: vS p :: vI i :: Value.int .u8 (chr p (i) : Int) :: vS p :: vI i :: Value.int .u8 (chr p (i) : Int) :: Value.bool false :: Value.bool false :: undef :: undef :: undef :: undef :: undef :: Value.bool false :: j50 :: j51 :: j52 :: j53 :: j54 :: u55 :: u56 :: u57 :: u58 :: u59 :: u60 :: u61 :: u62 :: u63 :: u64 :: u65 :: u66 :: u67 :: u68 :: u69 :: u70 :: u71 :: u72 :: u73 :: u74 :: u75 :: u76 :: u77 :: u78 :: u79 :: u80 :: u81 :: u82 :: u83 :: u84 :: u85 :: u86 :: u87 :: u88 :: u89 :: u90 :: u91 :: u92 :: u93 :: u94 :: u95 :: u96 :: u97 :: u98 :: u99 :: u100 :: u101 :: u102 :: u103 :: u104 :: u105 :: u106 :: u107 :: u108 :: u109 :: u110 :: u111 :: u112 :: u113 :: u114 :: u115 :: u116 :: u117 :: u118 :: u119 :: u120 :: u121 :: u122 :: u123 :: u124 :: u125 :: u126 :: u127 :: u128 :: undef :: undef :: undef :: undef :: undef :: []).toArray, defers := [] } w72 := by
     intro k lit esc x j50 j51 j52 j53 j54 w72 hps hil hv
     refine k71 _ _ (sK fun _ k73 => ?_)
     refine sK fun _ k74 => rL (xA (vI 0) rfl ?_)
     simp only [zP, po]
     refine wK k74 (bB ?_)
     gi_loopw [11] (fun x11 wr => ∃ (a : Nat) (n : List Bool), x11 = vI a ∧ a ≤ s.length + 1 ∧ Inn s x q a n ∧ Inv B (Res.cell b15 (bV n) 4 :: Res.cell b (bV q) 4 :: H) wr) (fun x11 _ => s.length + 1 - (intOf x11).toNat)
     case atStart => exact ⟨0, _, rfl, Nat.zero_le _, Inn.start s x q, ((hv.front 1 rfl).front 1 rfl)⟩
     case round =>
      obtain ⟨a, n, rfl, ha, hin, hv⟩ := hrel
      have hql := hri.1
      have hnl := hin.len
      refine sK fun _ k76 => sK fun _ k77 => rL (xM (vI a) rfl ?_)
      simp only [zP, po]
      refine xM (vS s) rfl ?_
      simp only [zP, po]
      refine xG (vI (s.length : Int)) rfl (ex_lenStr Tryz.underlying9 rfl rfl) ?_
      simp only [zP, po]
      by_cases hb78 : (a : Int) ≤ (s.length : Int)
      ·refine xG (.bool true) rfl (ex_leq rfl rfl rfl (qT hb78)) ?_
       simp only [zP, po]
       refine wK k77 (cT rfl ?_)
       refine kS (tK k76 ?_)
       refine sK fun _ k79 => bB (sK fun _ k80 => ?_)
       refine sK fun _ k81 => rL (xM (vS p) rfl ?_)
       simp only [zP, po]
       refine xM (vI i) rfl ?_
       simp only [zP, po]
       obtain ⟨y82, hy82⟩ : ∃ y, p[i]? = some y := ⟨_, List.getElem?_eq_getElem (show i < p.length by omega)⟩
       have hy82c := chr_at hy82
       refine xG (.int .u8 (chr p (i) : Int)) rfl ((by rw [hy82c]; exact ex_sidx0 Tryz.underlying9 rfl rfl rfl hy82)) ?_
       simp only [zP, po]
       by_cases hb83 : (chr p (i) : Int) = 42
       ·refine xG (.bool true) rfl (ex_eql rfl rfl rfl (qT hb83)) ?_
        simp only [zP, po]
        refine wK k81 (cT rfl ?_)
        refine sK fun _ k84 => ?_
        have hst : x.star = true := by rw [hps.st]; exact qT (by omega)
        refine rL (xM (.slice (some ⟨b15, 0, none⟩) (s.length + 1) (s.length + 1)) rfl ?_)
        simp only [zP, po]
        refine xM (vI a) rfl ?_
        simp only [zP, po]
        refine xM (.slice (some ⟨b, 0, none⟩) (s.length + 1) (s.length + 1)) rfl ?_
        simp only [zP, po]
        refine xM (vI a) rfl ?_
        simp only [zP, po]
        refine xG (.pointer (some ⟨b, 0 + a, none⟩)) rfl (ex_index rfl rfl rfl (run_idx1 (k := a) Tryz.underlying90 r2ces90 (by omega))) ?_
        simp only [zP, po]
        obtain ⟨z85, hz85⟩ : ∃ y, q[a]? = some y := ⟨_, List.getElem?_eq_getElem (show a < q.length by have := hql; omega)⟩
        refine xL (.bool z85) rfl (run_load1 r2cna4 (hv.load 1 (0 + a) rfl (by rw [Nat.zero_add]; exact bV_get hz85))) ?_
        simp only [zP, po]
        refine xM (.bool z85) rfl ?_
        simp only [zP, po]
        cases z85
        ·refine xM (vI a) rfl ?_
         simp only [zP, po]
         by_cases hb86 : (a : Int) > 0
         ·refine xG (.bool true) rfl (ex_gtr rfl rfl rfl (qT hb86)) ?_
          simp only [zP, po]
          refine xM (.bool true) rfl ?_
          simp only [zP, po]
          refine xM (.slice (some ⟨b15, 0, none⟩) (s.length + 1) (s.length + 1)) rfl ?_
          simp only [zP, po]
          refine xM (vI a) rfl ?_
          simp only [zP, po]
          refine xG (vI ((a - 1 : Nat) : Int)) rfl (ex_sub rfl rfl rfl (by rw [i64_in (by omega)]; omega)) ?_
          simp only [zP, po]
          refine xG (.pointer (some ⟨b15, 0 + (a - 1 : Nat), none⟩)) rfl (ex_index rfl rfl rfl (run_idx1 (k := (a - 1 : Nat)) Tryz.underlying90 r2ces90 (by omega))) ?_
          simp only [zP, po]
          obtain ⟨z87, hz87⟩ : ∃ y, n[(a - 1)]? = some y := ⟨_, List.getElem?_eq_getElem (show (a - 1) < n.length by have := hnl; omega)⟩
          refine xL (.bool z87) rfl (run_load1 r2cna4 (hv.load 0 (0 + (a - 1)) rfl (by rw [Nat.zero_add]; exact bV_get hz87))) ?_
          simp only [zP, po]
          refine xK true (.bool z87) rfl ?_
          simp only [zP, po]
          refine xK false (.bool z87) rfl ?_
          simp only [zP, po]
          refine xG (.pointer (some ⟨b15, 0 + a, none⟩)) rfl (ex_index rfl rfl rfl (run_idx1 (k := a) Tryz.underlying90 r2ces90 (by omega))) ?_
          simp only [zP, po]
          refine sl_storeAt 0 (v := .bool z87) (L' := bV (n.set a z87)) tV (wn rfl) rfl rfl rfl hv rfl r2csz4 (by rw [bV_len]; have := hnl; omega) rfl rfl (by rw [Nat.zero_add]; exact bV_set) (fun w88 hv => ?_)
          simp only [zO] at hv
          have hin2 := hin.set (v := z87) (by omega) (⟨fun h9 => (rnext_star hst).2 (.inr ⟨by omega, (hin.done _ (by omega)).1 (by rw [hz87, h9])⟩), fun h9 => ((rnext_star hst).1 h9).elim (fun h8 => by rw [hz85] at h8; cases h8) (fun h8 => Option.some.inj (hz87.symm.trans ((hin.done _ (by omega)).2 h8.2)))⟩)
          simp only [zP, po]
          refine wK k84 (xE ?_)
          refine tX (bH ?_)
          refine tK k79 (rL ?_)
          refine xM (vI a) rfl ?_
          simp only [zP, po]
          refine xG (vI ((a + 1 : Nat) : Int)) rfl (ex_add rfl rfl rfl (by rw [i64_in (by omega)]; omega)) ?_
          simp only [zP, po]
          refine xA (vI ((a + 1 : Nat) : Int)) rfl (wL ?_)
          simp only [zP, po]
          refine then_normal ?_
          go_roundw
          case rel => exact ⟨a + 1, _, rfl, by omega, hin2, ((hv.front 1 rfl).front 1 rfl)⟩
          case measure => show s.length + 1 - (((a + 1 : Nat) : Int)).toNat < s.length + 1 - ((a : Int)).toNat; omega
         refine xG (.bool false) rfl (ex_gtr rfl rfl rfl (qF hb86)) ?_
         simp only [zP, po]
         refine xM (.bool false) rfl ?_
         simp only [zP, po]
         refine yP rfl ?_
         simp only [zP, po]
         refine yP rfl ?_
         simp only [zP, po]
         refine yP rfl ?_
         simp only [zP, po]
         refine yP rfl ?_
         simp only [zP, po]
         refine yP rfl ?_
         simp only [zP, po]
         refine xK false (.bool false) rfl ?_
         simp only [zP, po]
         refine xK false (.bool false) rfl ?_
         simp only [zP, po]
         refine xG (.pointer (some ⟨b15, 0 + a, none⟩)) rfl (ex_index rfl rfl rfl (run_idx1 (k := a) Tryz.underlying90 r2ces90 (by omega))) ?_
         simp only [zP, po]
         refine sl_storeAt 0 (v := .bool false) (L' := bV (n.set a false)) tV (wn rfl) rfl rfl rfl hv rfl r2csz4 (by rw [bV_len]; have := hnl; omega) rfl rfl (by rw [Nat.zero_add]; exact bV_set) (fun w89 hv => ?_)
         simp only [zO] at hv
         have hin2 := hin.set (v := false) (by omega) (⟨fun h9 => (by cases h9), fun h9 => ((rnext_star hst).1 h9).elim (fun h8 => by rw [hz85] at h8; cases h8) (fun h8 => by omega)⟩)
         simp only [zP, po]
         refine wK k84 (xE ?_)
         refine tX (bH ?_)
         refine tK k79 (rL ?_)
         refine xM (vI a) rfl ?_
         simp only [zP, po]
         refine xG (vI ((a + 1 : Nat) : Int)) rfl (ex_add rfl rfl rfl (by rw [i64_in (by omega)]; omega)) ?_
         simp only [zP, po]
         refine xA (vI ((a + 1 : Nat) : Int)) rfl (wL ?_)
         simp only [zP, po]
         refine then_normal ?_
         go_roundw
         case rel => exact ⟨a + 1, _, rfl, by omega, hin2, ((hv.front 1 rfl).front 1 rfl)⟩
         case measure => show s.length + 1 - (((a + 1 : Nat) : Int)).toNat < s.length + 1 - ((a : Int)).toNat; omega
        refine yP rfl ?_
        simp only [zP, po]
        refine yP rfl ?_
        simp only [zP, po]
        refine yP rfl ?_
        simp only [zP, po]
        refine yP rfl ?_
        simp only [zP, po]
        refine yP rfl ?_
        simp only [zP, po]
        refine yP rfl ?_
        simp only [zP, po]
        refine yP rfl ?_
        simp only [zP, po]
        refine yP rfl ?_
        simp only [zP, po]
        refine yP rfl ?_
        simp only [zP, po]
        refine xK true (.bool true) rfl ?_
        simp only [zP, po]
        refine xG (.pointer (some ⟨b15, 0 + a, none⟩)) rfl (ex_index rfl rfl rfl (run_idx1 (k := a) Tryz.underlying90 r2ces90 (by omega))) ?_
        simp only [zP, po]
        refine sl_storeAt 0 (v := .bool true) (L' := bV (n.set a true)) tV (wn rfl) rfl rfl rfl hv rfl r2csz4 (by rw [bV_len]; have := hnl; omega) rfl rfl (by rw [Nat.zero_add]; exact bV_set) (fun w90 hv => ?_)
        simp only [zO] at hv
        have hin2 := hin.set (v := true) (by omega) (⟨fun _ => (rnext_star hst).2 (.inl hz85), fun _ => rfl⟩)
        simp only [zP, po]
        refine wK k84 (xE ?_)
        refine tX (bH ?_)
        refine tK k79 (rL ?_)
        refine xM (vI a) rfl ?_
        simp only [zP, po]
        refine xG (vI ((a + 1 : Nat) : Int)) rfl (ex_add rfl rfl rfl (by rw [i64_in (by omega)]; omega)) ?_
        simp only [zP, po]
        refine xA (vI ((a + 1 : Nat) : Int)) rfl (wL ?_)
        simp only [zP, po]
        refine then_normal ?_
        go_roundw
        case rel => exact ⟨a + 1, _, rfl, by omega, hin2, ((hv.front 1 rfl).front 1 rfl)⟩
        case measure => show s.length + 1 - (((a + 1 : Nat) : Int)).toNat < s.length + 1 - ((a : Int)).toNat; omega
       refine xG (.bool false) rfl (ex_eql rfl rfl rfl (qF hb83)) ?_
       simp only [zP, po]
       refine wK k81 (cF rfl ?_)
       refine kS (tK k80 ?_)
       refine sK fun _ k91 => sK fun _ k92 => ?_
       have hsf : x.star = false := by rw [hps.st]; exact qF (by omega)
       refine rL (xM (vI a) rfl ?_)
       simp only [zP, po]
       by_cases hb93 : (a : Int) = 0
       ·refine xG (.bool true) rfl (ex_eql rfl rfl rfl (qT hb93)) ?_
        simp only [zP, po]
        refine xM (.bool true) rfl ?_
        simp only [zP, po]
        refine yP rfl ?_
        simp only [zP, po]
        refine yP rfl ?_
        simp only [zP, po]
        refine yP rfl ?_
        simp only [zP, po]
        refine yP rfl ?_
        simp only [zP, po]
        refine yP rfl ?_
        simp only [zP, po]
        refine yP rfl ?_
        simp only [zP, po]
        refine xK true (.bool true) rfl ?_
        simp only [zP, po]
        refine wK k92 (cT rfl ?_)
        refine xE (tX ?_)
        refine bH (tK k79 ?_)
        refine rL (xM (vI a) rfl ?_)
        simp only [zP, po]
        refine xG (vI ((a + 1 : Nat) : Int)) rfl (ex_add rfl rfl rfl (by rw [i64_in (by omega)]; omega)) ?_
        simp only [zP, po]
        refine xA (vI ((a + 1 : Nat) : Int)) rfl (wL ?_)
        simp only [zP, po]
        refine then_normal ?_
        go_roundw
        case rel => exact ⟨a + 1, n, rfl, by omega, hin.skip (by omega) (fun h9 => absurd ((rnext_byte hsf).1 h9).1 (by omega)), ((hv.front 1 rfl).front 1 rfl)⟩
        case measure => show s.length + 1 - (((a + 1 : Nat) : Int)).toNat < s.length + 1 - ((a : Int)).toNat; omega
       refine xG (.bool false) rfl (ex_eql rfl rfl rfl (qF hb93)) ?_
       simp only [zP, po]
       refine xM (.bool false) rfl ?_
       simp only [zP, po]
       refine xM (.slice (some ⟨b, 0, none⟩) (s.length + 1) (s.length + 1)) rfl ?_
       simp only [zP, po]
       refine xM (vI a) rfl ?_
       simp only [zP, po]
       refine xG (vI ((a - 1 : Nat) : Int)) rfl (ex_sub rfl rfl rfl (by rw [i64_in (by omega)]; omega)) ?_
       simp only [zP, po]
       refine xG (.pointer (some ⟨b, 0 + (a - 1 : Nat), none⟩)) rfl (ex_index rfl rfl rfl (run_idx1 (k := (a - 1 : Nat)) Tryz.underlying90 r2ces90 (by omega))) ?_
       simp only [zP, po]
       obtain ⟨z94, hz94⟩ : ∃ y, q[(a - 1)]? = some y := ⟨_, List.getElem?_eq_getElem (show (a - 1) < q.length by have := hql; omega)⟩
       cases z94
       ·refine xL (.bool false) rfl (run_load1 r2cna4 (hv.load 1 (0 + (a - 1)) rfl (by rw [Nat.zero_add]; exact bV_get hz94))) ?_
        simp only [zP, po]
        refine xG (.bool true) rfl (ex_not rfl rfl rfl) ?_
        simp only [zP, po]
        refine xK false (.bool true) rfl ?_
        simp only [zP, po]
        refine wK k92 (cT rfl ?_)
        refine xE (tX ?_)
        refine bH (tK k79 ?_)
        refine rL (xM (vI a) rfl ?_)
        simp only [zP, po]
        refine xG (vI ((a + 1 : Nat) : Int)) rfl (ex_add rfl rfl rfl (by rw [i64_in (by omega)]; omega)) ?_
        simp only [zP, po]
        refine xA (vI ((a + 1 : Nat) : Int)) rfl (wL ?_)
        simp only [zP, po]
        refine then_normal ?_
        go_roundw
        case rel => exact ⟨a + 1, n, rfl, by omega, hin.skip (by omega) (fun h9 => absurd ((rnext_byte hsf).1 h9).2.1 (by rw [hz94]; decide)), ((hv.front 1 rfl).front 1 rfl)⟩
        case measure => show s.length + 1 - (((a + 1 : Nat) : Int)).toNat < s.length + 1 - ((a : Int)).toNat; omega
       refine xL (.bool true) rfl (run_load1 r2cna4 (hv.load 1 (0 + (a - 1)) rfl (by rw [Nat.zero_add]; exact bV_get hz94))) ?_
       simp only [zP, po]
       refine xG (.bool false) rfl (ex_not rfl rfl rfl) ?_
       simp only [zP, po]
       refine xK false (.bool false) rfl ?_
       simp only [zP, po]
       refine wK k92 (cF rfl ?_)
       refine kS (tK k91 ?_)
       refine sK fun _ k95 => rL (xM (vS s) rfl ?_)
       simp only [zP, po]
       refine xM (vI a) rfl ?_
       simp only [zP, po]
       refine xG (vI ((a - 1 : Nat) : Int)) rfl (ex_sub rfl rfl rfl (by rw [i64_in (by omega)]; omega)) ?_
       simp only [zP, po]
       obtain ⟨y96, hy96⟩ : ∃ y, s[(a - 1)]? = some y := ⟨_, List.getElem?_eq_getElem (show (a - 1) < s.length by omega)⟩
       have hy96c := chr_at hy96
       refine xG (.int .u8 (chr s ((a - 1)) : Int)) rfl ((by rw [hy96c]; exact ex_sidx0 Tryz.underlying9 rfl rfl rfl hy96)) ?_
       simp only [zP, po]
       refine xA (.int .u8 (chr s ((a - 1)) : Int)) rfl ?_
       simp only [zP, po]
       refine wK k95 (sK fun _ k97 => ?_)
       refine rL (xM (vS p) rfl ?_)
       simp only [zP, po]
       refine xM (vI i) rfl ?_
       simp only [zP, po]
       refine xG (.int .u8 (chr p (i) : Int)) rfl ((by rw [hy82c]; exact ex_sidx0 Tryz.underlying9 rfl rfl rfl hy82)) ?_
       simp only [zP, po]
       by_cases hb98 : (chr p (i) : Int) = 63
       ·refine xG (.bool true) rfl (ex_eql rfl rfl rfl (qT hb98)) ?_
        simp only [zP, po]
        refine wK k97 (cT rfl ?_)
        refine rL (xM (.slice (some ⟨b15, 0, none⟩) (s.length + 1) (s.length + 1)) rfl ?_)
        simp only [zP, po]
        refine xM (vI a) rfl ?_
        simp only [zP, po]
        refine xG (.pointer (some ⟨b15, 0 + a, none⟩)) rfl (ex_index rfl rfl rfl (run_idx1 (k := a) Tryz.underlying90 r2ces90 (by omega))) ?_
        simp only [zP, po]
        refine sl_storeAt 0 (v := .bool true) (L' := bV (n.set a true)) tV (wn rfl) rfl rfl rfl hv rfl r2csz4 (by rw [bV_len]; have := hnl; omega) rfl rfl (by rw [Nat.zero_add]; exact bV_set) (fun w99 hv => ?_)
        simp only [zO] at hv
        have hin2 := hin.set (v := true) (by omega) (⟨fun h9 => (rnext_byte hsf).2 ⟨by omega, hz94, hps.an (by omega) _ (chr256 s _)⟩, fun h9 => rfl⟩)
        refine wL ?_
        simp only [zP, po]
        refine bN (tK k79 ?_)
        refine rL (xM (vI a) rfl ?_)
        simp only [zP, po]
        refine xG (vI ((a + 1 : Nat) : Int)) rfl (ex_add rfl rfl rfl (by rw [i64_in (by omega)]; omega)) ?_
        simp only [zP, po]
        refine xA (vI ((a + 1 : Nat) : Int)) rfl (wL ?_)
        simp only [zP, po]
        refine then_normal ?_
        go_roundw
        case rel => exact ⟨a + 1, _, rfl, by omega, hin2, ((hv.front 1 rfl).front 1 rfl)⟩
        case measure => show s.length + 1 - (((a + 1 : Nat) : Int)).toNat < s.length + 1 - ((a : Int)).toNat; omega
       refine xG (.bool false) rfl (ex_eql rfl rfl rfl (qF hb98)) ?_
       simp only [zP, po]
       refine wK k97 (cF rfl ?_)
       refine sK fun _ k100 => rL (xM (vI k) rfl ?_)
       simp only [zP, po]
       by_cases hb101 : k ≥ 0
       ·refine xG (.bool true) rfl (ex_geq rfl rfl rfl (qT hb101)) ?_
        simp only [zP, po]
        refine wK k100 (cT rfl ?_)
        obtain ⟨kk, rfl⟩ : ∃ kk : Nat, k = (kk : Int) := ⟨k.toNat, by omega⟩
        obtain ⟨hk91, hk1, hk2, hk3⟩ := hps.cl (by omega)
        rw [Int.toNat_natCast] at hk1 hk2 hk3
        have hcq := hk3 (chr s (a - 1)) (chr256 s _)
        refine rL (xM (.slice (some ⟨b15, 0, none⟩) (s.length + 1) (s.length + 1)) rfl ?_)
        simp only [zP, po]
        refine xM (vI a) rfl ?_
        simp only [zP, po]
        refine xM (vS p) rfl ?_
        simp only [zP, po]
        refine xM (vI i) rfl ?_
        simp only [zP, po]
        refine xG (vI ((i + 1 : Nat) : Int)) rfl (ex_add rfl rfl rfl (by rw [i64_in (by omega)]; omega)) ?_
        simp only [zP, po]
        refine xM (vI kk) rfl ?_
        simp only [zP, po]
        refine xG (vS ((p.drop (i + 1)).take (kk - (i + 1)))) rfl (ex_slice (lo' := some (vI ((i + 1 : Nat) : Int))) (hi' := some (vI kk)) rfl rfl (congrArg some rfl) (congrArg some rfl) rfl (run_cut Tryz.underlying9 (by omega) (by omega) _)) ?_
        simp only [zP, po]
        refine xM (.int .u8 (chr s ((a - 1)) : Int)) rfl ?_
        simp only [zP, po]
        rw [show (p.take kk).drop (i + 1) = (p.drop (i + 1)).take (kk - (i + 1)) from by rw [List.drop_take]] at hcq
        refine xC r2ccallable34 rfl ((refClass B _ _ ((p.drop (i + 1)).take (kk - (i + 1))) (by rw [List.length_take, List.length_drop]; omega) (chr s (a - 1)) (chr256 s _) hv).mono ?_) rfl
        rintro e w102 ⟨rfl, hv⟩
        refine ⟨_, rfl, ?_⟩
        simp only [zP, po]
        refine xG (.pointer (some ⟨b15, 0 + a, none⟩)) rfl (ex_index rfl rfl rfl (run_idx1 (k := a) Tryz.underlying90 r2ces90 (by omega))) ?_
        simp only [zP, po]
        refine sl_storeAt 0 (v := .bool (clsFit ((p.drop (i + 1)).take (kk - (i + 1))) (chr s (a - 1)))) (L' := bV (n.set a (clsFit ((p.drop (i + 1)).take (kk - (i + 1))) (chr s (a - 1))))) tV (wn rfl) rfl rfl rfl hv rfl r2csz4 (by rw [bV_len]; have := hnl; omega) rfl rfl (by rw [Nat.zero_add]; exact bV_set) (fun w103 hv => ?_)
        simp only [zO] at hv
        have hin2 := hin.set (v := (clsFit ((p.drop (i + 1)).take (kk - (i + 1))) (chr s (a - 1)))) (by omega) ((by rw [hcq]; exact ⟨fun h9 => (rnext_byte hsf).2 ⟨by omega, hz94, h9⟩, fun h9 => ((rnext_byte hsf).1 h9).2.2⟩))
        refine wL ?_
        simp only [zP, po]
        refine bN (tK k79 ?_)
        refine rL (xM (vI a) rfl ?_)
        simp only [zP, po]
        refine xG (vI ((a + 1 : Nat) : Int)) rfl (ex_add rfl rfl rfl (by rw [i64_in (by omega)]; omega)) ?_
        simp only [zP, po]
        refine xA (vI ((a + 1 : Nat) : Int)) rfl (wL ?_)
        simp only [zP, po]
        refine then_normal ?_
        go_roundw
        case rel => exact ⟨a + 1, _, rfl, by omega, hin2, ((hv.front 1 rfl).front 1 rfl)⟩
        case measure => show s.length + 1 - (((a + 1 : Nat) : Int)).toNat < s.length + 1 - ((a : Int)).toNat; omega
       refine xG (.bool false) rfl (ex_geq rfl rfl rfl (qF hb101)) ?_
       simp only [zP, po]
       refine wK k100 (cF rfl ?_)
       refine rL (xM (.slice (some ⟨b15, 0, none⟩) (s.length + 1) (s.length + 1)) rfl ?_)
       simp only [zP, po]
       refine xM (vI a) rfl ?_
       simp only [zP, po]
       refine xM (.int .u8 (chr s ((a - 1)) : Int)) rfl ?_
       simp only [zP, po]
       refine xM (.int .u8 (lit : Int)) rfl ?_
       simp only [zP, po]
       refine xG (.bool (decide ((chr s ((a - 1)) : Int) = (lit : Int)))) rfl (ex_eql rfl rfl rfl rfl) ?_
       simp only [zP, po]
       refine xG (.pointer (some ⟨b15, 0 + a, none⟩)) rfl (ex_index rfl rfl rfl (run_idx1 (k := a) Tryz.underlying90 r2ces90 (by omega))) ?_
       simp only [zP, po]
       refine sl_storeAt 0 (v := .bool (decide ((chr s ((a - 1)) : Int) = (lit : Int)))) (L' := bV (n.set a (decide ((chr s ((a - 1)) : Int) = (lit : Int))))) tV (wn rfl) rfl rfl rfl hv rfl r2csz4 (by rw [bV_len]; have := hnl; omega) rfl rfl (by rw [Nat.zero_add]; exact bV_set) (fun w104 hv => ?_)
       simp only [zO] at hv
       have hin2 := hin.set (v := decide ((chr s ((a - 1)) : Int) = (lit : Int))) (by omega) (⟨fun h9 => (rnext_byte hsf).2 ⟨by omega, hz94, (by rw [hps.li (by omega) (by omega) (by omega) _ (chr256 s _)]; have h8 := of_decide_eq_true h9; exact qT (by omega))⟩, fun h9 => (by have h8 := ((rnext_byte hsf).1 h9).2.2; rw [hps.li (by omega) (by omega) (by omega) _ (chr256 s _)] at h8; have h7 := of_decide_eq_true h8; exact qT (by omega))⟩)
       refine wL ?_
       simp only [zP, po]
       refine bN (tK k79 ?_)
       refine rL (xM (vI a) rfl ?_)
       simp only [zP, po]
       refine xG (vI ((a + 1 : Nat) : Int)) rfl (ex_add rfl rfl rfl (by rw [i64_in (by omega)]; omega)) ?_
       simp only [zP, po]
       refine xA (vI ((a + 1 : Nat) : Int)) rfl (wL ?_)
       simp only [zP, po]
       refine then_normal ?_
       go_roundw
       case rel => exact ⟨a + 1, _, rfl, by omega, hin2, ((hv.front 1 rfl).front 1 rfl)⟩
       case measure => show s.length + 1 - (((a + 1 : Nat) : Int)).toNat < s.length + 1 - ((a : Int)).toNat; omega
      refine xG (.bool false) rfl (ex_leq rfl rfl rfl (qF hb78)) ?_
      simp only [zP, po]
      refine wK k77 (cF rfl ?_)
      refine xE (tX ?_)
      refine tX (bH ?_)
      refine tK k73 (sK fun _ k105 => ?_)
      refine sK fun _ k106 => ?_
      obtain rfl : a = s.length + 1 := by omega
      refine rL (xM (vI k) rfl ?_)
      simp only [zP, po]
      by_cases hb107 : k ≥ 0
      ·refine xG (.bool true) rfl (ex_geq rfl rfl rfl (qT hb107)) ?_
       simp only [zP, po]
       refine wK k106 (cT rfl ?_)
       obtain ⟨kk, rfl⟩ : ∃ kk : Nat, k = (kk : Int) := ⟨k.toNat, by omega⟩
       obtain ⟨hk91, hk1, hk2, hk3⟩ := hps.cl (by omega)
       rw [Int.toNat_natCast] at hk1 hk2
       refine rL (xM (vI kk) rfl ?_)
       simp only [zP, po]
       refine xA (vI kk) rfl ?_
       simp only [zP, po]
       refine wK k105 (sK fun _ k108 => ?_)
       refine sK fun _ k109 => rL (xM (.bool esc) rfl ?_)
       simp only [zP, po]
       refine wK k109 (wpIn_cond_split (t := esc) rfl (fun hc110 => ?_) (fun hc110 => ?_))
       ·have hes := hps.es hc110
        refine rL (xM (vI kk) rfl ?_)
        simp only [zP, po]
        refine xG (vI ((kk + 1 : Nat) : Int)) rfl (ex_add rfl rfl rfl (by rw [i64_in (by omega)]; omega)) ?_
        simp only [zP, po]
        refine xA (vI ((kk + 1 : Nat) : Int)) rfl ?_
        simp only [zP, po]
        refine wK k108 (rL ?_)
        refine xM (.slice (some ⟨b15, 0, none⟩) (s.length + 1) (s.length + 1)) rfl ?_
        simp only [zP, po]
        refine xA (.slice (some ⟨b15, 0, none⟩) (s.length + 1) (s.length + 1)) rfl (wL ?_)
        simp only [zP, po]
        refine bN (tK k13 ?_)
        refine rL (xM (vI ((kk + 1 : Nat) : Int)) rfl ?_)
        simp only [zP, po]
        refine xG (vI ((kk + 2 : Nat) : Int)) rfl (ex_add rfl rfl rfl (by rw [i64_in (by omega)]; omega)) ?_
        simp only [zP, po]
        refine xA (vI ((kk + 2 : Nat) : Int)) rfl (wL ?_)
        simp only [zP, po]
        refine then_normal ?_
        go_roundw
        case rel => exact ⟨kk + 2, b15, n, rfl, rfl, by omega, rinv_step hri (by have h9 := hps.dv; rw [if_pos (by omega), if_pos hc110] at h9; exact h9) hin.len hin.all, (hv.kp [] 1 1)⟩
        case measure => show p.length - (((kk + 2 : Nat) : Int)).toNat < p.length - ((i : Int)).toNat; omega
       refine kS (tK k108 ?_)
       refine rL (xM (.slice (some ⟨b15, 0, none⟩) (s.length + 1) (s.length + 1)) rfl ?_)
       simp only [zP, po]
       refine xA (.slice (some ⟨b15, 0, none⟩) (s.length + 1) (s.length + 1)) rfl (wL ?_)
       simp only [zP, po]
       refine bN (tK k13 ?_)
       refine rL (xM (vI kk) rfl ?_)
       simp only [zP, po]
       refine xG (vI ((kk + 1 : Nat) : Int)) rfl (ex_add rfl rfl rfl (by rw [i64_in (by omega)]; omega)) ?_
       simp only [zP, po]
       refine xA (vI ((kk + 1 : Nat) : Int)) rfl (wL ?_)
       simp only [zP, po]
       refine then_normal ?_
       go_roundw
       case rel => exact ⟨kk + 1, b15, n, rfl, rfl, by omega, rinv_step hri (by have h9 := hps.dv; rw [if_pos (by omega), if_neg (by rw [hc110]; decide)] at h9; exact h9) hin.len hin.all, (hv.kp [] 1 1)⟩
       case measure => show p.length - (((kk + 1 : Nat) : Int)).toNat < p.length - ((i : Int)).toNat; omega
      refine xG (.bool false) rfl (ex_geq rfl rfl rfl (qF hb107)) ?_
      simp only [zP, po]
      refine wK k106 (cF rfl ?_)
      refine kS (tK k105 ?_)
      refine sK fun _ k111 => sK fun _ k112 => rL (xM (.bool esc) rfl ?_)
      simp only [zP, po]
      refine wK k112 (wpIn_cond_split (t := esc) rfl (fun hc113 => ?_) (fun hc113 => ?_))
      ·have hes := hps.es hc113
       refine rL (xM (vI i) rfl ?_)
       simp only [zP, po]
       refine xG (vI ((i + 1 : Nat) : Int)) rfl (ex_add rfl rfl rfl (by rw [i64_in (by omega)]; omega)) ?_
       simp only [zP, po]
       refine xA (vI ((i + 1 : Nat) : Int)) rfl ?_
       simp only [zP, po]
       refine wK k111 (rL ?_)
       refine xM (.slice (some ⟨b15, 0, none⟩) (s.length + 1) (s.length + 1)) rfl ?_
       simp only [zP, po]
       refine xA (.slice (some ⟨b15, 0, none⟩) (s.length + 1) (s.length + 1)) rfl (wL ?_)
       simp only [zP, po]
       refine bN (tK k13 ?_)
       refine rL (xM (vI ((i + 1 : Nat) : Int)) rfl ?_)
       simp only [zP, po]
       refine xG (vI ((i + 2 : Nat) : Int)) rfl (ex_add rfl rfl rfl (by rw [i64_in (by omega)]; omega)) ?_
       simp only [zP, po]
       refine xA (vI ((i + 2 : Nat) : Int)) rfl (wL ?_)
       simp only [zP, po]
       refine then_normal ?_
       go_roundw
       case rel => exact ⟨i + 2, b15, n, rfl, rfl, by omega, rinv_step hri (by have h9 := hps.dv; rw [if_neg (by omega), if_pos hc113] at h9; exact h9) hin.len hin.all, (hv.kp [] 1 1)⟩
       case measure => show p.length - (((i + 2 : Nat) : Int)).toNat < p.length - ((i : Int)).toNat; omega
      refine kS (tK k111 ?_)
      refine rL (xM (.slice (some ⟨b15, 0, none⟩) (s.length + 1) (s.length + 1)) rfl ?_)
      simp only [zP, po]
      refine xA (.slice (some ⟨b15, 0, none⟩) (s.length + 1) (s.length + 1)) rfl (wL ?_)
      simp only [zP, po]
      refine bN (tK k13 ?_)
      refine rL (xM (vI i) rfl ?_)
      simp only [zP, po]
      refine xG (vI ((i + 1 : Nat) : Int)) rfl (ex_add rfl rfl rfl (by rw [i64_in (by omega)]; omega)) ?_
      simp only [zP, po]
      refine xA (vI ((i + 1 : Nat) : Int)) rfl (wL ?_)
      simp only [zP, po]
      refine then_normal ?_
      go_roundw
      case rel => exact ⟨i + 1, b15, n, rfl, rfl, by omega, rinv_step hri (by have h9 := hps.dv; rw [if_neg (by omega), if_neg (by rw [hc113]; decide)] at h9; exact h9) hin.len hin.all, (hv.kp [] 1 1)⟩
      case measure => show p.length - (((i + 1 : Nat) : Int)).toNat < p.length - ((i : Int)).toNat; omega
    refine sK fun _ k114 => rL (xM (.bool false) rfl ?_)
    simp only [zP, po]
    refine wK k114 (cF rfl ?_)
    refine kS (then_normal (hJ71 (qq : Int) (chr p (i)) false (⟨false, ws⟩) _ _ _ _ _ _ (pstep_class (by omega) (by omega) hk) (by omega) hv))
   refine xG (.bool false) rfl (ex_eql rfl rfl rfl (qF hb21)) ?_
   simp only [zP, po]
   refine wK k19 (cF rfl ?_)
   refine kS (tK k18 ?_)
   refine sK fun _ k115 => rL (xM (vS p) rfl ?_)
   simp only [zP, po]
   refine xM (vI i) rfl ?_
   simp only [zP, po]
   refine xG (.int .u8 (chr p (i) : Int)) rfl ((by rw [hy20c]; exact ex_sidx0 Tryz.underlying9 rfl rfl rfl hy20)) ?_
   simp only [zP, po]
   refine xA (.int .u8 (chr p (i) : Int)) rfl ?_
   simp only [zP, po]
   refine wK k115 (sK fun _ k116 => ?_)
   refine rL (xM (vS p) rfl ?_)
   simp only [zP, po]
   refine xM (vI i) rfl ?_
   simp only [zP, po]
   refine xG (.int .u8 (chr p (i) : Int)) rfl ((by rw [hy20c]; exact ex_sidx0 Tryz.underlying9 rfl rfl rfl hy20)) ?_
   simp only [zP, po]
   by_cases hb117 : (chr p (i) : Int) = 92
   ·refine xG (.bool true) rfl (ex_eql rfl rfl rfl (qT hb117)) ?_
    simp only [zP, po]
    refine xM (.bool true) rfl ?_
    simp only [zP, po]
    refine xM (vI i) rfl ?_
    simp only [zP, po]
    refine xG (vI ((i + 1 : Nat) : Int)) rfl (ex_add rfl rfl rfl (by rw [i64_in (by omega)]; omega)) ?_
    simp only [zP, po]
    refine xM (vS p) rfl ?_
    simp only [zP, po]
    refine xG (vI (p.length : Int)) rfl (ex_lenStr Tryz.underlying9 rfl rfl) ?_
    simp only [zP, po]
    by_cases hb118 : ((i + 1 : Nat) : Int) < (p.length : Int)
    ·refine xG (.bool true) rfl (ex_lss rfl rfl rfl (qT hb118)) ?_
     simp only [zP, po]
     refine xK true (.bool true) rfl ?_
     simp only [zP, po]
     refine xA (.bool true) rfl ?_
     simp only [zP, po]
     refine wK k116 (sK fun K119 k119 => ?_)
     have hJ119 : ∀ (k : Int) (lit : Nat) (esc : Bool) (x : Part) (j50 j51 j52 j53 j54 : Value) (w120 : World), (PStep p i k lit esc x) → (i < p.length) → Inv B (Res.cell b15 (bV (List.replicate (s.length + 1) false)) 4 :: Res.cell b (bV q) 4 :: H) w120 → K119 { tmps := (vS p :: vS s :: undef :: undef :: Value.bool false :: Value.slice (some ⟨b, 0, none⟩) (s.length + 1) (s.length + 1) :: vI i :: Value.slice (some ⟨b15, 0, none⟩) (s.length + 1) (s.length + 1) :: vI k :: Value.int .u8 (lit : Int) :: Value.bool esc :: u11 :: u12 :: vS s :: vI (s.length : Int) :: vI ((s.length + 1 : Nat) : Int) :: Value.slice (some ⟨b3, 0, none⟩) (s.length + 1) (s.length + 1) :: Value.slice (some ⟨b3, 0, none⟩) (s.length + 1) (s.length + 1) :: Value.pointer (some ⟨b3, 0 + 0, none⟩) :: vI i :: vS p :: vI (p.length : Int) :: Value.bool true :: u23 :: u24 :: vS s :: vI (s.length : Int) :: vI ((s.length + 1 : Nat) : Int) :: Value.slice (some ⟨b15, 0, none⟩) (s.length + 1) (s.length + 1) :: vS p :: vI i :: Value.int .u8 (chr p (i) : Int) :: Value.bool false :: u33 :: u34 :: u35 :: vS p :: vI i :: Value.int .u8 (chr p (i) : Int) :: vS p :: vI i :: Value.int .u8 (chr p (i) : Int) :: Value.bool true :: Value.bool true :: vI i :: vI ((i + 1 : Nat) : Int) :: vS p :: vI (p.length : Int) :: Value.bool true :: Value.bool true :: j50 :: j51 :: j52 :: j53 :: j54 :: u55 :: u56 :: u57 :: u58 :: u59 :: u60 :: u61 :: u62 :: u63 :: u64 :: u65 :: u66 :: u67 :: u68 :: u69 :: u70 :: u71 :: u72 :: u73 :: u74 :: u75 :: u76 :: u77 :: u78 :: u79 :: u80 :: u81 :: u82 :: u83 :: u84 :: u85 :: u86 :: u87 :: u88 :: u89 :: u90 :: u91 :: u92 :: u93 :: u94 :: u95 :: u96 :: u97 :: u98 :: u99 :: u100 :: u101 :: u102 :: u103 :: u104 :: u105 :: u106 :: u107 :: u108 :: u109 :: u110 :: u111 :: u112 :: u113 :: u114 :: u115 :: u116 :: u117 :: u118 :: u119 :: u120 :: u121 :: u122 :: u123 :: u124 :: u125 :: u126 :: u127 :: u128 :: undef :: undef :: undef :: undef :: undef :: []).toArray, defers := [] } w120 := by
      intro k lit esc x j50 j51 j52 j53 j54 w120 hps hil hv
      refine k119 _ _ (sK fun _ k121 => ?_)
      refine sK fun _ k122 => rL (xA (vI 0) rfl ?_)
      simp only [zP, po]
      refine wK k122 (bB ?_)
      gi_loopw [11] (fun x11 wr => ∃ (a : Nat) (n : List Bool), x11 = vI a ∧ a ≤ s.length + 1 ∧ Inn s x q a n ∧ Inv B (Res.cell b15 (bV n) 4 :: Res.cell b (bV q) 4 :: H) wr) (fun x11 _ => s.length + 1 - (intOf x11).toNat)
      case atStart => exact ⟨0, _, rfl, Nat.zero_le _, Inn.start s x q, ((hv.front 1 rfl).front 1 rfl)⟩
      case round =>
       obtain ⟨a, n, rfl, ha, hin, hv⟩ := hrel
       have hql := hri.1
       have hnl := hin.len
       refine sK fun _ k124 => sK fun _ k125 => rL (xM (vI a) rfl ?_)
       simp only [zP, po]
       refine xM (vS s) rfl ?_
       simp only [zP, po]
       refine xG (vI (s.length : Int)) rfl (ex_lenStr Tryz.underlying9 rfl rfl) ?_
       simp only [zP, po]
       by_cases hb126 : (a : Int) ≤ (s.length : Int)
       ·refine xG (.bool true) rfl (ex_leq rfl rfl rfl (qT hb126)) ?_
        simp only [zP, po]
        refine wK k125 (cT rfl ?_)
        refine kS (tK k124 ?_)
        refine sK fun _ k127 => bB (sK fun _ k128 => ?_)
        refine sK fun _ k129 => rL (xM (vS p) rfl ?_)
        simp only [zP, po]
        refine xM (vI i) rfl ?_
        simp only [zP, po]
        obtain ⟨y130, hy130⟩ : ∃ y, p[i]? = some y := ⟨_, List.getElem?_eq_getElem (show i < p.length by omega)⟩
        have hy130c := chr_at hy130
        refine xG (.int .u8 (chr p (i) : Int)) rfl ((by rw [hy130c]; exact ex_sidx0 Tryz.underlying9 rfl rfl rfl hy130)) ?_
        simp only [zP, po]
        by_cases hb131 : (chr p (i) : Int) = 42
        ·refine xG (.bool true) rfl (ex_eql rfl rfl rfl (qT hb131)) ?_
         simp only [zP, po]
         refine wK k129 (cT rfl ?_)
         refine sK fun _ k132 => ?_
         have hst : x.star = true := by rw [hps.st]; exact qT (by omega)
         refine rL (xM (.slice (some ⟨b15, 0, none⟩) (s.length + 1) (s.length + 1)) rfl ?_)
         simp only [zP, po]
         refine xM (vI a) rfl ?_
         simp only [zP, po]
         refine xM (.slice (some ⟨b, 0, none⟩) (s.length + 1) (s.length + 1)) rfl ?_
         simp only [zP, po]
         refine xM (vI a) rfl ?_
         simp only [zP, po]
         refine xG (.pointer (some ⟨b, 0 + a, none⟩)) rfl (ex_index rfl rfl rfl (run_idx1 (k := a) Tryz.underlying90 r2ces90 (by omega))) ?_
         simp only [zP, po]
         obtain ⟨z133, hz133⟩ : ∃ y, q[a]? = some y := ⟨_, List.getElem?_eq_getElem (show a < q.length by have := hql; omega)⟩
         refine xL (.bool z133) rfl (run_load1 r2cna4 (hv.load 1 (0 + a) rfl (by rw [Nat.zero_add]; exact bV_get hz133))) ?_
         simp only [zP, po]
         refine xM (.bool z133) rfl ?_
         simp only [zP, po]
         cases z133
         ·refine xM (vI a) rfl ?_
          simp only [zP, po]
          by_cases hb134 : (a : Int) > 0
          ·refine xG (.bool true) rfl (ex_gtr rfl rfl rfl (qT hb134)) ?_
           simp only [zP, po]
           refine xM (.bool true) rfl ?_
           simp only [zP, po]
           refine xM (.slice (some ⟨b15, 0, none⟩) (s.length + 1) (s.length + 1)) rfl ?_
           simp only [zP, po]
           refine xM (vI a) rfl ?_
           simp only [zP, po]
           refine xG (vI ((a - 1 : Nat) : Int)) rfl (ex_sub rfl rfl rfl (by rw [i64_in (by omega)]; omega)) ?_
           simp only [zP, po]
           refine xG (.pointer (some ⟨b15, 0 + (a - 1 : Nat), none⟩)) rfl (ex_index rfl rfl rfl (run_idx1 (k := (a - 1 : Nat)) Tryz.underlying90 r2ces90 (by omega))) ?_
           simp only [zP, po]
           obtain ⟨z135, hz135⟩ : ∃ y, n[(a - 1)]? = some y := ⟨_, List.getElem?_eq_getElem (show (a - 1) < n.length by have := hnl; omega)⟩
           refine xL (.bool z135) rfl (run_load1 r2cna4 (hv.load 0 (0 + (a - 1)) rfl (by rw [Nat.zero_add]; exact bV_get hz135))) ?_
           simp only [zP, po]
           refine xK true (.bool z135) rfl ?_
           simp only [zP, po]
           refine xK false (.bool z135) rfl ?_
           simp only [zP, po]
           refine xG (.pointer (some ⟨b15, 0 + a, none⟩)) rfl (ex_index rfl rfl rfl (run_idx1 (k := a) Tryz.underlying90 r2ces90 (by omega))) ?_
           simp only [zP, po]
           refine sl_storeAt 0 (v := .bool z135) (L' := bV (n.set a z135)) tV (wn rfl) rfl rfl rfl hv rfl r2csz4 (by rw [bV_len]; have := hnl; omega) rfl rfl (by rw [Nat.zero_add]; exact bV_set) (fun w136 hv => ?_)
           simp only [zO] at hv
           have hin2 := hin.set (v := z135) (by omega) (⟨fun h9 => (rnext_star hst).2 (.inr ⟨by omega, (hin.done _ (by omega)).1 (by rw [hz135, h9])⟩), fun h9 => ((rnext_star hst).1 h9).elim (fun h8 => by rw [hz133] at h8; cases h8) (fun h8 => Option.some.inj (hz135.symm.trans ((hin.done _ (by omega)).2 h8.2)))⟩)
           simp only [zP, po]
           refine wK k132 (xE ?_)
           refine tX (bH ?_)
           refine tK k127 (rL ?_)
           refine xM (vI a) rfl ?_
           simp only [zP, po]
           refine xG (vI ((a + 1 : Nat) : Int)) rfl (ex_add rfl rfl rfl (by rw [i64_in (by omega)]; omega)) ?_
           simp only [zP, po]
           refine xA (vI ((a + 1 : Nat) : Int)) rfl (wL ?_)
           simp only [zP, po]
           refine then_normal ?_
           go_roundw
           case rel => exact ⟨a + 1, _, rfl, by omega, hin2, ((hv.front 1 rfl).front 1 rfl)⟩
           case measure => show s.length + 1 - (((a + 1 : Nat) : Int)).toNat < s.length + 1 - ((a : Int)).toNat; omega
          refine xG (.bool false) rfl (ex_gtr rfl rfl rfl (qF hb134)) ?_
          simp only [zP, po]
          refine xM (.bool false) rfl ?_
          simp only [zP, po]
          refine yP rfl ?_
          simp only [zP, po]
          refine yP rfl ?_
          simp only [zP, po]
          refine yP rfl ?_
          simp only [zP, po]
          refine yP rfl ?_
          simp only [zP, po]
          refine yP rfl ?_
          simp only [zP, po]
          refine xK false (.bool false) rfl ?_
          simp only [zP, po]
          refine xK false (.bool false) rfl ?_
          simp only [zP, po]
          refine xG (.pointer (some ⟨b15, 0 + a, none⟩)) rfl (ex_index rfl rfl rfl (run_idx1 (k := a) Tryz.underlying90 r2ces90 (by omega))) ?_
          simp only [zP, po]
          refine sl_storeAt 0 (v := .bool false) (L' := bV (n.set a false)) tV (wn rfl) rfl rfl rfl hv rfl r2csz4 (by rw [bV_len]; have := hnl; omega) rfl rfl (by rw [Nat.zero_add]; exact bV_set) (fun w137 hv => ?_)
          simp only [zO] at hv
          have hin2 := hin.set (v := false) (by omega) (⟨fun h9 => (by cases h9), fun h9 => ((rnext_star hst).1 h9).elim (fun h8 => by rw [hz133] at h8; cases h8) (fun h8 => by omega)⟩)
          simp only [zP, po]
          refine wK k132 (xE ?_)
          refine tX (bH ?_)
          refine tK k127 (rL ?_)
          refine xM (vI a) rfl ?_
          simp only [zP, po]
          refine xG (vI ((a + 1 : Nat) : Int)) rfl (ex_add rfl rfl rfl (by rw [i64_in (by omega)]; omega)) ?_
          simp only [zP, po]
          refine xA (vI ((a + 1 : Nat) : Int)) rfl (wL ?_)
          simp only [zP, po]
          refine then_normal ?_
          go_roundw
          case rel => exact ⟨a + 1, _, rfl, by omega, hin2, ((hv.front 1 rfl).front 1 rfl)⟩
          case measure => show s.length + 1 - (((a + 1 : Nat) : Int)).toNat < s.length + 1 - ((a : Int)).toNat; omega
         refine yP rfl ?_
         simp only [zP, po]
         refine yP rfl ?_
         simp only [zP, po]
         refine yP rfl ?_
         simp only [zP, po]
         refine yP rfl ?_
         simp only [zP, po]
         refine yP rfl ?_
         simp only [zP, po]
         refine yP rfl ?_
         simp only [zP, po]
         refine yP rfl ?_
         simp only [zP, po]
         refine yP rfl ?_
         simp only [zP, po]
         refine yP rfl ?_
         simp only [zP, po]
         refine xK true (.bool true) rfl ?_
         simp only [zP, po]
         refine xG (.pointer (some ⟨b15, 0 + a, none⟩)) rfl (ex_index rfl rfl rfl (run_idx1 (k := a) Tryz.underlying90 r2ces90 (by omega))) ?_
         simp only [zP, po]
         refine sl_storeAt 0 (v := .bool true) (L' := bV (n.set a true)) tV (wn rfl) rfl rfl rfl hv rfl r2csz4 (by rw [bV_len]; have := hnl; omega) rfl rfl (by rw [Nat.zero_add]; exact bV_set) (fun w138 hv => ?_)
         simp only [zO] at hv
         have hin2 := hin.set (v := true) (by omega) (⟨fun _ => (rnext_star hst).2 (.inl hz133), fun _ => rfl⟩)
         simp only [zP, po]
         refine wK k132 (xE ?_)
         refine tX (bH ?_)
         refine tK k127 (rL ?_)
         refine xM (vI a) rfl ?_
         simp only [zP, po]
         refine xG (vI ((a + 1 : Nat) : Int)) rfl (ex_add rfl rfl rfl (by rw [i64_in (by omega)]; omega)) ?_
         simp only [zP, po]
         refine xA (vI ((a + 1 : Nat) : Int)) rfl (wL ?_)
         simp only [zP, po]
         refine then_normal ?_
         go_roundw
         case rel => exact ⟨a + 1, _, rfl, by omega, hin2, ((hv.front 1 rfl).front 1 rfl)⟩
         case measure => show s.length + 1 - (((a + 1 : Nat) : Int)).toNat < s.length + 1 - ((a : Int)).toNat; omega
        refine xG (.bool false) rfl (ex_eql rfl rfl rfl (qF hb131)) ?_
        simp only [zP, po]
        refine wK k129 (cF rfl ?_)
        refine kS (tK k128 ?_)
        refine sK fun _ k139 => sK fun _ k140 => ?_
        have hsf : x.star = false := by rw [hps.st]; exact qF (by omega)
        refine rL (xM (vI a) rfl ?_)
        simp only [zP, po]
        by_cases hb141 : (a : Int) = 0
        ·refine xG (.bool true) rfl (ex_eql rfl rfl rfl (qT hb141)) ?_
         simp only [zP, po]
         refine xM (.bool true) rfl ?_
         simp only [zP, po]
         refine yP rfl ?_
         simp only [zP, po]
         refine yP rfl ?_
         simp only [zP, po]
         refine yP rfl ?_
         simp only [zP, po]
         refine yP rfl ?_
         simp only [zP, po]
         refine yP rfl ?_
         simp only [zP, po]
         refine yP rfl ?_
         simp only [zP, po]
         refine xK true (.bool true) rfl ?_
         simp only [zP, po]
         refine wK k140 (cT rfl ?_)
         refine xE (tX ?_)
         refine bH (tK k127 ?_)
         refine rL (xM (vI a) rfl ?_)
         simp only [zP, po]
         refine xG (vI ((a + 1 : Nat) : Int)) rfl (ex_add rfl rfl rfl (by rw [i64_in (by omega)]; omega)) ?_
         simp only [zP, po]
         refine xA (vI ((a + 1 : Nat) : Int)) rfl (wL ?_)
         simp only [zP, po]
         refine then_normal ?_
         go_roundw
         case rel => exact ⟨a + 1, n, rfl, by omega, hin.skip (by omega) (fun h9 => absurd ((rnext_byte hsf).1 h9).1 (by omega)), ((hv.front 1 rfl).front 1 rfl)⟩
         case measure => show s.length + 1 - (((a + 1 : Nat) : Int)).toNat < s.length + 1 - ((a : Int)).toNat; omega
        refine xG (.bool false) rfl (ex_eql rfl rfl rfl (qF hb141)) ?_
        simp only [zP, po]
        refine xM (.bool false) rfl ?_
        simp only [zP, po]
        refine xM (.slice (some ⟨b, 0, none⟩) (s.length + 1) (s.length + 1)) rfl ?_
        simp only [zP, po]
        refine xM (vI a) rfl ?_
        simp only [zP, po]
        refine xG (vI ((a - 1 : Nat) : Int)) rfl (ex_sub rfl rfl rfl (by rw [i64_in (by omega)]; omega)) ?_
        simp only [zP, po]
        refine xG (.pointer (some ⟨b, 0 + (a - 1 : Nat), none⟩)) rfl (ex_index rfl rfl rfl (run_idx1 (k := (a - 1 : Nat)) Tryz.underlying90 r2ces90 (by omega))) ?_
        simp only [zP, po]
        obtain ⟨z142, hz142⟩ : ∃ y, q[(a - 1)]? = some y := ⟨_, List.getElem?_eq_getElem (show (a - 1) < q.length by have := hql; omega)⟩
        cases z142
        ·refine xL (.bool false) rfl (run_load1 r2cna4 (hv.load 1 (0 + (a - 1)) rfl (by rw [Nat.zero_add]; exact bV_get hz142))) ?_
         simp only [zP, po]
         refine xG (.bool true) rfl (ex_not rfl rfl rfl) ?_
         simp only [zP, po]
         refine xK false (.bool true) rfl ?_
         simp only [zP, po]
         refine wK k140 (cT rfl ?_)
         refine xE (tX ?_)
         refine bH (tK k127 ?_)
         refine rL (xM (vI a) rfl ?_)
         simp only [zP, po]
         refine xG (vI ((a + 1 : Nat) : Int)) rfl (ex_add rfl rfl rfl (by rw [i64_in (by omega)]; omega)) ?_
         simp only [zP, po]
         refine xA (vI ((a + 1 : Nat) : Int)) rfl (wL ?_)
         simp only [zP, po]
         refine then_normal ?_
         go_roundw
         case rel => exact ⟨a + 1, n, rfl, by omega, hin.skip (by omega) (fun h9 => absurd ((rnext_byte hsf).1 h9).2.1 (by rw [hz142]; decide)), ((hv.front 1 rfl).front 1 rfl)⟩
         case measure => show s.length + 1 - (((a + 1 : Nat) : Int)).toNat < s.length + 1 - ((a : Int)).toNat; omega
        refine xL (.bool true) rfl (run_load1 r2cna4 (hv.load 1 (0 + (a - 1)) rfl (by rw [Nat.zero_add]; exact bV_get hz142))) ?_
        simp only [zP, po]
        refine xG (.bool false) rfl (ex_not rfl rfl rfl) ?_
        simp only [zP, po]
        refine xK false (.bool false) rfl ?_
        simp only [zP, po]
        refine wK k140 (cF rfl ?_)
        refine kS (tK k139 ?_)
        refine sK fun _ k143 => rL (xM (vS s) rfl ?_)
        simp only [zP, po]
        refine xM (vI a) rfl ?_
        simp only [zP, po]
        refine xG (vI ((a - 1 : Nat) : Int)) rfl (ex_sub rfl rfl rfl (by rw [i64_in (by omega)]; omega)) ?_
        simp only [zP, po]
        obtain ⟨y144, hy144⟩ : ∃ y, s[(a - 1)]? = some y := ⟨_, List.getElem?_eq_getElem (show (a - 1) < s.length by omega)⟩
        have hy144c := chr_at hy144
        refine xG (.int .u8 (chr s ((a - 1)) : Int)) rfl ((by rw [hy144c]; exact ex_sidx0 Tryz.underlying9 rfl rfl rfl hy144)) ?_
        simp only [zP, po]
        refine xA (.int .u8 (chr s ((a - 1)) : Int)) rfl ?_
        simp only [zP, po]
        refine wK k143 (sK fun _ k145 => ?_)
        refine rL (xM (vS p) rfl ?_)
        simp only [zP, po]
        refine xM (vI i) rfl ?_
        simp only [zP, po]
        refine xG (.int .u8 (chr p (i) : Int)) rfl ((by rw [hy130c]; exact ex_sidx0 Tryz.underlying9 rfl rfl rfl hy130)) ?_
        simp only [zP, po]
        by_cases hb146 : (chr p (i) : Int) = 63
        ·refine xG (.bool true) rfl (ex_eql rfl rfl rfl (qT hb146)) ?_
         simp only [zP, po]
         refine wK k145 (cT rfl ?_)
         refine rL (xM (.slice (some ⟨b15, 0, none⟩) (s.length + 1) (s.length + 1)) rfl ?_)
         simp only [zP, po]
         refine xM (vI a) rfl ?_
         simp only [zP, po]
         refine xG (.pointer (some ⟨b15, 0 + a, none⟩)) rfl (ex_index rfl rfl rfl (run_idx1 (k := a) Tryz.underlying90 r2ces90 (by omega))) ?_
         simp only [zP, po]
         refine sl_storeAt 0 (v := .bool true) (L' := bV (n.set a true)) tV (wn rfl) rfl rfl rfl hv rfl r2csz4 (by rw [bV_len]; have := hnl; omega) rfl rfl (by rw [Nat.zero_add]; exact bV_set) (fun w147 hv => ?_)
         simp only [zO] at hv
         have hin2 := hin.set (v := true) (by omega) (⟨fun h9 => (rnext_byte hsf).2 ⟨by omega, hz142, hps.an (by omega) _ (chr256 s _)⟩, fun h9 => rfl⟩)
         refine wL ?_
         simp only [zP, po]
         refine bN (tK k127 ?_)
         refine rL (xM (vI a) rfl ?_)
         simp only [zP, po]
         refine xG (vI ((a + 1 : Nat) : Int)) rfl (ex_add rfl rfl rfl (by rw [i64_in (by omega)]; omega)) ?_
         simp only [zP, po]
         refine xA (vI ((a + 1 : Nat) : Int)) rfl (wL ?_)
         simp only [zP, po]
         refine then_normal ?_
         go_roundw
         case rel => exact ⟨a + 1, _, rfl, by omega, hin2, ((hv.front 1 rfl).front 1 rfl)⟩
         case measure => show s.length + 1 - (((a + 1 : Nat) : Int)).toNat < s.length + 1 - ((a : Int)).toNat; omega
        refine xG (.bool false) rfl (ex_eql rfl rfl rfl (qF hb146)) ?_
        simp only [zP, po]
        refine wK k145 (cF rfl ?_)
        refine sK fun _ k148 => rL (xM (vI k) rfl ?_)
        simp only [zP, po]
        by_cases hb149 : k ≥ 0
        ·refine xG (.bool true) rfl (ex_geq rfl rfl rfl (qT hb149)) ?_
         simp only [zP, po]
         refine wK k148 (cT rfl ?_)
         obtain ⟨kk, rfl⟩ : ∃ kk : Nat, k = (kk : Int) := ⟨k.toNat, by omega⟩
         obtain ⟨hk91, hk1, hk2, hk3⟩ := hps.cl (by omega)
         rw [Int.toNat_natCast] at hk1 hk2 hk3
         have hcq := hk3 (chr s (a - 1)) (chr256 s _)
         refine rL (xM (.slice (some ⟨b15, 0, none⟩) (s.length + 1) (s.length + 1)) rfl ?_)
         simp only [zP, po]
         refine xM (vI a) rfl ?_
         simp only [zP, po]
         refine xM (vS p) rfl ?_
         simp only [zP, po]
         refine xM (vI i) rfl ?_
         simp only [zP, po]
         refine xG (vI ((i + 1 : Nat) : Int)) rfl (ex_add rfl rfl rfl (by rw [i64_in (by omega)]; omega)) ?_
         simp only [zP, po]
         refine xM (vI kk) rfl ?_
         simp only [zP, po]
         refine xG (vS ((p.drop (i + 1)).take (kk - (i + 1)))) rfl (ex_slice (lo' := some (vI ((i + 1 : Nat) : Int))) (hi' := some (vI kk)) rfl rfl (congrArg some rfl) (congrArg some rfl) rfl (run_cut Tryz.underlying9 (by omega) (by omega) _)) ?_
         simp only [zP, po]
         refine xM (.int .u8 (chr s ((a - 1)) : Int)) rfl ?_
         simp only [zP, po]
         rw [show (p.take kk).drop (i + 1) = (p.drop (i + 1)).take (kk - (i + 1)) from by rw [List.drop_take]] at hcq
         refine xC r2ccallable34 rfl ((refClass B _ _ ((p.drop (i + 1)).take (kk - (i + 1))) (by rw [List.length_take, List.length_drop]; omega) (chr s (a - 1)) (chr256 s _) hv).mono ?_) rfl
         rintro e w150 ⟨rfl, hv⟩
         refine ⟨_, rfl, ?_⟩
         simp only [zP, po]
         refine xG (.pointer (some ⟨b15, 0 + a, none⟩)) rfl (ex_index rfl rfl rfl (run_idx1 (k := a) Tryz.underlying90 r2ces90 (by omega))) ?_
         simp only [zP, po]
         refine sl_storeAt 0 (v := .bool (clsFit ((p.drop (i + 1)).take (kk - (i + 1))) (chr s (a - 1)))) (L' := bV (n.set a (clsFit ((p.drop (i + 1)).take (kk - (i + 1))) (chr s (a - 1))))) tV (wn rfl) rfl rfl rfl hv rfl r2csz4 (by rw [bV_len]; have := hnl; omega) rfl rfl (by rw [Nat.zero_add]; exact bV_set) (fun w151 hv => ?_)
         simp only [zO] at hv
         have hin2 := hin.set (v := (clsFit ((p.drop (i + 1)).take (kk - (i + 1))) (chr s (a - 1)))) (by omega) ((by rw [hcq]; exact ⟨fun h9 => (rnext_byte hsf).2 ⟨by omega, hz142, h9⟩, fun h9 => ((rnext_byte hsf).1 h9).2.2⟩))
         refine wL ?_
         simp only [zP, po]
         refine bN (tK k127 ?_)
         refine rL (xM (vI a) rfl ?_)
         simp only [zP, po]
         refine xG (vI ((a + 1 : Nat) : Int)) rfl (ex_add rfl rfl rfl (by rw [i64_in (by omega)]; omega)) ?_
         simp only [zP, po]
         refine xA (vI ((a + 1 : Nat) : Int)) rfl (wL ?_)
         simp only [zP, po]
         refine then_normal ?_
         go_roundw
         case rel => exact ⟨a + 1, _, rfl, by omega, hin2, ((hv.front 1 rfl).front 1 rfl)⟩
         case measure => show s.length + 1 - (((a + 1 : Nat) : Int)).toNat < s.length + 1 - ((a : Int)).toNat; omega
        refine xG (.bool false) rfl (ex_geq rfl rfl rfl (qF hb149)) ?_
        simp only [zP, po]
        refine wK k148 (cF rfl ?_)
        refine rL (xM (.slice (some ⟨b15, 0, none⟩) (s.length + 1) (s.length + 1)) rfl ?_)
        simp only [zP, po]
        refine xM (vI a) rfl ?_
        simp only [zP, po]
        refine xM (.int .u8 (chr s ((a - 1)) : Int)) rfl ?_
        simp only [zP, po]
        refine xM (.int .u8 (lit : Int)) rfl ?_
        simp only [zP, po]
        refine xG (.bool (decide ((chr s ((a - 1)) : Int) = (lit : Int)))) rfl (ex_eql rfl rfl rfl rfl) ?_
        simp only [zP, po]
        refine xG (.pointer (some ⟨b15, 0 + a, none⟩)) rfl (ex_index rfl rfl rfl (run_idx1 (k := a) Tryz.underlying90 r2ces90 (by omega))) ?_
        simp only [zP, po]
        refine sl_storeAt 0 (v := .bool (decide ((chr s ((a - 1)) : Int) = (lit : Int)))) (L' := bV (n.set a (decide ((chr s ((a - 1)) : Int) = (lit : Int))))) tV (wn rfl) rfl rfl rfl hv rfl r2csz4 (by rw [bV_len]; have := hnl; omega) rfl rfl (by rw [Nat.zero_add]; exact bV_set) (fun w152 hv => ?_)
        simp only [zO] at hv
        have hin2 := hin.set (v := decide ((chr s ((a - 1)) : Int) = (lit : Int))) (by omega) (⟨fun h9 => (rnext_byte hsf).2 ⟨by omega, hz142, (by rw [hps.li (by omega) (by omega) (by omega) _ (chr256 s _)]; have h8 := of_decide_eq_true h9; exact qT (by omega))⟩, fun h9 => (by have h8 := ((rnext_byte hsf).1 h9).2.2; rw [hps.li (by omega) (by omega) (by omega) _ (chr256 s _)] at h8; have h7 := of_decide_eq_true h8; exact qT (by omega))⟩)
        refine wL ?_
        simp only [zP, po]
        refine bN (tK k127 ?_)
        refine rL (xM (vI a) rfl ?_)
        simp only [zP, po]
        refine xG (vI ((a + 1 : Nat) : Int)) rfl (ex_add rfl rfl rfl (by rw [i64_in (by omega)]; omega)) ?_
        simp only [zP, po]
        refine xA (vI ((a + 1 : Nat) : Int)) rfl (wL ?_)
        simp only [zP, po]
        refine then_normal ?_
        go_roundw
        case rel => exact ⟨a + 1, _, rfl, by omega, hin2, ((hv.front 1 rfl).front 1 rfl)⟩
        case measure => show s.length + 1 - (((a + 1 : Nat) : Int)).toNat < s.length + 1 - ((a : Int)).toNat; omega
       refine xG (.bool false) rfl (ex_leq rfl rfl rfl (qF hb126)) ?_
       simp only [zP, po]
       refine wK k125 (cF rfl ?_)
       refine xE (tX ?_)
       refine tX (bH ?_)
       refine tK k121 (sK fun _ k153 => ?_)
       refine sK fun _ k154 => ?_
       obtain rfl : a = s.length + 1 := by omega
       refine rL (xM (vI k) rfl ?_)
       simp only [zP, po]
       by_cases hb155 : k ≥ 0
       ·refine xG (.bool true) rfl (ex_geq rfl rfl rfl (qT hb155)) ?_
        simp only [zP, po]
        refine wK k154 (cT rfl ?_)
        obtain ⟨kk, rfl⟩ : ∃ kk : Nat, k = (kk : Int) := ⟨k.toNat, by omega⟩
        obtain ⟨hk91, hk1, hk2, hk3⟩ := hps.cl (by omega)
        rw [Int.toNat_natCast] at hk1 hk2
        refine rL (xM (vI kk) rfl ?_)
        simp only [zP, po]
        refine xA (vI kk) rfl ?_
        simp only [zP, po]
        refine wK k153 (sK fun _ k156 => ?_)
        refine sK fun _ k157 => rL (xM (.bool esc) rfl ?_)
        simp only [zP, po]
        refine wK k157 (wpIn_cond_split (t := esc) rfl (fun hc158 => ?_) (fun hc158 => ?_))
        ·have hes := hps.es hc158
         refine rL (xM (vI kk) rfl ?_)
         simp only [zP, po]
         refine xG (vI ((kk + 1 : Nat) : Int)) rfl (ex_add rfl rfl rfl (by rw [i64_in (by omega)]; omega)) ?_
         simp only [zP, po]
         refine xA (vI ((kk + 1 : Nat) : Int)) rfl ?_
         simp only [zP, po]
         refine wK k156 (rL ?_)
         refine xM (.slice (some ⟨b15, 0, none⟩) (s.length + 1) (s.length + 1)) rfl ?_
         simp only [zP, po]
         refine xA (.slice (some ⟨b15, 0, none⟩) (s.length + 1) (s.length + 1)) rfl (wL ?_)
         simp only [zP, po]
         refine bN (tK k13 ?_)
         refine rL (xM (vI ((kk + 1 : Nat) : Int)) rfl ?_)
         simp only [zP, po]
         refine xG (vI ((kk + 2 : Nat) : Int)) rfl (ex_add rfl rfl rfl (by rw [i64_in (by omega)]; omega)) ?_
         simp only [zP, po]
         refine xA (vI ((kk + 2 : Nat) : Int)) rfl (wL ?_)
         simp only [zP, po]
         refine then_normal ?_
         go_roundw
         case rel => exact ⟨kk + 2, b15, n, rfl, rfl, by omega, rinv_step hri (by have h9 := hps.dv; rw [if_pos (by omega), if_pos hc158] at h9; exact h9) hin.len hin.all, (hv.kp [] 1 1)⟩
         case measure => show p.length - (((kk + 2 : Nat) : Int)).toNat < p.length - ((i : Int)).toNat; omega
        refine kS (tK k156 ?_)
        refine rL (xM (.slice (some ⟨b15, 0, none⟩) (s.length + 1) (s.length + 1)) rfl ?_)
        simp only [zP, po]
        refine xA (.slice (some ⟨b15, 0, none⟩) (s.length + 1) (s.length + 1)) rfl (wL ?_)
        simp only [zP, po]
        refine bN (tK k13 ?_)
        refine rL (xM (vI kk) rfl ?_)
        simp only [zP, po]
        refine xG (vI ((kk + 1 : Nat) : Int)) rfl (ex_add rfl rfl rfl (by rw [i64_in (by omega)]; omega)) ?_
        simp only [zP, po]
        refine xA (vI ((kk + 1 : Nat) : Int)) rfl (wL ?_)
        simp only [zP, po]
        refine then_normal ?_
        go_roundw
        case rel => exact ⟨kk + 1, b15, n, rfl, rfl, by omega, rinv_step hri (by have h9 := hps.dv; rw [if_pos (by omega), if_neg (by rw [hc158]; decide)] at h9; exact h9) hin.len hin.all, (hv.kp [] 1 1)⟩
        case measure => show p.length - (((kk + 1 : Nat) : Int)).toNat < p.length - ((i : Int)).toNat; omega
       refine xG (.bool false) rfl (ex_geq rfl rfl rfl (qF hb155)) ?_
       simp only [zP, po]
       refine wK k154 (cF rfl ?_)
       refine kS (tK k153 ?_)
       refine sK fun _ k159 => sK fun _ k160 => rL (xM (.bool esc) rfl ?_)
       simp only [zP, po]
       refine wK k160 (wpIn_cond_split (t := esc) rfl (fun hc161 => ?_) (fun hc161 => ?_))
       ·have hes := hps.es hc161
        refine rL (xM (vI i) rfl ?_)
        simp only [zP, po]
        refine xG (vI ((i + 1 : Nat) : Int)) rfl (ex_add rfl rfl rfl (by rw [i64_in (by omega)]; omega)) ?_
        simp only [zP, po]
        refine xA (vI ((i + 1 : Nat) : Int)) rfl ?_
        simp only [zP, po]
        refine wK k159 (rL ?_)
        refine xM (.slice (some ⟨b15, 0, none⟩) (s.length + 1) (s.length + 1)) rfl ?_
        simp only [zP, po]
        refine xA (.slice (some ⟨b15, 0, none⟩) (s.length + 1) (s.length + 1)) rfl (wL ?_)
        simp only [zP, po]
        refine bN (tK k13 ?_)
        refine rL (xM (vI ((i + 1 : Nat) : Int)) rfl ?_)
        simp only [zP, po]
        refine xG (vI ((i + 2 : Nat) : Int)) rfl (ex_add rfl rfl rfl (by rw [i64_in (by omega)]; omega)) ?_
        simp only [zP, po]
        refine xA (vI ((i + 2 : Nat) : Int)) rfl (wL ?_)
        simp only [zP, po]
        refine then_normal ?_
        go_roundw
        case rel => exact ⟨i + 2, b15, n, rfl, rfl, by omega, rinv_step hri (by have h9 := hps.dv; rw [if_neg (by omega), if_pos hc161] at h9; exact h9) hin.len hin.all, (hv.kp [] 1 1)⟩
        case measure => show p.length - (((i + 2 : Nat) : Int)).toNat < p.length - ((i : Int)).toNat; omega
       refine kS (tK k159 ?_)
       refine rL (xM (.slice (some ⟨b15, 0, none⟩) (s.length + 1) (s.length + 1)) rfl ?_)
       simp only [zP, po]
       refine xA (.slice (some ⟨b15, 0, none⟩) (s.length + 1) (s.length + 1)) rfl (wL ?_)
       simp only [zP, po]
       refine bN (tK k13 ?_)
       refine rL (xM (vI i) rfl ?_)
       simp only [zP, po]
       refine xG (vI ((i + 1 : Nat) : Int)) rfl (ex_add rfl rfl rfl (by rw [i64_in (by omega)]; omega)) ?_
       simp only [zP, po]
       refine xA (vI ((i + 1 : Nat) : Int)) rfl (wL ?_)
       simp only [zP, po]
       refine then_normal ?_
       go_roundw
       case rel => exact ⟨i + 1, b15, n, rfl, rfl, by omega, rinv_step hri (by have h9 := hps.dv; rw [if_neg (by omega), if_neg (by rw [hc161]; decide)] at h9; exact h9) hin.len hin.all, (hv.kp [] 1 1)⟩
       case measure => show p.length - (((i + 1 : Nat) : Int)).toNat < p.length - ((i : Int)).toNat; omega
     refine sK fun _ k162 => rL (xM (.bool true) rfl ?_)
     simp only [zP, po]
     refine wK k162 (cT rfl ?_)
     refine rL (xM (vS p) rfl ?_)
     simp only [zP, po]
     refine xM (vI i) rfl ?_
     simp only [zP, po]
     refine xG (vI ((i + 1 : Nat) : Int)) rfl (ex_add rfl rfl rfl (by rw [i64_in (by omega)]; omega)) ?_
     simp only [zP, po]
     obtain ⟨y163, hy163⟩ : ∃ y, p[i + 1]? = some y := ⟨_, List.getElem?_eq_getElem (show i + 1 < p.length by omega)⟩
     have hy163c := chr_at hy163
     refine xG (.int .u8 (chr p (i + 1) : Int)) rfl ((by rw [hy163c]; exact ex_sidx0 Tryz.underlying9 rfl rfl rfl hy163)) ?_
     simp only [zP, po]
     refine xA (.int .u8 (chr p (i + 1) : Int)) rfl (wL ?_)
     simp only [zP, po]
     exact then_normal (hJ119 (-1) (chr p (i + 1)) true _ _ _ _ _ _ _ (pstep_quote (by omega) (by omega) (by omega)) (by omega) hv)
    refine xG (.bool false) rfl (ex_lss rfl rfl rfl (qF hb118)) ?_
    simp only [zP, po]
    refine xK true (.bool false) rfl ?_
    simp only [zP, po]
    refine xA (.bool false) rfl ?_
    simp only [zP, po]
    refine wK k116 (sK fun K164 k164 => ?_)
    have hJ164 : ∀ (k : Int) (lit : Nat) (esc : Bool) (x : Part) (j50 j51 j52 j53 j54 : Value) (w165 : World), (PStep p i k lit esc x) → (i < p.length) → Inv B (Res.cell b15 (bV (List.replicate (s.length + 1) false)) 4 :: Res.cell b (bV q) 4 :: H) w165 → K164 { tmps := (vS p :: vS s :: undef :: undef :: Value.bool false :: Value.slice (some ⟨b, 0, none⟩) (s.length + 1) (s.length + 1) :: vI i :: Value.slice (some ⟨b15, 0, none⟩) (s.length + 1) (s.length + 1) :: vI k :: Value.int .u8 (lit : Int) :: Value.bool esc :: u11 :: u12 :: vS s :: vI (s.length : Int) :: vI ((s.length + 1 : Nat) : Int) :: Value.slice (some ⟨b3, 0, none⟩) (s.length + 1) (s.length + 1) :: Value.slice (some ⟨b3, 0, none⟩) (s.length + 1) (s.length + 1) :: Value.pointer (some ⟨b3, 0 + 0, none⟩) :: vI i :: vS p :: vI (p.length : Int) :: Value.bool true :: u23 :: u24 :: vS s :: vI (s.length : Int) :: vI ((s.length + 1 : Nat) : Int) :: Value.slice (some ⟨b15, 0, none⟩) (s.length + 1) (s.length + 1) :: vS p :: vI i :: Value.int .u8 (chr p (i) : Int) :: Value.bool false :: u33 :: u34 :: u35 :: vS p :: vI i :: Value.int .u8 (chr p (i) : Int) :: vS p :: vI i :: Value.int .u8 (chr p (i) : Int) :: Value.bool true :: Value.bool true :: vI i :: vI ((i + 1 : Nat) : Int) :: vS p :: vI (p.length : Int) :: Value.bool false :: Value.bool false :: j50 :: j51 :: j52 :: j53 :: j54 :: u55 :: u56 :: u57 :: u58 :: u59 :: u60 :: u61 :: u62 :: u63 :: u64 :: u65 :: u66 :: u67 :: u68 :: u69 :: u70 :: u71 :: u72 :: u73 :: u74 :: u75 :: u76 :: u77 :: u78 :: u79 :: u80 :: u81 :: u82 :: u83 :: u84 :: u85 :: u86 :: u87 :: u88 :: u89 :: u90 :: u91 :: u92 :: u93 :: u94 :: u95 :: u96 :: u97 :: u98 :: u99 :: u100 :: u101 :: u102 :: u103 :: u104 :: u105 :: u106 :: u107 :: u108 :: u109 :: u110 :: u111 :: u112 :: u113 :: u114 :: u115 :: u116 :: u117 :: u118 :: u119 :: u120 :: u121 :: u122 :: u123 :: u124 :: u125 :: u126 :: u127 :: u128 :: undef :: undef :: undef :: undef :: undef :: []).toArray, defers := [] } w165 := by
     intro k lit esc x j50 j51 j52 j53 j54 w165 hps hil hv
     refine k164 _ _ (sK fun _ k166 => ?_)
     refine sK fun _ k167 => rL (xA (vI 0) rfl ?_)
     simp only [zP, po]
     refine wK k167 (bB ?_)
     gi_loopw [11] (fun x11 wr => ∃ (a : Nat) (n : List Bool), x11 = vI a ∧ a ≤ s.length + 1 ∧ Inn s x q a n ∧ Inv B (Res.cell b15 (bV n) 4 :: Res.cell b (bV q) 4 :: H) wr) (fun x11 _ => s.length + 1 - (intOf x11).toNat)
     case atStart => exact ⟨0, _, rfl, Nat.zero_le _, Inn.start s x q, ((hv.front 1 rfl).front 1 rfl)⟩
     case round =>
      obtain ⟨a, n, rfl, ha, hin, hv⟩ := hrel
      have hql := hri.1
      have hnl := hin.len
      refine sK fun _ k169 => sK fun _ k170 => rL (xM (vI a) rfl ?_)
      simp only [zP, po]
      refine xM (vS s) rfl ?_
      simp only [zP, po]
      refine xG (vI (s.length : Int)) rfl (ex_lenStr Tryz.underlying9 rfl rfl) ?_
      simp only [zP, po]
      by_cases hb171 : (a : Int) ≤ (s.length : Int)
      ·refine xG (.bool true) rfl (ex_leq rfl rfl rfl (qT hb171)) ?_
       simp only [zP, po]
       refine wK k170 (cT rfl ?_)
       refine kS (tK k169 ?_)
       refine sK fun _ k172 => bB (sK fun _ k173 => ?_)
       refine sK fun _ k174 => rL (xM (vS p) rfl ?_)
       simp only [zP, po]
       refine xM (vI i) rfl ?_
       simp only [zP, po]
       obtain ⟨y175, hy175⟩ : ∃ y, p[i]? = some y := ⟨_, List.getElem?_eq_getElem (show i < p.length by omega)⟩
       have hy175c := chr_at hy175
       refine xG (.int .u8 (chr p (i) : Int)) rfl ((by rw [hy175c]; exact ex_sidx0 Tryz.underlying9 rfl rfl rfl hy175)) ?_
       simp only [zP, po]
       by_cases hb176 : (chr p (i) : Int) = 42
       ·refine xG (.bool true) rfl (ex_eql rfl rfl rfl (qT hb176)) ?_
        simp only [zP, po]
        refine wK k174 (cT rfl ?_)
        refine sK fun _ k177 => ?_
        have hst : x.star = true := by rw [hps.st]; exact qT (by omega)
        refine rL (xM (.slice (some ⟨b15, 0, none⟩) (s.length + 1) (s.length + 1)) rfl ?_)
        simp only [zP, po]
        refine xM (vI a) rfl ?_
        simp only [zP, po]
        refine xM (.slice (some ⟨b, 0, none⟩) (s.length + 1) (s.length + 1)) rfl ?_
        simp only [zP, po]
        refine xM (vI a) rfl ?_
        simp only [zP, po]
        refine xG (.pointer (some ⟨b, 0 + a, none⟩)) rfl (ex_index rfl rfl rfl (run_idx1 (k := a) Tryz.underlying90 r2ces90 (by omega))) ?_
        simp only [zP, po]
        obtain ⟨z178, hz178⟩ : ∃ y, q[a]? = some y := ⟨_, List.getElem?_eq_getElem (show a < q.length by have := hql; omega)⟩
        refine xL (.bool z178) rfl (run_load1 r2cna4 (hv.load 1 (0 + a) rfl (by rw [Nat.zero_add]; exact bV_get hz178))) ?_
        simp only [zP, po]
        refine xM (.bool z178) rfl ?_
        simp only [zP, po]
        cases z178
        ·refine xM (vI a) rfl ?_
         simp only [zP, po]
         by_cases hb179 : (a : Int) > 0
         ·refine xG (.bool true) rfl (ex_gtr rfl rfl rfl (qT hb179)) ?_
          simp only [zP, po]
          refine xM (.bool true) rfl ?_
          simp only [zP, po]
          refine xM (.slice (some ⟨b15, 0, none⟩) (s.length + 1) (s.length + 1)) rfl ?_
          simp only [zP, po]
          refine xM (vI a) rfl ?_
          simp only [zP, po]
          refine xG (vI ((a - 1 : Nat) : Int)) rfl (ex_sub rfl rfl rfl (by rw [i64_in (by omega)]; omega)) ?_
          simp only [zP, po]
          refine xG (.pointer (some ⟨b15, 0 + (a - 1 : Nat), none⟩)) rfl (ex_index rfl rfl rfl (run_idx1 (k := (a - 1 : Nat)) Tryz.underlying90 r2ces90 (by omega))) ?_
          simp only [zP, po]
          obtain ⟨z180, hz180⟩ : ∃ y, n[(a - 1)]? = some y := ⟨_, List.getElem?_eq_getElem (show (a - 1) < n.length by have := hnl; omega)⟩
          refine xL (.bool z180) rfl (run_load1 r2cna4 (hv.load 0 (0 + (a - 1)) rfl (by rw [Nat.zero_add]; exact bV_get hz180))) ?_
          simp only [zP, po]
          refine xK true (.bool z180) rfl ?_
          simp only [zP, po]
          refine xK false (.bool z180) rfl ?_
          simp only [zP, po]
          refine xG (.pointer (some ⟨b15, 0 + a, none⟩)) rfl (ex_index rfl rfl rfl (run_idx1 (k := a) Tryz.underlying90 r2ces90 (by omega))) ?_
          simp only [zP, po]
          refine sl_storeAt 0 (v := .bool z180) (L' := bV (n.set a z180)) tV (wn rfl) rfl rfl rfl hv rfl r2csz4 (by rw [bV_len]; have := hnl; omega) rfl rfl (by rw [Nat.zero_add]; exact bV_set) (fun w181 hv => ?_)
          simp only [zO] at hv
          have hin2 := hin.set (v := z180) (by omega) (⟨fun h9 => (rnext_star hst).2 (.inr ⟨by omega, (hin.done _ (by omega)).1 (by rw [hz180, h9])⟩), fun h9 => ((rnext_star hst).1 h9).elim (fun h8 => by rw [hz178] at h8; cases h8) (fun h8 => Option.some.inj (hz180.symm.trans ((hin.done _ (by omega)).2 h8.2)))⟩)
          simp only [zP, po]
          refine wK k177 (xE ?_)
          refine tX (bH ?_)
          refine tK k172 (rL ?_)
          refine xM (vI a) rfl ?_
          simp only [zP, po]
          refine xG (vI ((a + 1 : Nat) : Int)) rfl (ex_add rfl rfl rfl (by rw [i64_in (by omega)]; omega)) ?_
          simp only [zP, po]
          refine xA (vI ((a + 1 : Nat) : Int)) rfl (wL ?_)
          simp only [zP, po]
          refine then_normal ?_
          go_roundw
          case rel => exact ⟨a + 1, _, rfl, by omega, hin2, ((hv.front 1 rfl).front 1 rfl)⟩
          case measure => show s.length + 1 - (((a + 1 : Nat) : Int)).toNat < s.length + 1 - ((a : Int)).toNat; omega
         refine xG (.bool false) rfl (ex_gtr rfl rfl rfl (qF hb179)) ?_
         simp only [zP, po]
         refine xM (.bool false) rfl ?_
         simp only [zP, po]
         refine yP rfl ?_
         simp only [zP, po]
         refine yP rfl ?_
         simp only [zP, po]
         refine yP rfl ?_
         simp only [zP, po]
         refine yP rfl ?_
         simp only [zP, po]
         refine yP rfl ?_
         simp only [zP, po]
         refine xK false (.bool false) rfl ?_
         simp only [zP, po]
         refine xK false (.bool false) rfl ?_
         simp only [zP, po]
         refine xG (.pointer (some ⟨b15, 0 + a, none⟩)) rfl (ex_index rfl rfl rfl (run_idx1 (k := a) Tryz.underlying90 r2ces90 (by omega))) ?_
         simp only [zP, po]
         refine sl_storeAt 0 (v := .bool false) (L' := bV (n.set a false)) tV (wn rfl) rfl rfl rfl hv rfl r2csz4 (by rw [bV_len]; have := hnl; omega) rfl rfl (by rw [Nat.zero_add]; exact bV_set) (fun w182 hv => ?_)
         simp only [zO] at hv
         have hin2 := hin.set (v := false) (by omega) (⟨fun h9 => (by cases h9), fun h9 => ((rnext_star hst).1 h9).elim (fun h8 => by rw [hz178] at h8; cases h8) (fun h8 => by omega)⟩)
         simp only [zP, po]
         refine wK k177 (xE ?_)
         refine tX (bH ?_)
         refine tK k172 (rL ?_)
         refine xM (vI a) rfl ?_
         simp only [zP, po]
         refine xG (vI ((a + 1 : Nat) : Int)) rfl (ex_add rfl rfl rfl (by rw [i64_in (by omega)]; omega)) ?_
         simp only [zP, po]
         refine xA (vI ((a + 1 : Nat) : Int)) rfl (wL ?_)
         simp only [zP, po]
         refine then_normal ?_
         go_roundw
         case rel => exact ⟨a + 1, _, rfl, by omega, hin2, ((hv.front 1 rfl).front 1 rfl)⟩
         case measure => show s.length + 1 - (((a + 1 : Nat) : Int)).toNat < s.length + 1 - ((a : Int)).toNat; omega
        refine yP rfl ?_
        simp only [zP, po]
        refine yP rfl ?_
        simp only [zP, po]
        refine yP rfl ?_
        simp only [zP, po]
        refine yP rfl ?_
        simp only [zP, po]
        refine yP rfl ?_
        simp only [zP, po]
        refine yP rfl ?_
        simp only [zP, po]
        refine yP rfl ?_
        simp only [zP, po]
        refine yP rfl ?_
        simp only [zP, po]
        refine yP rfl ?_
        simp only [zP, po]
        refine xK true (.bool true) rfl ?_
        simp only [zP, po]
        refine xG (.pointer (some ⟨b15, 0 + a, none⟩)) rfl (ex_index rfl rfl rfl (run_idx1 (k := a) Tryz.underlying90 r2ces90 (by omega))) ?_
        simp only [zP, po]
        refine sl_storeAt 0 (v := .bool true) (L' := bV (n.set a true)) tV (wn rfl) rfl rfl rfl hv rfl r2csz4 (by rw [bV_len]; have := hnl; omega) rfl rfl (by rw [Nat.zero_add]; exact bV_set) (fun w183 hv => ?_)
        simp only [zO] at hv
        have hin2 := hin.set (v := true) (by omega) (⟨fun _ => (rnext_star hst).2 (.inl hz178), fun _ => rfl⟩)
        simp only [zP, po]
        refine wK k177 (xE ?_)
        refine tX (bH ?_)
        refine tK k172 (rL ?_)
        refine xM (vI a) rfl ?_
        simp only [zP, po]
        refine xG (vI ((a + 1 : Nat) : Int)) rfl (ex_add rfl rfl rfl (by rw [i64_in (by omega)]; omega)) ?_
        simp only [zP, po]
        refine xA (vI ((a + 1 : Nat) : Int)) rfl (wL ?_)
        simp only [zP, po]
        refine then_normal ?_
        go_roundw
        case rel => exact ⟨a + 1, _, rfl, by omega, hin2, ((hv.front 1 rfl).front 1 rfl)⟩
        case measure => show s.length + 1 - (((a + 1 : Nat) : Int)).toNat < s.length + 1 - ((a : Int)).toNat; omega
       refine xG (.bool false) rfl (ex_eql rfl rfl rfl (qF hb176)) ?_
       simp only [zP, po]
       refine wK k174 (cF rfl ?_)
       refine kS (tK k173 ?_)
       refine sK fun _ k184 => sK fun _ k185 => ?_
       have hsf : x.star = false := by rw [hps.st]; exact qF (by omega)
       refine rL (xM (vI a) rfl ?_)
       simp only [zP, po]
       by_cases hb186 : (a : Int) = 0
       ·refine xG (.bool true) rfl (ex_eql rfl rfl rfl (qT hb186)) ?_
        simp only [zP, po]
        refine xM (.bool true) rfl ?_
        simp only [zP, po]
        refine yP rfl ?_
        simp only [zP, po]
        refine yP rfl ?_
        simp only [zP, po]
        refine yP rfl ?_
        simp only [zP, po]
        refine yP rfl ?_
        simp only [zP, po]
        refine yP rfl ?_
        simp only [zP, po]
        refine yP rfl ?_
        simp only [zP, po]
        refine xK true (.bool true) rfl ?_
        simp only [zP, po]
        refine wK k185 (cT rfl ?_)
        refine xE (tX ?_)
        refine bH (tK k172 ?_)
        refine rL (xM (vI a) rfl ?_)
        simp only [zP, po]
        refine xG (vI ((a + 1 : Nat) : Int)) rfl (ex_add rfl rfl rfl (by rw [i64_in (by omega)]; omega)) ?_
        simp only [zP, po]
        refine xA (vI ((a + 1 : Nat) : Int)) rfl (wL ?_)
        simp only [zP, po]
        refine then_normal ?_
        go_roundw
        case rel => exact ⟨a + 1, n, rfl, by omega, hin.skip (by omega) (fun h9 => absurd ((rnext_byte hsf).1 h9).1 (by omega)), ((hv.front 1 rfl).front 1 rfl)⟩
        case measure => show s.length + 1 - (((a + 1 : Nat) : Int)).toNat < s.length + 1 - ((a : Int)).toNat; omega
       refine xG (.bool false) rfl (ex_eql rfl rfl rfl (qF hb186)) ?_
       simp only [zP, po]
       refine xM (.bool false) rfl ?_
       simp only [zP, po]
       refine xM (.slice (some ⟨b, 0, none⟩) (s.length + 1) (s.length + 1)) rfl ?_
       simp only [zP, po]
       refine xM (vI a) rfl ?_
       simp only [zP, po]
       refine xG (vI ((a - 1 : Nat) : Int)) rfl (ex_sub rfl rfl rfl (by rw [i64_in (by omega)]; omega)) ?_
       simp only [zP, po]
       refine xG (.pointer (some ⟨b, 0 + (a - 1 : Nat), none⟩)) rfl (ex_index rfl rfl rfl (run_idx1 (k := (a - 1 : Nat)) Tryz.underlying90 r2ces90 (by omega))) ?_
       simp only [zP, po]
       obtain ⟨z187, hz187⟩ : ∃ y, q[(a - 1)]? = some y := ⟨_, List.getElem?_eq_getElem (show (a - 1) < q.length by have := hql; omega)⟩
       cases z187
       ·refine xL (.bool false) rfl (run_load1 r2cna4 (hv.load 1 (0 + (a - 1)) rfl (by rw [Nat.zero_add]; exact bV_get hz187))) ?_
        simp only [zP, po]
        refine xG (.bool true) rfl (ex_not rfl rfl rfl) ?_
        simp only [zP, po]
        refine xK false (.bool true) rfl ?_
        simp only [zP, po]
        refine wK k185 (cT rfl ?_)
        refine xE (tX ?_)
        refine bH (tK k172 ?_)
        refine rL (xM (vI a) rfl ?_)
        simp only [zP, po]
        refine xG (vI ((a + 1 : Nat) : Int)) rfl (ex_add rfl rfl rfl (by rw [i64_in (by omega)]; omega)) ?_
        simp only [zP, po]
        refine xA (vI ((a + 1 : Nat) : Int)) rfl (wL ?_)
        simp only [zP, po]
        refine then_normal ?_
        go_roundw
        case rel => exact ⟨a + 1, n, rfl, by omega, hin.skip (by omega) (fun h9 => absurd ((rnext_byte hsf).1 h9).2.1 (by rw [hz187]; decide)), ((hv.front 1 rfl).front 1 rfl)⟩
        case measure => show s.length + 1 - (((a + 1 : Nat) : Int)).toNat < s.length + 1 - ((a : Int)).toNat; omega
       refine xL (.bool true) rfl (run_load1 r2cna4 (hv.load 1 (0 + (a - 1)) rfl (by rw [Nat.zero_add]; exact bV_get hz187))) ?_
       simp only [zP, po]
       refine xG (.bool false) rfl (ex_not rfl rfl rfl) ?_
       simp only [zP, po]
       refine xK false (.bool false) rfl ?_
       simp only [zP, po]
       refine wK k185 (cF rfl ?_)
       refine kS (tK k184 ?_)
       refine sK fun _ k188 => rL (xM (vS s) rfl ?_)
       simp only [zP, po]
       refine xM (vI a) rfl ?_
       simp only [zP, po]
       refine xG (vI ((a - 1 : Nat) : Int)) rfl (ex_sub rfl rfl rfl (by rw [i64_in (by omega)]; omega)) ?_
       simp only [zP, po]
       obtain ⟨y189, hy189⟩ : ∃ y, s[(a - 1)]? = some y := ⟨_, List.getElem?_eq_getElem (show (a - 1) < s.length by omega)⟩
       have hy189c := chr_at hy189
       refine xG (.int .u8 (chr s ((a - 1)) : Int)) rfl ((by rw [hy189c]; exact ex_sidx0 Tryz.underlying9 rfl rfl rfl hy189)) ?_
       simp only [zP, po]
       refine xA (.int .u8 (chr s ((a - 1)) : Int)) rfl ?_
       simp only [zP, po]
       refine wK k188 (sK fun _ k190 => ?_)
       refine rL (xM (vS p) rfl ?_)
       simp only [zP, po]
       refine xM (vI i) rfl ?_
       simp only [zP, po]
       refine xG (.int .u8 (chr p (i) : Int)) rfl ((by rw [hy175c]; exact ex_sidx0 Tryz.underlying9 rfl rfl rfl hy175)) ?_
       simp only [zP, po]
       by_cases hb191 : (chr p (i) : Int) = 63
       ·refine xG (.bool true) rfl (ex_eql rfl rfl rfl (qT hb191)) ?_
        simp only [zP, po]
        refine wK k190 (cT rfl ?_)
        refine rL (xM (.slice (some ⟨b15, 0, none⟩) (s.length + 1) (s.length + 1)) rfl ?_)
        simp only [zP, po]
        refine xM (vI a) rfl ?_
        simp only [zP, po]
        refine xG (.pointer (some ⟨b15, 0 + a, none⟩)) rfl (ex_index rfl rfl rfl (run_idx1 (k := a) Tryz.underlying90 r2ces90 (by omega))) ?_
        simp only [zP, po]
        refine sl_storeAt 0 (v := .bool true) (L' := bV (n.set a true)) tV (wn rfl) rfl rfl rfl hv rfl r2csz4 (by rw [bV_len]; have := hnl; omega) rfl rfl (by rw [Nat.zero_add]; exact bV_set) (fun w192 hv => ?_)
        simp only [zO] at hv
        have hin2 := hin.set (v := true) (by omega) (⟨fun h9 => (rnext_byte hsf).2 ⟨by omega, hz187, hps.an (by omega) _ (chr256 s _)⟩, fun h9 => rfl⟩)
        refine wL ?_
        simp only [zP, po]
        refine bN (tK k172 ?_)
        refine rL (xM (vI a) rfl ?_)
        simp only [zP, po]
        refine xG (vI ((a + 1 : Nat) : Int)) rfl (ex_add rfl rfl rfl (by rw [i64_in (by omega)]; omega)) ?_
        simp only [zP, po]
        refine xA (vI ((a + 1 : Nat) : Int)) rfl (wL ?_)
        simp only [zP, po]
        refine then_normal ?_
        go_roundw
        case rel => exact ⟨a + 1, _, rfl, by omega, hin2, ((hv.front 1 rfl).front 1 rfl)⟩
        case measure => show s.length + 1 - (((a + 1 : Nat) : Int)).toNat < s.length + 1 - ((a : Int)).toNat; omega
       refine xG (.bool false) rfl (ex_eql rfl rfl rfl (qF hb191)) ?_
       simp only [zP, po]
       refine wK k190 (cF rfl ?_)
       refine sK fun _ k193 => rL (xM (vI k) rfl ?_)
       simp only [zP, po]
       by_cases hb194 : k ≥ 0
       ·refine xG (.bool true) rfl (ex_geq rfl rfl rfl (qT hb194)) ?_
        simp only [zP, po]
        refine wK k193 (cT rfl ?_)
        obtain ⟨kk, rfl⟩ : ∃ kk : Nat, k = (kk : Int) := ⟨k.toNat, by omega⟩
        obtain ⟨hk91, hk1, hk2, hk3⟩ := hps.cl (by omega)
        rw [Int.toNat_natCast] at hk1 hk2 hk3
        have hcq := hk3 (chr s (a - 1)) (chr256 s _)
        refine rL (xM (.slice (some ⟨b15, 0, none⟩) (s.length + 1) (s.length + 1)) rfl ?_)
        simp only [zP, po]
        refine xM (vI a) rfl ?_
        simp only [zP, po]
        refine xM (vS p) rfl ?_
        simp only [zP, po]
        refine xM (vI i) rfl ?_
        simp only [zP, po]
        refine xG (vI ((i + 1 : Nat) : Int)) rfl (ex_add rfl rfl rfl (by rw [i64_in (by omega)]; omega)) ?_
        simp only [zP, po]
        refine xM (vI kk) rfl ?_
        simp only [zP, po]
        refine xG (vS ((p.drop (i + 1)).take (kk - (i + 1)))) rfl (ex_slice (lo' := some (vI ((i + 1 : Nat) : Int))) (hi' := some (vI kk)) rfl rfl (congrArg some rfl) (congrArg some rfl) rfl (run_cut Tryz.underlying9 (by omega) (by omega) _)) ?_
        simp only [zP, po]
        refine xM (.int .u8 (chr s ((a - 1)) : Int)) rfl ?_
        simp only [zP, po]
        rw [show (p.take kk).drop (i + 1) = (p.drop (i + 1)).take (kk - (i + 1)) from by rw [List.drop_take]] at hcq
        refine xC r2ccallable34 rfl ((refClass B _ _ ((p.drop (i + 1)).take (kk - (i + 1))) (by rw [List.length_take, List.length_drop]; omega) (chr s (a - 1)) (chr256 s _) hv).mono ?_) rfl
        rintro e w195 ⟨rfl, hv⟩
        refine ⟨_, rfl, ?_⟩
        simp only [zP, po]
        refine xG (.pointer (some ⟨b15, 0 + a, none⟩)) rfl (ex_index rfl rfl rfl (run_idx1 (k := a) Tryz.underlying90 r2ces90 (by omega))) ?_
        simp only [zP, po]
        refine sl_storeAt 0 (v := .bool (clsFit ((p.drop (i + 1)).take (kk - (i + 1))) (chr s (a - 1)))) (L' := bV (n.set a (clsFit ((p.drop (i + 1)).take (kk - (i + 1))) (chr s (a - 1))))) tV (wn rfl) rfl rfl rfl hv rfl r2csz4 (by rw [bV_len]; have := hnl; omega) rfl rfl (by rw [Nat.zero_add]; exact bV_set) (fun w196 hv => ?_)
        simp only [zO] at hv
        have hin2 := hin.set (v := (clsFit ((p.drop (i + 1)).take (kk - (i + 1))) (chr s (a - 1)))) (by omega) ((by rw [hcq]; exact ⟨fun h9 => (rnext_byte hsf).2 ⟨by omega, hz187, h9⟩, fun h9 => ((rnext_byte hsf).1 h9).2.2⟩))
        refine wL ?_
        simp only [zP, po]
        refine bN (tK k172 ?_)
        refine rL (xM (vI a) rfl ?_)
        simp only [zP, po]
        refine xG (vI ((a + 1 : Nat) : Int)) rfl (ex_add rfl rfl rfl (by rw [i64_in (by omega)]; omega)) ?_
        simp only [zP, po]
        refine xA (vI ((a + 1 : Nat) : Int)) rfl (wL ?_)
        simp only [zP, po]
        refine then_normal ?_
        go_roundw
        case rel => exact ⟨a + 1, _, rfl, by omega, hin2, ((hv.front 1 rfl).front 1 rfl)⟩
        case measure => show s.length + 1 - (((a + 1 : Nat) : Int)).toNat < s.length + 1 - ((a : Int)).toNat; omega
       refine xG (.bool false) rfl (ex_geq rfl rfl rfl (qF hb194)) ?_
       simp only [zP, po]
       refine wK k193 (cF rfl ?_)
       refine rL (xM (.slice (some ⟨b15, 0, none⟩) (s.length + 1) (s.length + 1)) rfl ?_)
       simp only [zP, po]
       refine xM (vI a) rfl ?_
       simp only [zP, po]
       refine xM (.int .u8 (chr s ((a - 1)) : Int)) rfl ?_
       simp only [zP, po]
       refine xM (.int .u8 (lit : Int)) rfl ?_
       simp only [zP, po]
       refine xG (.bool (decide ((chr s ((a - 1)) : Int) = (lit : Int)))) rfl (ex_eql rfl rfl rfl rfl) ?_
       simp only [zP, po]
       refine xG (.pointer (some ⟨b15, 0 + a, none⟩)) rfl (ex_index rfl rfl rfl (run_idx1 (k := a) Tryz.underlying90 r2ces90 (by omega))) ?_
       simp only [zP, po]
       refine sl_storeAt 0 (v := .bool (decide ((chr s ((a - 1)) : Int) = (lit : Int)))) (L' := bV (n.set a (decide ((chr s ((a - 1)) : Int) = (lit : Int))))) tV (wn rfl) rfl rfl rfl hv rfl r2csz4 (by rw [bV_len]; have := hnl; omega) rfl rfl (by rw [Nat.zero_add]; exact bV_set) (fun w197 hv => ?_)
       simp only [zO] at hv
       have hin2 := hin.set (v := decide ((chr s ((a - 1)) : Int) = (lit : Int))) (by omega) (⟨fun h9 => (rnext_byte hsf).2 ⟨by omega, hz187, (by rw [hps.li (by omega) (by omega) (by omega) _ (chr256 s _)]; have h8 := of_decide_eq_true h9; exact qT (by omega))⟩, fun h9 => (by have h8 := ((rnext_byte hsf).1 h9).2.2; rw [hps.li (by omega) (by omega) (by omega) _ (chr256 s _)] at h8; have h7 := of_decide_eq_true h8; exact qT (by omega))⟩)
       refine wL ?_
       simp only [zP, po]
       refine bN (tK k172 ?_)
       refine rL (xM (vI a) rfl ?_)
       simp only [zP, po]
       refine xG (vI ((a + 1 : Nat) : Int)) rfl (ex_add rfl rfl rfl (by rw [i64_in (by omega)]; omega)) ?_
       simp only [zP, po]
       refine xA (vI ((a + 1 : Nat) : Int)) rfl (wL ?_)
       simp only [zP, po]
       refine then_normal ?_
       go_roundw
       case rel => exact ⟨a + 1, _, rfl, by omega, hin2, ((hv.front 1 rfl).front 1 rfl)⟩
       case measure => show s.length + 1 - (((a + 1 : Nat) : Int)).toNat < s.length + 1 - ((a : Int)).toNat; omega
      refine xG (.bool false) rfl (ex_leq rfl rfl rfl (qF hb171)) ?_
      simp only [zP, po]
      refine wK k170 (cF rfl ?_)
      refine xE (tX ?_)
      refine tX (bH ?_)
      refine tK k166 (sK fun _ k198 => ?_)
      refine sK fun _ k199 => ?_
      obtain rfl : a = s.length + 1 := by omega
      refine rL (xM (vI k) rfl ?_)
      simp only [zP, po]
      by_cases hb200 : k ≥ 0
      ·refine xG (.bool true) rfl (ex_geq rfl rfl rfl (qT hb200)) ?_
       simp only [zP, po]
       refine wK k199 (cT rfl ?_)
       obtain ⟨kk, rfl⟩ : ∃ kk : Nat, k = (kk : Int) := ⟨k.toNat, by omega⟩
       obtain ⟨hk91, hk1, hk2, hk3⟩ := hps.cl (by omega)
       rw [Int.toNat_natCast] at hk1 hk2
       refine rL (xM (vI kk) rfl ?_)
       simp only [zP, po]
       refine xA (vI kk) rfl ?_
       simp only [zP, po]
       refine wK k198 (sK fun _ k201 => ?_)
       refine sK fun _ k202 => rL (xM (.bool esc) rfl ?_)
       simp only [zP, po]
       refine wK k202 (wpIn_cond_split (t := esc) rfl (fun hc203 => ?_) (fun hc203 => ?_))
       ·have hes := hps.es hc203
        refine rL (xM (vI kk) rfl ?_)
        simp only [zP, po]
        refine xG (vI ((kk + 1 : Nat) : Int)) rfl (ex_add rfl rfl rfl (by rw [i64_in (by omega)]; omega)) ?_
        simp only [zP, po]
        refine xA (vI ((kk + 1 : Nat) : Int)) rfl ?_
        simp only [zP, po]
        refine wK k201 (rL ?_)
        refine xM (.slice (some ⟨b15, 0, none⟩) (s.length + 1) (s.length + 1)) rfl ?_
        simp only [zP, po]
        refine xA (.slice (some ⟨b15, 0, none⟩) (s.length + 1) (s.length + 1)) rfl (wL ?_)
        simp only [zP, po]
        refine bN (tK k13 ?_)
        refine rL (xM (vI ((kk + 1 : Nat) : Int)) rfl ?_)
        simp only [zP, po]
        refine xG (vI ((kk + 2 : Nat) : Int)) rfl (ex_add rfl rfl rfl (by rw [i64_in (by omega)]; omega)) ?_
        simp only [zP, po]
        refine xA (vI ((kk + 2 : Nat) : Int)) rfl (wL ?_)
        simp only [zP, po]
        refine then_normal ?_
        go_roundw
        case rel => exact ⟨kk + 2, b15, n, rfl, rfl, by omega, rinv_step hri (by have h9 := hps.dv; rw [if_pos (by omega), if_pos hc203] at h9; exact h9) hin.len hin.all, (hv.kp [] 1 1)⟩
        case measure => show p.length - (((kk + 2 : Nat) : Int)).toNat < p.length - ((i : Int)).toNat; omega
       refine kS (tK k201 ?_)
       refine rL (xM (.slice (some ⟨b15, 0, none⟩) (s.length + 1) (s.length + 1)) rfl ?_)
       simp only [zP, po]
       refine xA (.slice (some ⟨b15, 0, none⟩) (s.length + 1) (s.length + 1)) rfl (wL ?_)
       simp only [zP, po]
       refine bN (tK k13 ?_)
       refine rL (xM (vI kk) rfl ?_)
       simp only [zP, po]
       refine xG (vI ((kk + 1 : Nat) : Int)) rfl (ex_add rfl rfl rfl (by rw [i64_in (by omega)]; omega)) ?_
       simp only [zP, po]
       refine xA (vI ((kk + 1 : Nat) : Int)) rfl (wL ?_)
       simp only [zP, po]
       refine then_normal ?_
       go_roundw
       case rel => exact ⟨kk + 1, b15, n, rfl, rfl, by omega, rinv_step hri (by have h9 := hps.dv; rw [if_pos (by omega), if_neg (by rw [hc203]; decide)] at h9; exact h9) hin.len hin.all, (hv.kp [] 1 1)⟩
       case measure => show p.length - (((kk + 1 : Nat) : Int)).toNat < p.length - ((i : Int)).toNat; omega
      refine xG (.bool false) rfl (ex_geq rfl rfl rfl (qF hb200)) ?_
      simp only [zP, po]
      refine wK k199 (cF rfl ?_)
      refine kS (tK k198 ?_)
      refine sK fun _ k204 => sK fun _ k205 => rL (xM (.bool esc) rfl ?_)
      simp only [zP, po]
      refine wK k205 (wpIn_cond_split (t := esc) rfl (fun hc206 => ?_) (fun hc206 => ?_))
      ·have hes := hps.es hc206
       refine rL (xM (vI i) rfl ?_)
       simp only [zP, po]
       refine xG (vI ((i + 1 : Nat) : Int)) rfl (ex_add rfl rfl rfl (by rw [i64_in (by omega)]; omega)) ?_
       simp only [zP, po]
       refine xA (vI ((i + 1 : Nat) : Int)) rfl ?_
       simp only [zP, po]
       refine wK k204 (rL ?_)
       refine xM (.slice (some ⟨b15, 0, none⟩) (s.length + 1) (s.length + 1)) rfl ?_
       simp only [zP, po]
       refine xA (.slice (some ⟨b15, 0, none⟩) (s.length + 1) (s.length + 1)) rfl (wL ?_)
       simp only [zP, po]
       refine bN (tK k13 ?_)
       refine rL (xM (vI ((i + 1 : Nat) : Int)) rfl ?_)
       simp only [zP, po]
       refine xG (vI ((i + 2 : Nat) : Int)) rfl (ex_add rfl rfl rfl (by rw [i64_in (by omega)]; omega)) ?_
       simp only [zP, po]
       refine xA (vI ((i + 2 : Nat) : Int)) rfl (wL ?_)
       simp only [zP, po]
       refine then_normal ?_
       go_roundw
       case rel => exact ⟨i + 2, b15, n, rfl, rfl, by omega, rinv_step hri (by have h9 := hps.dv; rw [if_neg (by omega), if_pos hc206] at h9; exact h9) hin.len hin.all, (hv.kp [] 1 1)⟩
       case measure => show p.length - (((i + 2 : Nat) : Int)).toNat < p.length - ((i : Int)).toNat; omega
      refine kS (tK k204 ?_)
      refine rL (xM (.slice (some ⟨b15, 0, none⟩) (s.length + 1) (s.length + 1)) rfl ?_)
      simp only [zP, po]
      refine xA (.slice (some ⟨b15, 0, none⟩) (s.length + 1) (s.length + 1)) rfl (wL ?_)
      simp only [zP, po]
      refine bN (tK k13 ?_)
      refine rL (xM (vI i) rfl ?_)
      simp only [zP, po]
      refine xG (vI ((i + 1 : Nat) : Int)) rfl (ex_add rfl rfl rfl (by rw [i64_in (by omega)]; omega)) ?_
      simp only [zP, po]
      refine xA (vI ((i + 1 : Nat) : Int)) rfl (wL ?_)
      simp only [zP, po]
      refine then_normal ?_
      go_roundw
      case rel => exact ⟨i + 1, b15, n, rfl, rfl, by omega, rinv_step hri (by have h9 := hps.dv; rw [if_neg (by omega), if_neg (by rw [hc206]; decide)] at h9; exact h9) hin.len hin.all, (hv.kp [] 1 1)⟩
      case measure => show p.length - (((i + 1 : Nat) : Int)).toNat < p.length - ((i : Int)).toNat; omega
    refine sK fun _ k207 => rL (xM (.bool false) rfl ?_)
    simp only [zP, po]
    refine wK k207 (cF rfl ?_)
    refine kS ?_
    obtain ⟨xx, hxx⟩ := pstep_one (p := p) (i := i) (by omega) (by omega) (by omega)
    exact then_normal (hJ164 (-1) (chr p (i)) false xx _ _ _ _ _ _ hxx (by omega) hv)
   refine xG (.bool false) rfl (ex_eql rfl rfl rfl (qF hb117)) ?_
   simp only [zP, po]
   refine xM (.bool false) rfl ?_
   simp only [zP, po]
   refine yP rfl ?_
   simp only [zP, po]
   refine yP rfl ?_
   simp only [zP, po]
   refine yP rfl ?_
   simp only [zP, po]
   refine yP rfl ?_
   simp only [zP, po]
   refine yP rfl ?_
   simp only [zP, po]
   refine xK false (.bool false) rfl ?_
   simp only [zP, po]
   refine xA (.bool false) rfl ?_
   simp only [zP, po]
   refine wK k116 (sK fun K208 k208 => ?_)
   have hJ208 : ∀ (k : Int) (lit : Nat) (esc : Bool) (x : Part) (j50 j51 j52 j53 j54 : Value) (w209 : World), (PStep p i k lit esc x) → (i < p.length) → Inv B (Res.cell b15 (bV (List.replicate (s.length + 1) false)) 4 :: Res.cell b (bV q) 4 :: H) w209 → K208 { tmps := (vS p :: vS s :: undef :: undef :: Value.bool false :: Value.slice (some ⟨b, 0, none⟩) (s.length + 1) (s.length + 1) :: vI i :: Value.slice (some ⟨b15, 0, none⟩) (s.length + 1) (s.length + 1) :: vI k :: Value.int .u8 (lit : Int) :: Value.bool esc :: u11 :: u12 :: vS s :: vI (s.length : Int) :: vI ((s.length + 1 : Nat) : Int) :: Value.slice (some ⟨b3, 0, none⟩) (s.length + 1) (s.length + 1) :: Value.slice (some ⟨b3, 0, none⟩) (s.length + 1) (s.length + 1) :: Value.pointer (some ⟨b3, 0 + 0, none⟩) :: vI i :: vS p :: vI (p.length : Int) :: Value.bool true :: u23 :: u24 :: vS s :: vI (s.length : Int) :: vI ((s.length + 1 : Nat) : Int) :: Value.slice (some ⟨b15, 0, none⟩) (s.length + 1) (s.length + 1) :: vS p :: vI i :: Value.int .u8 (chr p (i) : Int) :: Value.bool false :: u33 :: u34 :: u35 :: vS p :: vI i :: Value.int .u8 (chr p (i) : Int) :: vS p :: vI i :: Value.int .u8 (chr p (i) : Int) :: Value.bool false :: Value.bool false :: undef :: undef :: undef :: undef :: undef :: Value.bool false :: j50 :: j51 :: j52 :: j53 :: j54 :: u55 :: u56 :: u57 :: u58 :: u59 :: u60 :: u61 :: u62 :: u63 :: u64 :: u65 :: u66 :: u67 :: u68 :: u69 :: u70 :: u71 :: u72 :: u73 :: u74 :: u75 :: u76 :: u77 :: u78 :: u79 :: u80 :: u81 :: u82 :: u83 :: u84 :: u85 :: u86 :: u87 :: u88 :: u89 :: u90 :: u91 :: u92 :: u93 :: u94 :: u95 :: u96 :: u97 :: u98 :: u99 :: u100 :: u101 :: u102 :: u103 :: u104 :: u105 :: u106 :: u107 :: u108 :: u109 :: u110 :: u111 :: u112 :: u113 :: u114 :: u115 :: u116 :: u117 :: u118 :: u119 :: u120 :: u121 :: u122 :: u123 :: u124 :: u125 :: u126 :: u127 :: u128 :: undef :: undef :: undef :: undef :: undef :: []).toArray, defers := [] } w209 := by
    intro k lit esc x j50 j51 j52 j53 j54 w209 hps hil hv
    refine k208 _ _ (sK fun _ k210 => ?_)
    refine sK fun _ k211 => rL (xA (vI 0) rfl ?_)
    simp only [zP, po]
    refine wK k211 (bB ?_)
    gi_loopw [11] (fun x11 wr => ∃ (a : Nat) (n : List Bool), x11 = vI a ∧ a ≤ s.length + 1 ∧ Inn s x q a n ∧ Inv B (Res.cell b15 (bV n) 4 :: Res.cell b (bV q) 4 :: H) wr) (fun x11 _ => s.length + 1 - (intOf x11).toNat)
    case atStart => exact ⟨0, _, rfl, Nat.zero_le _, Inn.start s x q, ((hv.front 1 rfl).front 1 rfl)⟩
    case round =>
     obtain ⟨a, n, rfl, ha, hin, hv⟩ := hrel
     have hql := hri.1
     have hnl := hin.len
     refine sK fun _ k213 => sK fun _ k214 => rL (xM (vI a) rfl ?_)
     simp only [zP, po]
     refine xM (vS s) rfl ?_
     simp only [zP, po]
     refine xG (vI (s.length : Int)) rfl (ex_lenStr Tryz.underlying9 rfl rfl) ?_
     simp only [zP, po]
     by_cases hb215 : (a : Int) ≤ (s.length : Int)
     ·refine xG (.bool true) rfl (ex_leq rfl rfl rfl (qT hb215)) ?_
      simp only [zP, po]
      refine wK k214 (cT rfl ?_)
      refine kS (tK k213 ?_)
      refine sK fun _ k216 => bB (sK fun _ k217 => ?_)
      refine sK fun _ k218 => rL (xM (vS p) rfl ?_)
      simp only [zP, po]
      refine xM (vI i) rfl ?_
      simp only [zP, po]
      obtain ⟨y219, hy219⟩ : ∃ y, p[i]? = some y := ⟨_, List.getElem?_eq_getElem (show i < p.length by omega)⟩
      have hy219c := chr_at hy219
      refine xG (.int .u8 (chr p (i) : Int)) rfl ((by rw [hy219c]; exact ex_sidx0 Tryz.underlying9 rfl rfl rfl hy219)) ?_
      simp only [zP, po]
      by_cases hb220 : (chr p (i) : Int) = 42
      ·refine xG (.bool true) rfl (ex_eql rfl rfl rfl (qT hb220)) ?_
       simp only [zP, po]
       refine wK k218 (cT rfl ?_)
       refine sK fun _ k221 => ?_
       have hst : x.star = true := by rw [hps.st]; exact qT (by omega)
       refine rL (xM (.slice (some ⟨b15, 0, none⟩) (s.length + 1) (s.length + 1)) rfl ?_)
       simp only [zP, po]
       refine xM (vI a) rfl ?_
       simp only [zP, po]
       refine xM (.slice (some ⟨b, 0, none⟩) (s.length + 1) (s.length + 1)) rfl ?_
       simp only [zP, po]
       refine xM (vI a) rfl ?_
       simp only [zP, po]
       refine xG (.pointer (some ⟨b, 0 + a, none⟩)) rfl (ex_index rfl rfl rfl (run_idx1 (k := a) Tryz.underlying90 r2ces90 (by omega))) ?_
       simp only [zP, po]
       obtain ⟨z222, hz222⟩ : ∃ y, q[a]? = some y := ⟨_, List.getElem?_eq_getElem (show a < q.length by have := hql; omega)⟩
       refine xL (.bool z222) rfl (run_load1 r2cna4 (hv.load 1 (0 + a) rfl (by rw [Nat.zero_add]; exact bV_get hz222))) ?_
       simp only [zP, po]
       refine xM (.bool z222) rfl ?_
       simp only [zP, po]
       cases z222
       ·refine xM (vI a) rfl ?_
        simp only [zP, po]
        by_cases hb223 : (a : Int) > 0
        ·refine xG (.bool true) rfl (ex_gtr rfl rfl rfl (qT hb223)) ?_
         simp only [zP, po]
         refine xM (.bool true) rfl ?_
         simp only [zP, po]
         refine xM (.slice (some ⟨b15, 0, none⟩) (s.length + 1) (s.length + 1)) rfl ?_
         simp only [zP, po]
         refine xM (vI a) rfl ?_
         simp only [zP, po]
         refine xG (vI ((a - 1 : Nat) : Int)) rfl (ex_sub rfl rfl rfl (by rw [i64_in (by omega)]; omega)) ?_
         simp only [zP, po]
         refine xG (.pointer (some ⟨b15, 0 + (a - 1 : Nat), none⟩)) rfl (ex_index rfl rfl rfl (run_idx1 (k := (a - 1 : Nat)) Tryz.underlying90 r2ces90 (by omega))) ?_
         simp only [zP, po]
         obtain ⟨z224, hz224⟩ : ∃ y, n[(a - 1)]? = some y := ⟨_, List.getElem?_eq_getElem (show (a - 1) < n.length by have := hnl; omega)⟩
         refine xL (.bool z224) rfl (run_load1 r2cna4 (hv.load 0 (0 + (a - 1)) rfl (by rw [Nat.zero_add]; exact bV_get hz224))) ?_
         simp only [zP, po]
         refine xK true (.bool z224) rfl ?_
         simp only [zP, po]
         refine xK false (.bool z224) rfl ?_
         simp only [zP, po]
         refine xG (.pointer (some ⟨b15, 0 + a, none⟩)) rfl (ex_index rfl rfl rfl (run_idx1 (k := a) Tryz.underlying90 r2ces90 (by omega))) ?_
         simp only [zP, po]
         refine sl_storeAt 0 (v := .bool z224) (L' := bV (n.set a z224)) tV (wn rfl) rfl rfl rfl hv rfl r2csz4 (by rw [bV_len]; have := hnl; omega) rfl rfl (by rw [Nat.zero_add]; exact bV_set) (fun w225 hv => ?_)
         simp only [zO] at hv
         have hin2 := hin.set (v := z224) (by omega) (⟨fun h9 => (rnext_star hst).2 (.inr ⟨by omega, (hin.done _ (by omega)).1 (by rw [hz224, h9])⟩), fun h9 => ((rnext_star hst).1 h9).elim (fun h8 => by rw [hz222] at h8; cases h8) (fun h8 => Option.some.inj (hz224.symm.trans ((hin.done _ (by omega)).2 h8.2)))⟩)
         simp only [zP, po]
         refine wK k221 (xE ?_)
         refine tX (bH ?_)
         refine tK k216 (rL ?_)
         refine xM (vI a) rfl ?_
         simp only [zP, po]
         refine xG (vI ((a + 1 : Nat) : Int)) rfl (ex_add rfl rfl rfl (by rw [i64_in (by omega)]; omega)) ?_
         simp only [zP, po]
         refine xA (vI ((a + 1 : Nat) : Int)) rfl (wL ?_)
         simp only [zP, po]
         refine then_normal ?_
         go_roundw
         case rel => exact ⟨a + 1, _, rfl, by omega, hin2, ((hv.front 1 rfl).front 1 rfl)⟩
         case measure => show s.length + 1 - (((a + 1 : Nat) : Int)).toNat < s.length + 1 - ((a : Int)).toNat; omega
        refine xG (.bool false) rfl (ex_gtr rfl rfl rfl (qF hb223)) ?_
        simp only [zP, po]
        refine xM (.bool false) rfl ?_
        simp only [zP, po]
        refine yP rfl ?_
        simp only [zP, po]
        refine yP rfl ?_
        simp only [zP, po]
        refine yP rfl ?_
        simp only [zP, po]
        refine yP rfl ?_
        simp only [zP, po]
        refine yP rfl ?_
        simp only [zP, po]
        refine xK false (.bool false) rfl ?_
        simp only [zP, po]
        refine xK false (.bool false) rfl ?_
        simp only [zP, po]
        refine xG (.pointer (some ⟨b15, 0 + a, none⟩)) rfl (ex_index rfl rfl rfl (run_idx1 (k := a) Tryz.underlying90 r2ces90 (by omega))) ?_
        simp only [zP, po]
        refine sl_storeAt 0 (v := .bool false) (L' := bV (n.set a false)) tV (wn rfl) rfl rfl rfl hv rfl r2csz4 (by rw [bV_len]; have := hnl; omega) rfl rfl (by rw [Nat.zero_add]; exact bV_set) (fun w226 hv => ?_)
        simp only [zO] at hv
        have hin2 := hin.set (v := false) (by omega) (⟨fun h9 => (by cases h9), fun h9 => ((rnext_star hst).1 h9).elim (fun h8 => by rw [hz222] at h8; cases h8) (fun h8 => by omega)⟩)
        simp only [zP, po]
        refine wK k221 (xE ?_)
        refine tX (bH ?_)
        refine tK k216 (rL ?_)
        refine xM (vI a) rfl ?_
        simp only [zP, po]
        refine xG (vI ((a + 1 : Nat) : Int)) rfl (ex_add rfl rfl rfl (by rw [i64_in (by omega)]; omega)) ?_
        simp only [zP, po]
        refine xA (vI ((a + 1 : Nat) : Int)) rfl (wL ?_)
        simp only [zP, po]
        refine then_normal ?_
        go_roundw
        case rel => exact ⟨a + 1, _, rfl, by omega, hin2, ((hv.front 1 rfl).front 1 rfl)⟩
        case measure => show s.length + 1 - (((a + 1 : Nat) : Int)).toNat < s.length + 1 - ((a : Int)).toNat; omega
       refine yP rfl ?_
       simp only [zP, po]
       refine yP rfl ?_
       simp only [zP, po]
       refine yP rfl ?_
       simp only [zP, po]
       refine yP rfl ?_
       simp only [zP, po]
       refine yP rfl ?_
       simp only [zP, po]
       refine yP rfl ?_
       simp only [zP, po]
       refine yP rfl ?_
       simp only [zP, po]
       refine yP rfl ?_
       simp only [zP, po]
       refine yP rfl ?_
       simp only [zP, po]
       refine xK true (.bool true) rfl ?_
       simp only [zP, po]
       refine xG (.pointer (some ⟨b15, 0 + a, none⟩)) rfl (ex_index rfl rfl rfl (run_idx1 (k := a) Tryz.underlying90 r2ces90 (by omega))) ?_
       simp only [zP, po]
       refine sl_storeAt 0 (v := .bool true) (L' := bV (n.set a true)) tV (wn rfl) rfl rfl rfl hv rfl r2csz4 (by rw [bV_len]; have := hnl; omega) rfl rfl (by rw [Nat.zero_add]; exact bV_set) (fun w227 hv => ?_)
       simp only [zO] at hv
       have hin2 := hin.set (v := true) (by omega) (⟨fun _ => (rnext_star hst).2 (.inl hz222), fun _ => rfl⟩)
       simp only [zP, po]
       refine wK k221 (xE ?_)
       refine tX (bH ?_)
       refine tK k216 (rL ?_)
       refine xM (vI a) rfl ?_
       simp only [zP, po]
       refine xG (vI ((a + 1 : Nat) : Int)) rfl (ex_add rfl rfl rfl (by rw [i64_in (by omega)]; omega)) ?_
       simp only [zP, po]
       refine xA (vI ((a + 1 : Nat) : Int)) rfl (wL ?_)
       simp only [zP, po]
       refine then_normal ?_
       go_roundw
       case rel => exact ⟨a + 1, _, rfl, by omega, hin2, ((hv.front 1 rfl).front 1 rfl)⟩
       case measure => show s.length + 1 - (((a + 1 : Nat) : Int)).toNat < s.length + 1 - ((a : Int)).toNat; omega
      refine xG (.bool false) rfl (ex_eql rfl rfl rfl (qF hb220)) ?_
      simp only [zP, po]
      refine wK k218 (cF rfl ?_)
      refine kS (tK k217 ?_)
      refine sK fun _ k228 => sK fun _ k229 => ?_
      have hsf : x.star = false := by rw [hps.st]; exact qF (by omega)
      refine rL (xM (vI a) rfl ?_)
      simp only [zP, po]
      by_cases hb230 : (a : Int) = 0
      ·refine xG (.bool true) rfl (ex_eql rfl rfl rfl (qT hb230)) ?_
       simp only [zP, po]
       refine xM (.bool true) rfl ?_
       simp only [zP, po]
       refine yP rfl ?_
       simp only [zP, po]
       refine yP rfl ?_
       simp only [zP, po]
       refine yP rfl ?_
       simp only [zP, po]
       refine yP rfl ?_
       simp only [zP, po]
       refine yP rfl ?_
       simp only [zP, po]
       refine yP rfl ?_
       simp only [zP, po]
       refine xK true (.bool true) rfl ?_
       simp only [zP, po]
       refine wK k229 (cT rfl ?_)
       refine xE (tX ?_)
       refine bH (tK k216 ?_)
       refine rL (xM (vI a) rfl ?_)
       simp only [zP, po]
       refine xG (vI ((a + 1 : Nat) : Int)) rfl (ex_add rfl rfl rfl (by rw [i64_in (by omega)]; omega)) ?_
       simp only [zP, po]
       refine xA (vI ((a + 1 : Nat) : Int)) rfl (wL ?_)
       simp only [zP, po]
       refine then_normal ?_
       go_roundw
       case rel => exact ⟨a + 1, n, rfl, by omega, hin.skip (by omega) (fun h9 => absurd ((rnext_byte hsf).1 h9).1 (by omega)), ((hv.front 1 rfl).front 1 rfl)⟩
       case measure => show s.length + 1 - (((a + 1 : Nat) : Int)).toNat < s.length + 1 - ((a : Int)).toNat; omega
      refine xG (.bool false) rfl (ex_eql rfl rfl rfl (qF hb230)) ?_
      simp only [zP, po]
      refine xM (.bool false) rfl ?_
      simp only [zP, po]
      refine xM (.slice (some ⟨b, 0, none⟩) (s.length + 1) (s.length + 1)) rfl ?_
      simp only [zP, po]
      refine xM (vI a) rfl ?_
      simp only [zP, po]
      refine xG (vI ((a - 1 : Nat) : Int)) rfl (ex_sub rfl rfl rfl (by rw [i64_in (by omega)]; omega)) ?_
      simp only [zP, po]
      refine xG (.pointer (some ⟨b, 0 + (a - 1 : Nat), none⟩)) rfl (ex_index rfl rfl rfl (run_idx1 (k := (a - 1 : Nat)) Tryz.underlying90 r2ces90 (by omega))) ?_
      simp only [zP, po]
      obtain ⟨z231, hz231⟩ : ∃ y, q[(a - 1)]? = some y := ⟨_, List.getElem?_eq_getElem (show (a - 1) < q.length by have := hql; omega)⟩
      cases z231
      ·refine xL (.bool false) rfl (run_load1 r2cna4 (hv.load 1 (0 + (a - 1)) rfl (by rw [Nat.zero_add]; exact bV_get hz231))) ?_
       simp only [zP, po]
       refine xG (.bool true) rfl (ex_not rfl rfl rfl) ?_
       simp only [zP, po]
       refine xK false (.bool true) rfl ?_
       simp only [zP, po]
       refine wK k229 (cT rfl ?_)
       refine xE (tX ?_)
       refine bH (tK k216 ?_)
       refine rL (xM (vI a) rfl ?_)
       simp only [zP, po]
       refine xG (vI ((a + 1 : Nat) : Int)) rfl (ex_add rfl rfl rfl (by rw [i64_in (by omega)]; omega)) ?_
       simp only [zP, po]
       refine xA (vI ((a + 1 : Nat) : Int)) rfl (wL ?_)
       simp only [zP, po]
       refine then_normal ?_
       go_roundw
       case rel => exact ⟨a + 1, n, rfl, by omega, hin.skip (by omega) (fun h9 => absurd ((rnext_byte hsf).1 h9).2.1 (by rw [hz231]; decide)), ((hv.front 1 rfl).front 1 rfl)⟩
       case measure => show s.length + 1 - (((a + 1 : Nat) : Int)).toNat < s.length + 1 - ((a : Int)).toNat; omega
      refine xL (.bool true) rfl (run_load1 r2cna4 (hv.load 1 (0 + (a - 1)) rfl (by rw [Nat.zero_add]; exact bV_get hz231))) ?_
      simp only [zP, po]
      refine xG (.bool false) rfl (ex_not rfl rfl rfl) ?_
      simp only [zP, po]
      refine xK false (.bool false) rfl ?_
      simp only [zP, po]
      refine wK k229 (cF rfl ?_)
      refine kS (tK k228 ?_)
      refine sK fun _ k232 => rL (xM (vS s) rfl ?_)
      simp only [zP, po]
      refine xM (vI a) rfl ?_
      simp only [zP, po]
      refine xG (vI ((a - 1 : Nat) : Int)) rfl (ex_sub rfl rfl rfl (by rw [i64_in (by omega)]; omega)) ?_
      simp only [zP, po]
      obtain ⟨y233, hy233⟩ : ∃ y, s[(a - 1)]? = some y := ⟨_, List.getElem?_eq_getElem (show (a - 1) < s.length by omega)⟩
      have hy233c := chr_at hy233
      refine xG (.int .u8 (chr s ((a - 1)) : Int)) rfl ((by rw [hy233c]; exact ex_sidx0 Tryz.underlying9 rfl rfl rfl hy233)) ?_
      simp only [zP, po]
      refine xA (.int .u8 (chr s ((a - 1)) : Int)) rfl ?_
      simp only [zP, po]
      refine wK k232 (sK fun _ k234 => ?_)
      refine rL (xM (vS p) rfl ?_)
      simp only [zP, po]
      refine xM (vI i) rfl ?_
      simp only [zP, po]
      refine xG (.int .u8 (chr p (i) : Int)) rfl ((by rw [hy219c]; exact ex_sidx0 Tryz.underlying9 rfl rfl rfl hy219)) ?_
      simp only [zP, po]
      by_cases hb235 : (chr p (i) : Int) = 63
      ·refine xG (.bool true) rfl (ex_eql rfl rfl rfl (qT hb235)) ?_
       simp only [zP, po]
       refine wK k234 (cT rfl ?_)
       refine rL (xM (.slice (some ⟨b15, 0, none⟩) (s.length + 1) (s.length + 1)) rfl ?_)
       simp only [zP, po]
       refine xM (vI a) rfl ?_
       simp only [zP, po]
       refine xG (.pointer (some ⟨b15, 0 + a, none⟩)) rfl (ex_index rfl rfl rfl (run_idx1 (k := a) Tryz.underlying90 r2ces90 (by omega))) ?_
       simp only [zP, po]
       refine sl_storeAt 0 (v := .bool true) (L' := bV (n.set a true)) tV (wn rfl) rfl rfl rfl hv rfl r2csz4 (by rw [bV_len]; have := hnl; omega) rfl rfl (by rw [Nat.zero_add]; exact bV_set) (fun w236 hv => ?_)
       simp only [zO] at hv
       have hin2 := hin.set (v := true) (by omega) (⟨fun h9 => (rnext_byte hsf).2 ⟨by omega, hz231, hps.an (by omega) _ (chr256 s _)⟩, fun h9 => rfl⟩)
       refine wL ?_
       simp only [zP, po]
       refine bN (tK k216 ?_)
       refine rL (xM (vI a) rfl ?_)
       simp only [zP, po]
       refine xG (vI ((a + 1 : Nat) : Int)) rfl (ex_add rfl rfl rfl (by rw [i64_in (by omega)]; omega)) ?_
       simp only [zP, po]
       refine xA (vI ((a + 1 : Nat) : Int)) rfl (wL ?_)
       simp only [zP, po]
       refine then_normal ?_
       go_roundw
       case rel => exact ⟨a + 1, _, rfl, by omega, hin2, ((hv.front 1 rfl).front 1 rfl)⟩
       case measure => show s.length + 1 - (((a + 1 : Nat) : Int)).toNat < s.length + 1 - ((a : Int)).toNat; omega
      refine xG (.bool false) rfl (ex_eql rfl rfl rfl (qF hb235)) ?_
      simp only [zP, po]
      refine wK k234 (cF rfl ?_)
      refine sK fun _ k237 => rL (xM (vI k) rfl ?_)
      simp only [zP, po]
      by_cases hb238 : k ≥ 0
      ·refine xG (.bool true) rfl (ex_geq rfl rfl rfl (qT hb238)) ?_
       simp only [zP, po]
       refine wK k237 (cT rfl ?_)
       obtain ⟨kk, rfl⟩ : ∃ kk : Nat, k = (kk : Int) := ⟨k.toNat, by omega⟩
       obtain ⟨hk91, hk1, hk2, hk3⟩ := hps.cl (by omega)
       rw [Int.toNat_natCast] at hk1 hk2 hk3
       have hcq := hk3 (chr s (a - 1)) (chr256 s _)
       refine rL (xM (.slice (some ⟨b15, 0, none⟩) (s.length + 1) (s.length + 1)) rfl ?_)
       simp only [zP, po]
       refine xM (vI a) rfl ?_
       simp only [zP, po]
       refine xM (vS p) rfl ?_
       simp only [zP, po]
       refine xM (vI i) rfl ?_
       simp only [zP, po]
       refine xG (vI ((i + 1 : Nat) : Int)) rfl (ex_add rfl rfl rfl (by rw [i64_in (by omega)]; omega)) ?_
       simp only [zP, po]
       refine xM (vI kk) rfl ?_
       simp only [zP, po]
       refine xG (vS ((p.drop (i + 1)).take (kk - (i + 1)))) rfl (ex_slice (lo' := some (vI ((i + 1 : Nat) : Int))) (hi' := some (vI kk)) rfl rfl (congrArg some rfl) (congrArg some rfl) rfl (run_cut Tryz.underlying9 (by omega) (by omega) _)) ?_
       simp only [zP, po]
       refine xM (.int .u8 (chr s ((a - 1)) : Int)) rfl ?_
       simp only [zP, po]
       rw [show (p.take kk).drop (i + 1) = (p.drop (i + 1)).take (kk - (i + 1)) from by rw [List.drop_take]] at hcq
       refine xC r2ccallable34 rfl ((refClass B _ _ ((p.drop (i + 1)).take (kk - (i + 1))) (by rw [List.length_take, List.length_drop]; omega) (chr s (a - 1)) (chr256 s _) hv).mono ?_) rfl
       rintro e w239 ⟨rfl, hv⟩
       refine ⟨_, rfl, ?_⟩
       simp only [zP, po]
       refine xG (.pointer (some ⟨b15, 0 + a, none⟩)) rfl (ex_index rfl rfl rfl (run_idx1 (k := a) Tryz.underlying90 r2ces90 (by omega))) ?_
       simp only [zP, po]
       refine sl_storeAt 0 (v := .bool (clsFit ((p.drop (i + 1)).take (kk - (i + 1))) (chr s (a - 1)))) (L' := bV (n.set a (clsFit ((p.drop (i + 1)).take (kk - (i + 1))) (chr s (a - 1))))) tV (wn rfl) rfl rfl rfl hv rfl r2csz4 (by rw [bV_len]; have := hnl; omega) rfl rfl (by rw [Nat.zero_add]; exact bV_set) (fun w240 hv => ?_)
       simp only [zO] at hv
       have hin2 := hin.set (v := (clsFit ((p.drop (i + 1)).take (kk - (i + 1))) (chr s (a - 1)))) (by omega) ((by rw [hcq]; exact ⟨fun h9 => (rnext_byte hsf).2 ⟨by omega, hz231, h9⟩, fun h9 => ((rnext_byte hsf).1 h9).2.2⟩))
       refine wL ?_
       simp only [zP, po]
       refine bN (tK k216 ?_)
       refine rL (xM (vI a) rfl ?_)
       simp only [zP, po]
       refine xG (vI ((a + 1 : Nat) : Int)) rfl (ex_add rfl rfl rfl (by rw [i64_in (by omega)]; omega)) ?_
       simp only [zP, po]
       refine xA (vI ((a + 1 : Nat) : Int)) rfl (wL ?_)
       simp only [zP, po]
       refine then_normal ?_
       go_roundw
       case rel => exact ⟨a + 1, _, rfl, by omega, hin2, ((hv.front 1 rfl).front 1 rfl)⟩
       case measure => show s.length + 1 - (((a + 1 : Nat) : Int)).toNat < s.length + 1 - ((a : Int)).toNat; omega
      refine xG (.bool false) rfl (ex_geq rfl rfl rfl (qF hb238)) ?_
      simp only [zP, po]
      refine wK k237 (cF rfl ?_)
      refine rL (xM (.slice (some ⟨b15, 0, none⟩) (s.length + 1) (s.length + 1)) rfl ?_)
      simp only [zP, po]
      refine xM (vI a) rfl ?_
      simp only [zP, po]
      refine xM (.int .u8 (chr s ((a - 1)) : Int)) rfl ?_
      simp only [zP, po]
      refine xM (.int .u8 (lit : Int)) rfl ?_
      simp only [zP, po]
      refine xG (.bool (decide ((chr s ((a - 1)) : Int) = (lit : Int)))) rfl (ex_eql rfl rfl rfl rfl) ?_
      simp only [zP, po]
      refine xG (.pointer (some ⟨b15, 0 + a, none⟩)) rfl (ex_index rfl rfl rfl (run_idx1 (k := a) Tryz.underlying90 r2ces90 (by omega))) ?_
      simp only [zP, po]
      refine sl_storeAt 0 (v := .bool (decide ((chr s ((a - 1)) : Int) = (lit : Int)))) (L' := bV (n.set a (decide ((chr s ((a - 1)) : Int) = (lit : Int))))) tV (wn rfl) rfl rfl rfl hv rfl r2csz4 (by rw [bV_len]; have := hnl; omega) rfl rfl (by rw [Nat.zero_add]; exact bV_set) (fun w241 hv => ?_)
      simp only [zO] at hv
      have hin2 := hin.set (v := decide ((chr s ((a - 1)) : Int) = (lit : Int))) (by omega) (⟨fun h9 => (rnext_byte hsf).2 ⟨by omega, hz231, (by rw [hps.li (by omega) (by omega) (by omega) _ (chr256 s _)]; have h8 := of_decide_eq_true h9; exact qT (by omega))⟩, fun h9 => (by have h8 := ((rnext_byte hsf).1 h9).2.2; rw [hps.li (by omega) (by omega) (by omega) _ (chr256 s _)] at h8; have h7 := of_decide_eq_true h8; exact qT (by omega))⟩)
      refine wL ?_
      simp only [zP, po]
      refine bN (tK k216 ?_)
      refine rL (xM (vI a) rfl ?_)
      simp only [zP, po]
      refine xG (vI ((a + 1 : Nat) : Int)) rfl (ex_add rfl rfl rfl (by rw [i64_in (by omega)]; omega)) ?_
      simp only [zP, po]
      refine xA (vI ((a + 1 : Nat) : Int)) rfl (wL ?_)
      simp only [zP, po]
      refine then_normal ?_
      go_roundw
      case rel => exact ⟨a + 1, _, rfl, by omega, hin2, ((hv.front 1 rfl).front 1 rfl)⟩
      case measure => show s.length + 1 - (((a + 1 : Nat) : Int)).toNat < s.length + 1 - ((a : Int)).toNat; omega
     refine xG (.bool false) rfl (ex_leq rfl rfl rfl (qF hb215)) ?_
     simp only [zP, po]
     refine wK k214 (cF rfl ?_)
     refine xE (tX ?_)
     refine tX (bH ?_)
     refine tK k210 (sK fun _ k242 => ?_)
     refine sK fun _ k243 => ?_
     obtain rfl : a = s.length + 1 := by omega
     refine rL (xM (vI k) rfl ?_)
     simp only [zP, po]
     by_cases hb244 : k ≥ 0
     ·refine xG (.bool true) rfl (ex_geq rfl rfl rfl (qT hb244)) ?_
      simp only [zP, po]
      refine wK k243 (cT rfl ?_)
      obtain ⟨kk, rfl⟩ : ∃ kk : Nat, k = (kk : Int) := ⟨k.toNat, by omega⟩
      obtain ⟨hk91, hk1, hk2, hk3⟩ := hps.cl (by omega)
      rw [Int.toNat_natCast] at hk1 hk2
      refine rL (xM (vI kk) rfl ?_)
      simp only [zP, po]
      refine xA (vI kk) rfl ?_
      simp only [zP, po]
      refine wK k242 (sK fun _ k245 => ?_)
      refine sK fun _ k246 => rL (xM (.bool esc) rfl ?_)
      simp only [zP, po]
      refine wK k246 (wpIn_cond_split (t := esc) rfl (fun hc247 => ?_) (fun hc247 => ?_))
      ·have hes := hps.es hc247
       refine rL (xM (vI kk) rfl ?_)
       simp only [zP, po]
       refine xG (vI ((kk + 1 : Nat) : Int)) rfl (ex_add rfl rfl rfl (by rw [i64_in (by omega)]; omega)) ?_
       simp only [zP, po]
       refine xA (vI ((kk + 1 : Nat) : Int)) rfl ?_
       simp only [zP, po]
       refine wK k245 (rL ?_)
       refine xM (.slice (some ⟨b15, 0, none⟩) (s.length + 1) (s.length + 1)) rfl ?_
       simp only [zP, po]
       refine xA (.slice (some ⟨b15, 0, none⟩) (s.length + 1) (s.length + 1)) rfl (wL ?_)
       simp only [zP, po]
       refine bN (tK k13 ?_)
       refine rL (xM (vI ((kk + 1 : Nat) : Int)) rfl ?_)
       simp only [zP, po]
       refine xG (vI ((kk + 2 : Nat) : Int)) rfl (ex_add rfl rfl rfl (by rw [i64_in (by omega)]; omega)) ?_
       simp only [zP, po]
       refine xA (vI ((kk + 2 : Nat) : Int)) rfl (wL ?_)
       simp only [zP, po]
       refine then_normal ?_
       go_roundw
       case rel => exact ⟨kk + 2, b15, n, rfl, rfl, by omega, rinv_step hri (by have h9 := hps.dv; rw [if_pos (by omega), if_pos hc247] at h9; exact h9) hin.len hin.all, (hv.kp [] 1 1)⟩
       case measure => show p.length - (((kk + 2 : Nat) : Int)).toNat < p.length - ((i : Int)).toNat; omega
      refine kS (tK k245 ?_)
      refine rL (xM (.slice (some ⟨b15, 0, none⟩) (s.length + 1) (s.length + 1)) rfl ?_)
      simp only [zP, po]
      refine xA (.slice (some ⟨b15, 0, none⟩) (s.length + 1) (s.length + 1)) rfl (wL ?_)
      simp only [zP, po]
      refine bN (tK k13 ?_)
      refine rL (xM (vI kk) rfl ?_)
      simp only [zP, po]
      refine xG (vI ((kk + 1 : Nat) : Int)) rfl (ex_add rfl rfl rfl (by rw [i64_in (by omega)]; omega)) ?_
      simp only [zP, po]
      refine xA (vI ((kk + 1 : Nat) : Int)) rfl (wL ?_)
      simp only [zP, po]
      refine then_normal ?_
      go_roundw
      case rel => exact ⟨kk + 1, b15, n, rfl, rfl, by omega, rinv_step hri (by have h9 := hps.dv; rw [if_pos (by omega), if_neg (by rw [hc247]; decide)] at h9; exact h9) hin.len hin.all, (hv.kp [] 1 1)⟩
      case measure => show p.length - (((kk + 1 : Nat) : Int)).toNat < p.length - ((i : Int)).toNat; omega
     refine xG (.bool false) rfl (ex_geq rfl rfl rfl (qF hb244)) ?_
     simp only [zP, po]
     refine wK k243 (cF rfl ?_)
     refine kS (tK k242 ?_)
     refine sK fun _ k248 => sK fun _ k249 => rL (xM (.bool esc) rfl ?_)
     simp only [zP, po]
     refine wK k249 (wpIn_cond_split (t := esc) rfl (fun hc250 => ?_) (fun hc250 => ?_))
     ·have hes := hps.es hc250
      refine rL (xM (vI i) rfl ?_)
      simp only [zP, po]
      refine xG (vI ((i + 1 : Nat) : Int)) rfl (ex_add rfl rfl rfl (by rw [i64_in (by omega)]; omega)) ?_
      simp only [zP, po]
      refine xA (vI ((i + 1 : Nat) : Int)) rfl ?_
      simp only [zP, po]
      refine wK k248 (rL ?_)
      refine xM (.slice (some ⟨b15, 0, none⟩) (s.length + 1) (s.length + 1)) rfl ?_
      simp only [zP, po]
      refine xA (.slice (some ⟨b15, 0, none⟩) (s.length + 1) (s.length + 1)) rfl (wL ?_)
      simp only [zP, po]
      refine bN (tK k13 ?_)
      refine rL (xM (vI ((i + 1 : Nat) : Int)) rfl ?_)
      simp only [zP, po]
      refine xG (vI ((i + 2 : Nat) : Int)) rfl (ex_add rfl rfl rfl (by rw [i64_in (by omega)]; omega)) ?_
      simp only [zP, po]
      refine xA (vI ((i + 2 : Nat) : Int)) rfl (wL ?_)
      simp only [zP, po]
      refine then_normal ?_
      go_roundw
      case rel => exact ⟨i + 2, b15, n, rfl, rfl, by omega, rinv_step hri (by have h9 := hps.dv; rw [if_neg (by omega), if_pos hc250] at h9; exact h9) hin.len hin.all, (hv.kp [] 1 1)⟩
      case measure => show p.length - (((i + 2 : Nat) : Int)).toNat < p.length - ((i : Int)).toNat; omega
     refine kS (tK k248 ?_)
     refine rL (xM (.slice (some ⟨b15, 0, none⟩) (s.length + 1) (s.length + 1)) rfl ?_)
     simp only [zP, po]
     refine xA (.slice (some ⟨b15, 0, none⟩) (s.length + 1) (s.length + 1)) rfl (wL ?_)
     simp only [zP, po]
     refine bN (tK k13 ?_)
     refine rL (xM (vI i) rfl ?_)
     simp only [zP, po]
     refine xG (vI ((i + 1 : Nat) : Int)) rfl (ex_add rfl rfl rfl (by rw [i64_in (by omega)]; omega)) ?_
     simp only [zP, po]
     refine xA (vI ((i + 1 : Nat) : Int)) rfl (wL ?_)
     simp only [zP, po]
     refine then_normal ?_
     go_roundw
     case rel => exact ⟨i + 1, b15, n, rfl, rfl, by omega, rinv_step hri (by have h9 := hps.dv; rw [if_neg (by omega), if_neg (by rw [hc250]; decide)] at h9; exact h9) hin.len hin.all, (hv.kp [] 1 1)⟩
     case measure => show p.length - (((i + 1 : Nat) : Int)).toNat < p.length - ((i : Int)).toNat; omega
   refine sK fun _ k251 => rL (xM (.bool false) rfl ?_)
   simp only [zP, po]
   refine wK k251 (cF rfl ?_)
   refine kS ?_
   obtain ⟨xx, hxx⟩ := pstep_one (p := p) (i := i) (by omega) (by omega) (by omega)
   exact then_normal (hJ208 (-1) (chr p (i)) false xx _ _ _ _ _ _ hxx (by omega) hv)
  refine xG (.bool false) rfl (ex_lss rfl rfl rfl (qF hb12)) ?_
  simp only [zP, po]
  refine wK k11 (cF rfl ?_)
  refine xE (tX ?_)
  refine tX (bH ?_)
  refine tK k7 (sK fun _ k252 => ?_)
  refine rL (xM (.slice (some ⟨b, 0, none⟩) (s.length + 1) (s.length + 1)) rfl ?_)
  simp only [zP, po]
  refine xM (vS s) rfl ?_
  simp only [zP, po]
  refine xG (vI (s.length : Int)) rfl (ex_lenStr Tryz.underlying9 rfl rfl) ?_
  simp only [zP, po]
  refine xG (.pointer (some ⟨b, 0 + s.length, none⟩)) rfl (ex_index rfl rfl rfl (run_idx1 (k := s.length) Tryz.underlying90 r2ces90 (by omega))) ?_
  simp only [zP, po]
  obtain ⟨z253, hz253⟩ : ∃ y, q[s.length]? = some y := ⟨_, List.getElem?_eq_getElem (show s.length < q.length by have := hri.1; omega)⟩
  refine xL (.bool z253) rfl (run_load1 r2cna4 (hv.load 0 (0 + s.length) rfl (by rw [Nat.zero_add]; exact bV_get hz253))) ?_
  simp only [zP, po]
  refine xA (.bool z253) rfl ?_
  simp only [zP, po]
  refine wK k252 (rR ?_)
  refine bR rfl rfl (⟨_, rfl, rinv_end hri (by omega) hz253, (hv.kp [] 0 1)⟩)
end Go.Proofs.YtanfkicimnfgjaaGreatDoor
