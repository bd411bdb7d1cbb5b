/- The law: opened; the reference's Str, Strs, Same. -/
import Derived.Test.YtmhdpjifhfoabaaGreatDoorClFauC
import Derived.Test.YtmhdpjifhfoabaaGreatDoorClFauE
import Derived.Test.YtmhdpjifhfoabaaGreatDoorClFauF
import Derived.Test.YtmhdpjifhfoabaaGreatDoorClFauG
import Derived.Test.YtmhdpjifhfoabaaGreatDoorClFauB
import Derived.Test.YtmhdpjifhfoabaaGreatDoorRows
import Derived.Sort.Walk0
set_option maxRecDepth 100000
set_option maxHeartbeats 16000000
set_option synthInstance.maxSize 4096
set_option synthInstance.maxHeartbeats 400000
namespace Go.Proofs.YtmhdpjifhfoabaaGreatDoor
open Go.RowKit Go.Pm
theorem l0callable19 : Callable Tryz.prog 19 := cb Tryz.func19 (by kernel_rfl)
theorem l0callable18 : Callable Tryz.prog 18 := cb Tryz.func18 (by kernel_rfl)
theorem l0callable20 : Callable Tryz.prog 20 := cb Tryz.func20 (by kernel_rfl)
theorem l0callable21 : Callable Tryz.prog 21 := cb Tryz.func21 (by kernel_rfl)
theorem l0callable22 : Callable Tryz.prog 22 := cb Tryz.func22 (by kernel_rfl)
theorem lawOpened (B : Base) (H : List Res) (w : World) (now : Int) (h0 : 0 ≤ now) (h1 : now ≤ 1099511627776) (hv : Inv B H w) :
  Calls Tryz.prog 7 #[vI now] w fun e w' => ∃ v t m s p wb va vc sv, e = .returned (vP v) ∧ Inv B (Res.cell v [.iface 62 (vP t)] 36 :: txR t m s p wb va vc sv now [] :: H) w' := by
 refine cW Tryz.func7 rfl Tryz.ntmps7 ?_
 simp only [al]
 refine sK fun _ k1 => rL (uA rfl ?_)
 refine uW k1 (sK fun _ k2 => ?_)
 refine rL (xC l0callable19 rfl ((storeNew0 B _ _ hv).mono ?_) rfl)
 rintro e w3 ⟨s, p, rfl, hv⟩
 refine ⟨_, rfl, uG (.agg #[]) rfl (ex_buildN (vs := #[]) rfl (by simp only [List.map_toArray, List.map_nil]) (by kernel_rfl)) ?_⟩
 refine uG (.iface 60 (.agg #[])) rfl (ex_iface Tryz.underlying60 (fun _ h => by cases h) rfl rfl) ?_
 refine xC l0callable18 rfl ((txnNew0 B _ _ s 60 (.agg #[]) hv).mono ?_) rfl
 rintro e w4 ⟨m, rfl, hv⟩
 refine ⟨_, rfl, ?_⟩
 obtain ⟨sv, hsv⟩ : ∃ sv, sv = Value.iface 60 (.agg #[]) := ⟨_, rfl⟩
 rw [← hsv] at hv
 refine uM rfl (uE rfl ?_)
 refine uE rfl (uA rfl ?_)
 refine uA rfl (uW k2 ?_)
 refine sK fun _ k5 => sK fun _ k6 => rL (uM rfl ?_)
 refine uG (.bool false) rfl (ex_pisnil Tryz.underlying53 rfl rfl rfl rfl) (uW k6 ?_)
 refine cF rfl (kS ?_)
 refine tK k5 (sK fun _ k7 => ?_)
 refine rL (uM rfl ?_)
 refine uM rfl ?_
 refine xC l0callable20 rfl ((txnTick0 B _ _ m s sv now h0 h1 hv).mono ?_) rfl
 rintro e w8 ⟨r9, rfl, hv⟩
 refine ⟨_, rfl, uW k7 ?_⟩
 refine sK fun _ k9 => rL (uM rfl ?_)
 replace hv := hv.front 2 rfl
 simp only [eS, eZ] at hv
 replace hv := hv.front 2 rfl
 simp only [eS, eZ] at hv
 replace hv := hv.front 2 rfl
 simp only [eS, eZ] at hv
 refine xC l0callable21 rfl ((txnBegin B _ _ m s p sv now hv).mono ?_) rfl
 rintro e w10 ⟨t, wb, va, vc, rfl, hv⟩
 refine ⟨_, rfl, uM rfl ?_⟩
 refine uE rfl (uE rfl ?_)
 refine uA rfl (uA rfl ?_)
 refine uW k9 (sK fun _ k11 => ?_)
 refine sK fun _ k12 => rL (uM rfl ?_)
 refine uG (.bool false) rfl (ex_pisnil Tryz.underlying62 rfl rfl rfl rfl) (uW k12 ?_)
 refine cF rfl (kS ?_)
 refine tK k11 (sK fun _ k13 => ?_)
 refine rL (uM rfl ?_)
 refine uG (.iface 62 (vP t)) rfl (ex_iface Tryz.underlying62 (fun _ h => by cases h) rfl rfl) ?_
 refine xC l0callable22 rfl ((viewNew B _ _ t hv).mono ?_) rfl
 rintro e w14 ⟨v, rfl, hv⟩
 refine ⟨_, rfl, uM rfl ?_⟩
 refine uE rfl (uE rfl ?_)
 refine uA rfl (uA rfl ?_)
 refine uW k13 (sK fun _ k15 => ?_)
 refine rL (uM rfl ?_)
 refine uA rfl (uW k15 ?_)
 refine rR (bR rfl rfl ?_)
 exact ⟨v, t, m, s, p, wb, va, vc, sv, rfl, ((hv.front 1 rfl).front 1 rfl)⟩
theorem l0al28 : AL Tryz.prog 28 [vI 0, vS [], vI 0, vN] := fun w => by kernel_rfl
theorem ref20Str (B : Base) (H : List Res) (w : World) (s : List UInt8) (hv : Inv B H w) :
  Calls Tryz.prog 23 #[vS s] w fun e w' => e = .returned (.agg #[vI 3, vS s, vI 0, vN]) ∧ Inv B H w' := by
 refine cW Tryz.func23 rfl Tryz.ntmps23 ?_
 simp only [al]
 refine sK fun _ k1 => rL (sl_alloc tV (wn rfl) rfl hv l0al28 (fun b2 w3 hv => ?_))
 refine uW k1 (sK fun _ k4 => ?_)
 refine rL (uM rfl ?_)
 refine uG (.agg #[vI 3, vS s, vI 0, vN]) rfl (ex_buildN (vs := #[(0, vI 3), (1, vS s)]) rfl (by simp only [List.map_toArray, List.map_cons, List.map_nil]; rfl) (by kernel_rfl)) ?_
 refine xS 0 rfl hv rssz28 rfl (by exact ⟨rfl, rfl, rfl, rfl, trivial⟩) (fun w5 hv => ?_)
 simp only [zO, sp] at hv
 refine uW k4 (rR ?_)
 refine bC 0 rswd28 hv rfl rfl rfl rfl (⟨rfl, (hv.kp [] 0 1)⟩)
theorem l0callable23 : Callable Tryz.prog 23 := cb Tryz.func23 (by kernel_rfl)
theorem l0mk28 : (Tryz.prog.info? 28).map (fun i => (i.zero, i.size, i.bytes)) = some (some (.agg #[vI 0, vS [], vI 0, vN]), 4, 56) := by kernel_rfl
theorem l0el26 : Elem Tryz.prog 26 28 (.agg #[vI 0, vS [], vI 0, vN]) 4 56 := elem_of Tryz.underlying26 l0mk28 (by rfl) (by decide)
theorem ref20Strs (B : Base) (H : List Res) (w : World) (sa : Option Addr) (sc : Nat) (ss : List (List UInt8)) (hr : RdV B [] sa (textCells ss)) (hm : ss.length ≤ 1000000) (hv : Inv B H w) :
  Calls Tryz.prog 10 #[.slice sa ss.length sc] w fun e w' => ∃ C v, B.Le C ∧ e = .returned (.agg #[vI 5, vS (([] : List UInt8)), vI 0, v]) ∧ RpAt C (rStrs ss) (rpCells 5 [] 0 v) ∧ Inv C H w' := by
 refine cW Tryz.func10 rfl Tryz.ntmps10 ?_
 simp only [al]
 refine sK fun _ k1 => rL (sl_alloc tV (wn rfl) rfl hv l0al28 (fun b2 w3 hv => ?_))
 refine uW k1 (sK fun _ k4 => ?_)
 refine rL (uG (.agg #[vI 5, vS [], vI 0, vN]) rfl (ex_buildN (vs := #[(0, vI 5)]) rfl (by simp only [List.map_toArray, List.map_cons, List.map_nil]; rfl) (by kernel_rfl)) ?_)
 refine sl_alloc tV (wn rfl) rfl hv l0al28 (fun b5 w6 hv => ?_)
 refine xS 0 rfl hv rssz28 rfl (by exact ⟨rfl, rfl, rfl, rfl, trivial⟩) (fun w7 hv => ?_)
 simp only [zO, sp] at hv
 refine uW k4 (sK fun _ k8 => ?_)
 refine sK fun _ k9 => rL (uA rfl ?_)
 refine uW k9 (bB ?_)
 gi_loopw [4] (fun x4 wr => ∃ (i : Nat) (ra : Option Addr) (rc : Nat), x4 = vI i ∧ i ≤ ss.length ∧ Inv B (Res.row 28 4 (.slice ra i rc) i (strsCells (ss.take i)) :: Res.cell b5 [vI 5, vS [], vI 0, .slice ra i rc] 28 :: Res.cell b2 [vI 0, vS [], vI 0, vN] 28 :: H) wr) (fun x4 _ => ss.length - (intOf x4).toNat)
 case atStart => exact ⟨0, none, 0, rfl, Nat.zero_le _, (((hv.front 1 rfl).front 1 rfl)).rowNil 28 4⟩
 case round =>
  obtain ⟨i, ra, rc, rfl, hi, hv⟩ := hrel
  refine sK fun _ k11 => sK fun _ k12 => rL (uM rfl ?_)
  refine uM rfl ?_
  refine uG (vI (ss.length : Int)) rfl (ex_len0 Tryz.underlying22 rfl rfl) ?_
  by_cases hb13 : (i : Int) < (ss.length : Int)
  ·refine uG (.bool true) rfl (ex_lss rfl rfl rfl (qT hb13)) (uW k12 ?_)
   refine cT rfl (kS ?_)
   refine tK k11 (sK fun _ k14 => ?_)
   refine bB ?_
   obtain ⟨x, hx⟩ : ∃ x, ss[i]? = some x := ⟨_, List.getElem?_eq_getElem (show i < ss.length by omega)⟩
   obtain ⟨bb, bo, had, hrdx⟩ := text_reads hr hx
   subst had
   refine rW mixed [6, 7, 8, 10] [0,1,2,3,4,5,6,7,8,9,10] 23 rfl (by kernel_rfl) hv ?_
   simp only [qm, opAt]
   refine dG (.pointer (some ⟨b5, 3, none⟩)) rfl (ex_field rfl rfl (rtfa28_3 _ _ _)) (dF _ rfl (fun hv => ex_load rfl rfl (run_load1 rtna26 (hv.load 1 3 rfl rfl))) fun f15 hf15 => ?_)
   refine dM (.slice (some ⟨bb, bo, none⟩) ss.length sc) rfl ?_
   simp only [zP, po]
   refine dM (vI i) rfl (dG (.pointer (some ⟨bb, bo + i, none⟩)) rfl (ex_index rfl rfl rfl (run_idx1 (k := i) Tryz.underlying22 s9es22 (by omega))) ?_)
   refine dL _ rfl (fun hv => ex_load rfl rfl (run_load1 s9na9 (hrdx _ _ _ (Base.Le.refl _) no_res hv 0 _ rfl))) ?_
   simp only [zP, po]
   refine dS rfl fun w16 hv => mC l0callable23 rfl ((ref20Str B _ _ x hv).mono ?_) rfl
   rintro e w17 ⟨rfl, hv⟩
   refine ⟨_, rfl, dV hv (fC (fun ww hv => hf15 ww (ex_load rfl rfl (run_load1 rtna26 (hv.load 1 3 rfl rfl)))) fN) ?_⟩
   refine dS rfl fun w18 hv => mem_rowAgg (L := [vI 3, vS x, vI 0, vN]) rfl rfl rfl hv l0el26 rfl (by decide) (fun b19 w20 hv => ?_)
   refine dV hv (fC (fun ww hv => hf15 ww (ex_load rfl rfl (run_load1 rtna26 (hv.load 2 3 rfl rfl)))) fN) (dS rfl fun w21 hv => ?_)
   replace hv := hv.front 1 rfl
   simp only [eS, eZ] at hv
   refine mem_append (news := [vI 3, vS x, vI 0, vN]) rfl rfl rfl rfl l0el26 hv (ok_full (by omega)) rfl (rd_all (hv.get 1 rfl)) (by intro u hu; simp only [List.mem_cons, List.not_mem_nil, or_false] at hu; rcases hu with rfl | rfl | rfl | rfl <;> rfl) (by unfold maxLen; omega) (by omega) (fun rv22 w25 hv => ?_)
   obtain ⟨ra23, rc24, rfl⟩ := row_slice hv.head
   refine dV hv (fK rfl fN) ?_
   simp only [zP, po]
   refine dG (.pointer (some ⟨b5, 3, none⟩)) rfl (ex_field rfl rfl (rtfa28_3 _ _ _)) (dS rfl fun w26 hv => ?_)
   refine mV 2 (.slice ra23 (i + 1) rc24) rfl hv rtsz26 rfl rfl (fun w27 hv => ?_)
   simp only [zS, zO, sp] at hv
   refine dV hv (fK rfl fN) (dE fun w28 hv => ?_)
   simp only [zP, po]
   refine bN (tK k14 ?_)
   refine rL (uM rfl ?_)
   refine uG (vI ((i + 1 : Nat) : Int)) rfl (ex_add rfl rfl rfl (by rw [i64_in (by omega)]; omega)) (uA rfl ?_)
   refine uZ (then_normal ?_)
   go_roundw
   case rel => exact ⟨i + 1, _, _, rfl, by omega, by rw [strsCells_next hx]; exact (hv.kp [3, 3, 2] 3 1)⟩
   case measure => show ss.length - (((i + 1 : Nat) : Int)).toNat < ss.length - ((i : Int)).toNat; omega
  refine uG (.bool false) rfl (ex_lss rfl rfl rfl (qF hb13)) (uW k12 ?_)
  refine cF rfl (xE ?_)
  refine tX (tX ?_)
  refine bH (tK k8 ?_)
  refine sK fun _ k29 => rL (uL (.agg #[vI 5, vS [], vI 0, .slice ra i rc]) rfl (lM 1 rswd28 hv rfl rfl rfl rfl) ?_)
  refine xS 2 rfl hv rssz28 rfl (by exact ⟨rfl, rfl, rfl, rfl, trivial⟩) (fun w30 hv => ?_)
  simp only [zS, zO, sp] at hv
  refine uW k29 (rR ?_)
  refine bC 2 rswd28 hv rfl rfl rfl rfl ?_
  obtain rfl : i = ss.length := by omega
  obtain ⟨C, hC, hv, hro, hoko, -⟩ := ((hv.sub (sC _ (sD _ (sD _ (sR _)))))).rowBy
  rw [List.take_length] at hro
  exact ⟨C, _, hC, rfl, rpAt_of (l := ss.map rStr) ⟨ra, rc, by rw [List.length_map], by rw [List.length_map]; exact hoko, hro⟩ (strsCells_at ss), hv⟩
def SameR (B : Base) (r : Rp) : Prop := ∀ (H : List Res) (w : World) (cs cs' : List Value), RpAt B r cs → RpAt B r cs' → Inv B H w → Calls Tryz.prog 9 #[.agg cs.toArray, .agg cs'.toArray] w fun e w' => e = .returned (.bool true) ∧ Inv B H w'
theorem l0fa28_0 : FA Tryz.prog 28 0 0 := fun w b o => by kernel_rfl
theorem l0fa28_1 : FA Tryz.prog 28 1 1 := fun w b o => by kernel_rfl
theorem l0fa28_2 : FA Tryz.prog 28 2 2 := fun w b o => by kernel_rfl
theorem l0es26 (w : World) : (sizeOf (Tryz.prog.elem 26)).run Tryz.prog w = .ok 4 w := by kernel_rfl
theorem l0callable9 : Callable Tryz.prog 9 := cb Tryz.func9 (by kernel_rfl)
theorem refSameRp0 (B : Base) (H : List Res) (w : World) (k : Int) (s : List UInt8) (n : Int) (l : List Rp) (a a' : Option Addr) (c c' : Nat) (xs xs' : List Value) (hrd : RdV B [] a xs) (hrd' : RdV B [] a' xs') (hat : RpsAt B l xs) (hat' : RpsAt B l xs') (hl : l.length ≤ 1000000) (hIH : ∀ x ∈ l, SameR B x) (hv : Inv B H w) :
  Calls Tryz.prog 9 #[.agg #[vI k, vS s, vI n, .slice a l.length c], .agg #[vI k, vS s, vI n, .slice a' l.length c']] w fun e w' => e = .returned (.bool true) ∧ Inv B H w' := by
 refine cW Tryz.func9 rfl Tryz.ntmps9 ?_
 simp only [al]
 refine sK fun _ k1 => rL (sl_box (L := [vI k, vS s, vI n, .slice a l.length c]) tV (wn rfl) rfl rfl hv (fun w => by kernel_rfl) (fun b2 w3 hv => ?_))
 refine sl_box (L := [vI k, vS s, vI n, .slice a' l.length c']) tV (wn rfl) rfl rfl hv (fun w => by kernel_rfl) (fun b4 w5 hv => ?_)
 refine uA rfl (uW k1 ?_)
 refine sK fun _ k6 => sK fun _ k7 => rL (uF (vP b2) rfl (l0fa28_0 _ _ _) ?_)
 refine uL _ rfl (run_load1 s2na3 (hv.load 1 0 rfl rfl)) ?_
 refine uF (vP b4) rfl (l0fa28_0 _ _ _) ?_
 refine uL _ rfl (run_load1 s2na3 (hv.load 0 0 rfl rfl)) ?_
 refine uG (.bool false) rfl (ex_neq rfl rfl rfl (qF (fun h => h rfl))) (uM rfl ?_)
 refine uF (.pointer (some ⟨b2, 1, none⟩)) rfl (l0fa28_1 _ _ _) ?_
 refine uL _ rfl (run_load1 s9na9 (hv.load 1 1 rfl rfl)) ?_
 refine uF (.pointer (some ⟨b4, 1, none⟩)) rfl (l0fa28_1 _ _ _) ?_
 refine uL _ rfl (run_load1 s9na9 (hv.load 0 1 rfl rfl)) ?_
 refine uG (.bool false) rfl (ex_sneq rfl rfl rfl (qF (fun h => h rfl))) (uK rfl ?_)
 refine uM rfl ?_
 refine uF (.pointer (some ⟨b2, 2, none⟩)) rfl (l0fa28_2 _ _ _) ?_
 refine uL _ rfl (run_load1 s2na3 (hv.load 1 2 rfl rfl)) ?_
 refine uF (.pointer (some ⟨b4, 2, none⟩)) rfl (l0fa28_2 _ _ _) ?_
 refine uL _ rfl (run_load1 s2na3 (hv.load 0 2 rfl rfl)) ?_
 refine uG (.bool false) rfl (ex_neq rfl rfl rfl (qF (fun h => h rfl))) (uK rfl ?_)
 refine uM rfl ?_
 refine uF (.pointer (some ⟨b2, 3, none⟩)) rfl (rtfa28_3 _ _ _) ?_
 refine uL _ rfl (run_load1 rtna26 (hv.load 1 3 rfl rfl)) ?_
 refine uG (vI (l.length : Int)) rfl (ex_len0 Tryz.underlying26 rfl rfl) ?_
 refine uF (.pointer (some ⟨b4, 3, none⟩)) rfl (rtfa28_3 _ _ _) ?_
 refine uL _ rfl (run_load1 rtna26 (hv.load 0 3 rfl rfl)) ?_
 refine uG (vI (l.length : Int)) rfl (ex_len0 Tryz.underlying26 rfl rfl) ?_
 refine uG (.bool false) rfl (ex_neq rfl rfl rfl (qF (fun h => h rfl))) (uK rfl ?_)
 refine uW k7 (cF rfl ?_)
 refine kS (tK k6 ?_)
 refine sK fun _ k8 => sK fun _ k9 => rL (uA rfl ?_)
 refine uW k9 (bB ?_)
 gi_loopw [5] (fun x5 wr => ∃ (i : Nat), x5 = vI i ∧ i ≤ l.length ∧ Inv B (Res.cell b4 [vI k, vS s, vI n, .slice a' l.length c'] 28 :: Res.cell b2 [vI k, vS s, vI n, .slice a l.length c] 28 :: H) wr) (fun x5 _ => l.length - (intOf x5).toNat)
 case atStart => exact ⟨0, rfl, Nat.zero_le _, hv⟩
 case round =>
  obtain ⟨i, rfl, hi, hv⟩ := hrel
  refine sK fun _ k11 => sK fun _ k12 => rL (uM rfl ?_)
  refine uF (.pointer (some ⟨b2, 3, none⟩)) rfl (rtfa28_3 _ _ _) ?_
  refine uL _ rfl (run_load1 rtna26 (hv.load 1 3 rfl rfl)) ?_
  refine uG (vI (l.length : Int)) rfl (ex_len0 Tryz.underlying26 rfl rfl) ?_
  by_cases hb13 : (i : Int) < (l.length : Int)
  ·refine uG (.bool true) rfl (ex_lss rfl rfl rfl (qT hb13)) (uW k12 ?_)
   refine cT rfl (kS ?_)
   refine tK k11 (sK fun _ k14 => ?_)
   refine bB (sK fun _ k15 => ?_)
   obtain ⟨x, hx⟩ : ∃ x, l[i]? = some x := ⟨_, List.getElem?_eq_getElem (show i < l.length by omega)⟩
   obtain ⟨xk, xs, xn, xq⟩ := x
   obtain ⟨q1, o1, v1, y1, h1a, h1b, h1c, h1d⟩ := hat.reads hrd hx
   obtain ⟨q2, o2, v2, y2, h2a, h2b, h2c, h2d⟩ := hat'.reads hrd' hx
   subst h1a
   subst h2a
   have hq1 := rpAt_of (k := xk) (s := xs) (n := xn) h1b h1c
   have hq2 := rpAt_of (k := xk) (s := xs) (n := xn) h2b h2c
   refine rW mixed [10] [0,1,2,3,4,5,6,7,8,9,10,11] 53 rfl (by kernel_rfl) hv ?_
   simp only [qm, opAt]
   refine dG (.pointer (some ⟨b2, 3, none⟩)) rfl (ex_field rfl rfl (rtfa28_3 _ _ _)) (dL _ rfl (fun hv => ex_load rfl rfl (run_load1 rtna26 (hv.load 1 3 rfl rfl))) ?_)
   refine dM (vI i) rfl ?_
   simp only [zP, po]
   refine dG (.pointer (some ⟨q1, o1 + i * 4, none⟩)) rfl (ex_index rfl rfl rfl (run_idx (k := i) Tryz.underlying26 l0es26 (by omega))) (dL (.agg #[vI xk, vS xs, vI xn, v1]) rfl (fun hv => ex_load rfl rfl (run_loadR (cs := [vI xk, vS xs, vI xn, v1]) rswd28 (Reads.mid (pre := []) (mid := [vI xk, vS xs, vI xn, v1]) (post := []) h1d _ _ _ (Base.Le.refl _) no_res hv))) ?_)
   refine dG (.pointer (some ⟨b4, 3, none⟩)) rfl (ex_field rfl rfl (rtfa28_3 _ _ _)) ?_
   simp only [zP, po]
   refine dL _ rfl (fun hv => ex_load rfl rfl (run_load1 rtna26 (hv.load 0 3 rfl rfl))) (dM (vI i) rfl ?_)
   refine dG (.pointer (some ⟨q2, o2 + i * 4, none⟩)) rfl (ex_index rfl rfl rfl (run_idx (k := i) Tryz.underlying26 l0es26 (by omega))) ?_
   simp only [zP, po]
   refine dL (.agg #[vI xk, vS xs, vI xn, v2]) rfl (fun hv => ex_load rfl rfl (run_loadR (cs := [vI xk, vS xs, vI xn, v2]) rswd28 (Reads.mid (pre := []) (mid := [vI xk, vS xs, vI xn, v2]) (post := []) h2d _ _ _ (Base.Le.refl _) no_res hv))) (dS rfl fun w16 hv => ?_)
   refine mC l0callable9 rfl ((hIH _ (List.mem_of_getElem? hx) _ _ (rpCells xk xs xn v1) (rpCells xk xs xn v2) hq1 hq2 hv).mono ?_) rfl
   rintro e w17 ⟨rfl, hv⟩
   refine ⟨_, rfl, dW hv ?_⟩
   refine dG (.bool false) rfl (ex_not rfl rfl rfl) (dE fun w18 hv => ?_)
   simp only [zP, po]
   refine tK k15 (cF rfl ?_)
   refine kS (bN ?_)
   refine tK k14 (rL ?_)
   refine uM rfl ?_
   refine uG (vI ((i + 1 : Nat) : Int)) rfl (ex_add rfl rfl rfl (by rw [i64_in (by omega)]; omega)) (uA rfl ?_)
   refine uZ (then_normal ?_)
   go_roundw
   case rel => exact ⟨i + 1, rfl, by omega, hv⟩
   case measure => show l.length - (((i + 1 : Nat) : Int)).toNat < l.length - ((i : Int)).toNat; omega
  refine uG (.bool false) rfl (ex_lss rfl rfl rfl (qF hb13)) (uW k12 ?_)
  refine cF rfl (xE ?_)
  refine tX (tX ?_)
  refine bH (tK k8 ?_)
  refine sK fun _ k19 => rL (uA rfl ?_)
  refine uW k19 (rR ?_)
  refine bR rfl rfl (⟨rfl, (hv.kp [] 0 2)⟩)
theorem sameR_of {B : Base} {k : Int} {s : List UInt8} {n : Int} {l : List Rp} (hl : l.length ≤ 1000000) (h : ∀ x ∈ l, SameR B x) : SameR B (.mk k s n l) := fun H w cs cs' h1 h2 hv => by
 simp only [RpAt] at h1 h2
 obtain ⟨v, xs, rfl, ⟨a, c, rfl, -, hr⟩, hx⟩ := h1
 obtain ⟨v', xs', rfl, ⟨a', c', rfl, -, hr'⟩, hx'⟩ := h2
 exact refSameRp0 B H w k s n l a a' c c' xs xs' hr hr' hx hx' hl h hv
theorem sameR_leaf {B : Base} {k : Int} {s : List UInt8} {n : Int} : SameR B (.mk k s n []) := sameR_of (Nat.zero_le _) fun x h => by cases h
theorem sameR_strs {B : Base} {l : List (List UInt8)} (hl : l.length ≤ 1000000) : SameR B (rStrs l) := sameR_of (by rw [List.length_map]; exact hl) fun x h => by
 obtain ⟨y, -, rfl⟩ := List.mem_map.1 h
 exact sameR_leaf
theorem text_snoc (l : List (List UInt8)) (x : List UInt8) : textCells l ++ [strV x] = textCells (l ++ [x]) := by simp [textCells]
theorem rp_parts {B : Base} {r : Rp} {cs : List Value} (h : RpAt B r cs) : ∃ k s n v, cs = rpCells k s n v := by
 cases r; simp only [RpAt] at h
 obtain ⟨v, xs, h1, -⟩ := h
 exact ⟨_, _, _, v, h1⟩
theorem rp_int {B : Base} {n : Int} {cs : List Value} (h : RpAt B (rInt n) cs) : ∃ v, cs = rpCells 2 [] n v := by
 simp only [rInt, RpAt] at h
 obtain ⟨v, xs, h1, -⟩ := h
 exact ⟨v, h1⟩
theorem rp_strs {B : Base} {l : List (List UInt8)} {cs : List Value} (h : RpAt B (rStrs l) cs) : ∃ a c, cs = rpCells 5 [] 0 (.slice a l.length c) := by
 simp only [rStrs, rList, RpAt] at h
 obtain ⟨v, xs, h1, ⟨a, c, rfl, -⟩, -⟩ := h
 exact ⟨a, c, by rw [h1, List.length_map]⟩
theorem vmNil (B : Base) : VM B [] [] := trivial
theorem all0 {p : List UInt8 → Prop} : ∀ x ∈ ([] : List (List UInt8)), p x := fun _ h => by cases h
theorem all1 {p : List UInt8 → Prop} {a : List UInt8} {l : List (List UInt8)} (h : p a) (t : ∀ x ∈ l, p x) : ∀ x ∈ a :: l, p x := fun x hx => (List.mem_cons.1 hx).elim (fun e => e ▸ h) (t x)
end Go.Proofs.YtmhdpjifhfoabaaGreatDoor
namespace Go.Pm
open Go.RowKit
structure Leaf where
 k : Int
 s : List UInt8
 n : Int
abbrev nilS : Value := .slice none 0 0
abbrev leafC (x : Leaf) (v : Value) : List Value := rpCells x.k x.s x.n v
def leafR (x : Leaf) : Rp := .mk x.k x.s x.n []
abbrev leafN (x : Leaf) : List Value := leafC x nilS
def lvC (pre : List Leaf) : Option (Leaf × Value) → List Value
 | none => pre.flatMap leafN
 | some (x, v) => pre.flatMap leafN ++ leafC x v
theorem leafs_len (l : List Leaf) : (l.flatMap leafN).length = l.length * 4 := rowk_len (k := 4) (fun _ => rfl) l
theorem lvC_len0 (l : List Leaf) : (lvC l none).length = l.length * 4 := leafs_len l
theorem lvC_len1 (l : List Leaf) (x : Leaf) (v : Value) : (lvC l (some (x, v))).length = (l.length + 1) * 4 := by
 show (l.flatMap leafN ++ leafC x v).length = _
 rw [List.length_append, leafs_len, Nat.succ_mul]; rfl
theorem lvC_pre {l : List Leaf} {o : Option (Leaf × Value)} {i j : Nat} {x : Leaf} (hx : l[i]? = some x) (hj : j < 4) : (lvC l o)[i * 4 + j]? = (leafN x)[j]? := by
 have h := rowk_get (f := leafN) (k := 4) (fun _ => rfl) hx hj
 cases o with
 | none => exact h
 | some p =>
  show (l.flatMap leafN ++ _)[_]? = _
  have hi := (List.getElem?_eq_some_iff.1 hx).1
  have := Nat.mul_le_mul_right 4 (show i + 1 ≤ l.length by omega)
  rw [Nat.succ_mul] at this
  rw [List.getElem?_append_left (by rw [leafs_len]; omega)]
  exact h
theorem lvC_last {l : List Leaf} {x : Leaf} {v : Value} {j : Nat} : (lvC l (some (x, v)))[l.length * 4 + j]? = (leafC x v)[j]? := by
 show (l.flatMap leafN ++ _)[_]? = _
 rw [List.getElem?_append_right (by rw [leafs_len]; omega), leafs_len, Nat.add_sub_cancel_left]
theorem lvSet_same {α : Type} {l : List α} {i : Nat} {v : α} (h : l[i]? = some v) : l.set i v = l := by
 refine List.ext_getElem? fun j => ?_
 rw [List.getElem?_set]
 split
 ·rename_i e; subst e
  have := (List.getElem?_eq_some_iff.1 h).1
  rw [if_pos this, h]
 rfl
theorem lvC_set {l : List Leaf} {o : Option (Leaf × Value)} {i : Nat} {x : Leaf} (hx : l[i]? = some x) : (lvC l o).set (i * 4 + 3) nilS = lvC l o := lvSet_same (by rw [lvC_pre hx (by decide)]; rfl)
theorem lvC_setl {l : List Leaf} {x : Leaf} {v u : Value} : (lvC l (some (x, v))).set (l.length * 4 + 3) u = lvC l (some (x, u)) := by
 show (l.flatMap leafN ++ _).set _ _ = l.flatMap leafN ++ _
 rw [List.set_append_right _ _ (by rw [leafs_len]; omega), leafs_len, Nat.add_sub_cancel_left]; rfl
theorem lvC_one {l : List Leaf} {o : Option (Leaf × Value)} (ho : ∀ p, o = some p → p.2.oneCell' = true) : ∀ u ∈ lvC l o, u.oneCell' = true := by
 have h0 : ∀ u ∈ l.flatMap leafN, u.oneCell' = true := by
  intro u hu
  obtain ⟨x, -, hu⟩ := List.mem_flatMap.1 hu
  simp only [List.mem_cons, List.not_mem_nil, or_false] at hu
  rcases hu with rfl | rfl | rfl | rfl <;> rfl
 cases o with
 | none => exact h0
 | some p =>
  intro u hu
  rcases List.mem_append.1 (show u ∈ l.flatMap leafN ++ leafC p.1 p.2 from hu) with hu | hu
  ·exact h0 u hu
  simp only [List.mem_cons, List.not_mem_nil, or_false] at hu
  rcases hu with rfl | rfl | rfl | rfl
  ·rfl
  ·rfl
  ·rfl
  exact ho p rfl
theorem lvC_at0 {B : Base} : ∀ (l : List Leaf), RpsAt B (l.map leafR) (l.flatMap leafN)
 | [] => RpsAt.nil
 | x :: l => RpsAt.cons (rpAt_leaf (k := x.k) (s := x.s) (n := x.n)) (lvC_at0 l)
theorem lvC_at1 {B : Base} {pre l : List Leaf} {x : Leaf} {v : Value} (h : RowB B v l.length (l.flatMap leafN)) : RpsAt B (pre.map leafR ++ [.mk x.k x.s x.n (l.map leafR)]) (lvC pre (some (x, v))) :=
 RpsAt.append (RpsAt.single (rpAt_of (l := l.map leafR) (by rw [List.length_map]; exact h) (lvC_at0 l))) (lvC_at0 pre)
theorem row_loads {w : World} {e : TypeId} {size n c b k off : Nat} {xs cs : List Value} (h : w.ownsRow 0 e size (.slice (some ⟨b, 0, none⟩) n c) n xs) (ho : off = k) (hcs : ∀ j, j < cs.length → cs[j]? = xs[k + j]?) : ∀ j v, cs[j]? = some v → w.cell? ⟨b, off + j, none⟩ = some v := by
 subst ho
 intro j v hj
 have := row_load h (j := off + j) (v := v) (by rw [← hcs j (List.getElem?_eq_some_iff.1 hj).1, hj])
 rw [Nat.zero_add] at this
 exact this
theorem Inv.rowLess {B : Base} {n m c size b : Nat} {e : TypeId} {xs : List Value} {H : List Res} {w : World} (hv : Inv B (Res.row e size (.slice (some ⟨b, 0, none⟩) n c) n xs :: H) w) (hm : m ≤ n) : Inv B (Res.row e size (.slice (some ⟨b, 0, none⟩) m c) m (xs.take (m * size)) :: H) w := by
 obtain ⟨L, h1, h2, h3, h4, hc⟩ := hv.rowCell
 have h9 := hc.cellRow (n := m) (c := c) (size := size) h1 (by omega) h4
 have hle : m * size ≤ n * size := Nat.mul_le_mul_right _ hm
 rw [← h2, List.take_take, Nat.min_eq_left hle]
 exact h9
def ListIn (B : Base) (m : Nat) (xs : List Value) (r : Rp) : Prop :=
 (∃ ls : List Leaf, m = ls.length ∧ xs = lvC ls none ∧ r = rList (ls.map leafR)) ∨
 (∃ (pre l : List Leaf) (x : Leaf) (la : Option Addr) (lc : Nat), m = pre.length + 1 ∧ xs = lvC pre (some (x, .slice la l.length lc)) ∧ SliceOk la l.length lc ∧ RdV B [] la (lvC l none) ∧ l.length ≤ 1000000 ∧ r = rList (pre.map leafR ++ [.mk x.k x.s x.n (l.map leafR)]))
theorem ListIn.len {B : Base} {m : Nat} {xs : List Value} {r : Rp} (h : ListIn B m xs r) : xs.length = m * 4 := by
 rcases h with ⟨ls, rfl, rfl, -⟩ | ⟨pre, l, x, la, lc, rfl, rfl, -⟩
 ·exact lvC_len0 ls
 exact lvC_len1 pre x _
theorem ListIn.one {B : Base} {m : Nat} {xs : List Value} {r : Rp} (h : ListIn B m xs r) : ∀ u ∈ xs, u.oneCell' = true := by
 rcases h with ⟨ls, rfl, rfl, -⟩ | ⟨pre, l, x, la, lc, rfl, rfl, -⟩
 ·exact lvC_one fun p h => by cases h
 exact lvC_one fun p h => by cases h; rfl
theorem rlist_at {B : Base} {l : List Rp} {v : Value} {xs : List Value} (h1 : RowB B v l.length xs) (h2 : RpsAt B l xs) : RpAt B (rList l) (rpCells 5 [] 0 v) := rpAt_of h1 h2
end Go.Pm
namespace Go.Proofs.YtmhdpjifhfoabaaGreatDoor
open Go.RowKit Go.Pm
theorem cloneRps0 (B : Base) (H : List Res) (w : World) (hv : Inv B H w) :
  Calls Tryz.prog 98 #[vN] w fun e w' => e = .returned (vN) ∧ Inv B H w' := by
 refine cW Tryz.func98 rfl Tryz.ntmps98 ?_
 simp only [al]
 refine sK fun _ k1 => rL (uA rfl ?_)
 refine uW k1 (sK fun _ k2 => ?_)
 refine sK fun _ k3 => rL (uM rfl ?_)
 refine uG (.bool true) rfl (ex_slnil Tryz.underlying26 rfl rfl rfl rfl) (uW k3 ?_)
 refine cT rfl (sK fun _ k4 => ?_)
 refine rL (uA rfl ?_)
 refine uW k4 (rR ?_)
 refine tR (bR rfl rfl ?_)
 exact ⟨rfl, hv⟩
theorem rlmk28 : (Tryz.prog.info? 28).map (fun i => (i.zero, i.size, i.bytes)) = some (some (.agg #[vI 0, vS [], vI 0, vN]), 4, 56) := by kernel_rfl
theorem rlel26 : Elem Tryz.prog 26 28 (.agg #[vI 0, vS [], vI 0, vN]) 4 56 := elem_of Tryz.underlying26 rlmk28 (by rfl) (by decide)
theorem cloneRps1 (B : Base) (H : List Res) (w : World) (a : Addr) (n c : Nat) (xs : List Value) (hok : SliceOk (some a) n c) (hl : xs.length = n * 4) (h1 : ∀ u ∈ xs, u.oneCell' = true) (hn : n ≤ 1000000) (hr : RdV B [] (some a) xs) (hv : Inv B H w) :
  Calls Tryz.prog 98 #[.slice (some a) n c] w fun e w' => ∃ v, e = .returned v ∧ Inv B (Res.row 28 4 v n xs :: H) w' := by
 refine cW Tryz.func98 rfl Tryz.ntmps98 ?_
 simp only [al]
 refine sK fun _ k1 => rL (uA rfl ?_)
 refine uW k1 (sK fun _ k2 => ?_)
 refine sK fun _ k3 => rL (uM rfl ?_)
 refine uG (.bool false) rfl (ex_slnil Tryz.underlying26 rfl rfl rfl rfl) (uW k3 ?_)
 refine cF rfl (kS ?_)
 refine tK k2 (sK fun _ k4 => ?_)
 refine rL (sl_row0 (size := 4) tV (wn rfl) rfl hv (e := 28) (fun w => by kernel_rfl) (fun b5 w6 hv => ?_))
 refine uM rfl ?_
 refine sl_append (news := xs) tV (wn rfl) rfl rfl rfl rlel26 hv hok hl ((hr.more (Base.Le.refl _) (fun _ h => by cases h)).src hv) (h1) (by unfold maxLen; omega) (by omega) (fun rv7 w10 hv => ?_)
 obtain ⟨ra8, rc9, rfl⟩ := row_slice hv.head
 refine uA rfl (uW k4 ?_)
 refine rR (bR rfl rfl ?_)
 rw [Nat.zero_add, List.nil_append] at hv
 exact ⟨_, by rw [Nat.zero_add]; rfl, hv⟩
theorem cloneRps (B : Base) (H : List Res) (w : World) (ad : Option Addr) (n c : Nat) (xs : List Value) (hok : SliceOk ad n c) (hl : xs.length = n * 4) (h1 : ∀ u ∈ xs, u.oneCell' = true) (hn : n ≤ 1000000) (hr : RdV B [] ad xs) (hv : Inv B H w) :
  Calls Tryz.prog 98 #[.slice ad n c] w fun e w' => ∃ va vc, e = .returned (.slice va n vc) ∧ Inv B (Res.row 28 4 (.slice va n vc) n xs :: H) w' := by
 cases ad with
 | none =>
  have hc0 : c = 0 := hok.nil rfl
  have hn0 : n = 0 := by have := hok.le; omega
  subst hc0 hn0
  have hx : xs = [] := List.eq_nil_of_length_eq_zero (by simpa using hl)
  subst hx
  refine (cloneRps0 B H w hv).mono ?_
  rintro e w' ⟨rfl, hv⟩
  exact ⟨_, _, rfl, hv.rowNil _ _⟩
 | some a =>
  refine (cloneRps1 B H w a n c xs hok hl h1 hn hr hv).mono ?_
  rintro e w' ⟨v, rfl, hv⟩
  obtain ⟨va, vc, rfl⟩ := row_slice hv.head
  exact ⟨_, _, rfl, hv⟩
theorem respOne0 (B : Base) (H : List Res) (w : World) (la : Option Addr) (n lc : Nat) (h0 : 0 < n) (hv : Inv B H w) :
  Calls Tryz.prog 109 #[.slice la n lc, vN] w fun e w' => e = .returned (.bool false) ∧ Inv B H w' := by
 refine cW Tryz.func109 rfl Tryz.ntmps109 ?_
 simp only [al]
 refine sK fun _ k1 => rL (uA rfl ?_)
 refine uW k1 (sK fun _ k2 => ?_)
 refine rW mixed [] [0,1,2,3,4,5,6,7,8,9,10,11,12,13,14,15,16,17] 22 rfl (by kernel_rfl) hv ?_
 simp only [qm, opAt]
 refine dM (.slice la n lc) rfl (dG (vI n) rfl (ex_len0 Tryz.underlying26 rfl rfl) ?_)
 refine dG (.bool true) rfl (ex_gtr rfl rfl rfl (qT (by omega))) ?_
 simp only [zP, po]
 refine dM (.bool true) rfl (dM (.slice la n lc) rfl ?_)
 refine dG (vI n) rfl (ex_len0 Tryz.underlying26 rfl rfl) ?_
 simp only [zP, po]
 refine dM (vN) rfl (dG (vI 0) rfl (ex_len0 Tryz.underlying26 rfl rfl) ?_)
 refine dG (.bool false) rfl (ex_eql rfl rfl rfl (qF (by omega))) ?_
 simp only [zP, po]
 refine dK true (.bool false) rfl (dM (.bool false) rfl ?_)
 iterate 5 refine dN rfl ?_
 refine dK false (.bool false) rfl ?_
 simp only [zP, po]
 refine dA (.bool false) rfl (dE fun w3 hv => ?_)
 simp only [zP, po]
 refine tK k2 (rR ?_)
 refine bR rfl rfl (⟨rfl, hv⟩)
theorem rlal178 : AL Tryz.prog 178 [vI 0, vI 0, vN, vN] := fun w => by kernel_rfl
theorem rlwd178 : Wide Tryz.prog 178 4 := wide_of (fun w => by kernel_rfl) (by kernel_rfl)
theorem rlsz178 : (Tryz.prog.info? 178).map (·.size) = some 4 := by kernel_rfl
theorem trailLeaf (B : Base) (H : List Res) (w : World) (n1 n2 : Int) (va vb : Value) (_ : va.cells = #[va]) (h1b : va.oneCell' = true) (_ : vb.cells = #[vb]) (h2b : vb.oneCell' = true) (aa : Option Addr) (ac : Nat) (hv : Inv B H w) :
  Calls Tryz.prog 99 #[.agg #[vI n1, vI n2, va, vb], .slice aa 0 ac, .slice aa 0 ac] w fun e w' => e = .returned (.tuple #[.agg #[vI n1, vI n2, va, vb], .bool false]) ∧ Inv B H w' := by
 refine cW Tryz.func99 rfl Tryz.ntmps99 ?_
 simp only [al]
 refine sK fun _ k1 => rL (sl_box (L := [vI n1, vI n2, va, vb]) tV (wn rfl) rfl rfl hv (fun w => by kernel_rfl) (fun b2 w3 hv => ?_))
 refine sl_alloc tV (wn rfl) rfl hv rlal178 (fun b4 w5 hv => ?_)
 refine uA rfl (uW k1 ?_)
 refine sK fun _ k6 => sK fun _ k7 => rL (uM rfl ?_)
 refine uG (vI 0) rfl (ex_len0 Tryz.underlying26 rfl rfl) ?_
 refine uG (.bool true) rfl (ex_eql rfl rfl rfl (by decide)) (uM rfl ?_)
 iterate 10 refine uP rfl ?_
 refine uK rfl (uW k7 ?_)
 refine cT rfl (sK fun _ k8 => ?_)
 refine rL (uL (.agg #[vI n1, vI n2, va, vb]) rfl (lM 1 rlwd178 hv rfl rfl rfl rfl) ?_)
 refine xS 0 rfl hv rlsz178 rfl (by exact ⟨rfl, rfl, h1b, h2b, trivial⟩) (fun w9 hv => ?_)
 simp only [zO, sp] at hv
 refine uA rfl (uW k8 ?_)
 refine rR (tR ?_)
 refine bodyPost_ret (res_cell2 rfl rfl (lM 0 rlwd178 hv rfl rfl rfl rfl)) rfl (⟨rfl, (hv.kp [] 0 2)⟩)
theorem rlfa178_2 : FA Tryz.prog 178 2 2 := fun w b o => by kernel_rfl
theorem rlcallable109 : Callable Tryz.prog 109 := cb Tryz.func109 (by kernel_rfl)
theorem rlfa178_0 : FA Tryz.prog 178 0 0 := fun w b o => by kernel_rfl
theorem rlna3 (w : World) : (isAgg 3).run Tryz.prog w = .ok false w := by kernel_rfl
theorem rlsz3 : (Tryz.prog.info? 3).map (·.size) = some 1 := by kernel_rfl
theorem rlfa178_1 : FA Tryz.prog 178 1 1 := fun w b o => by kernel_rfl
theorem rlfa178_3 : FA Tryz.prog 178 3 3 := fun w b o => by kernel_rfl
theorem trailNew (B : Base) (H : List Res) (w : World) (la : Option Addr) (n lc : Nat) (h0 : 0 < n) (hv : Inv B H w) :
  Calls Tryz.prog 99 #[.agg #[vI 0, vI 0, vN, vN], .slice la n lc, .slice la n lc] w fun e w' => e = .returned (.tuple #[.agg #[vI 1, vI 2, .slice la n lc, .slice la n lc], .bool true]) ∧ Inv B H w' := by
 refine cW Tryz.func99 rfl Tryz.ntmps99 ?_
 simp only [al]
 refine sK fun _ k1 => rL (sl_box (L := [vI 0, vI 0, vN, vN]) tV (wn rfl) rfl rfl hv (fun w => by kernel_rfl) (fun b2 w3 hv => ?_))
 refine sl_alloc tV (wn rfl) rfl hv rlal178 (fun b4 w5 hv => ?_)
 refine uA rfl (uW k1 ?_)
 refine sK fun _ k6 => sK fun _ k7 => rL (uM rfl ?_)
 refine uG (vI n) rfl (ex_len0 Tryz.underlying26 rfl rfl) ?_
 refine uG (.bool false) rfl (ex_eql rfl rfl rfl (qF (by omega))) (uM rfl ?_)
 refine uM rfl ?_
 refine uF (.pointer (some ⟨b2, 2, none⟩)) rfl (rlfa178_2 _ _ _) ?_
 refine uL _ rfl (run_load1 rtna26 (hv.load 1 2 rfl rfl)) ?_
 refine xC rlcallable109 rfl ((respOne0 B _ _ la n lc h0 hv).mono ?_) rfl
 rintro e w8 ⟨rfl, hv⟩
 refine ⟨_, rfl, ?_⟩
 refine uM rfl ?_
 iterate 4 refine uP rfl ?_
 refine uK rfl (uK rfl ?_)
 refine uW k7 (cF rfl ?_)
 refine kS (tK k6 ?_)
 refine sK fun _ k9 => rL (uF (vP b2) rfl (rlfa178_0 _ _ _) ?_)
 refine uL _ rfl (run_load1 rlna3 (hv.load 1 0 rfl rfl)) ?_
 refine uG (vI 1) rfl (ex_add rfl rfl rfl (i64_in (by omega))) ?_
 refine uF (vP b2) rfl (rlfa178_0 _ _ _) ?_
 refine xV 1 (vI 1) rfl hv rlsz3 rfl rfl (fun w10 hv => ?_)
 simp only [zS, zO, sp] at hv
 refine uW k9 (sK fun _ k11 => ?_)
 refine sK fun _ k12 => rL (uF (vP b2) rfl (rlfa178_0 _ _ _) ?_)
 refine uL _ rfl (run_load1 rlna3 (hv.load 1 0 rfl rfl)) ?_
 refine uF (.pointer (some ⟨b2, 1, none⟩)) rfl (rlfa178_1 _ _ _) ?_
 refine uL _ rfl (run_load1 rlna3 (hv.load 1 1 rfl rfl)) ?_
 refine uG (.bool true) rfl (ex_geq rfl rfl rfl (by decide)) (uW k12 ?_)
 refine cT rfl (rL ?_)
 refine uF (vP b2) rfl (rlfa178_0 _ _ _) ?_
 refine uL _ rfl (run_load1 rlna3 (hv.load 1 0 rfl rfl)) ?_
 refine uG (vI 2) rfl (ex_mul rfl rfl rfl (i64_in (by omega))) (uM rfl ?_)
 refine uM rfl ?_
 refine uF (.pointer (some ⟨b2, 1, none⟩)) rfl (rlfa178_1 _ _ _) ?_
 refine xV 1 (vI 2) rfl hv rlsz3 rfl rfl (fun w13 hv => ?_)
 simp only [zS, zO, sp] at hv
 refine uF (.pointer (some ⟨b2, 2, none⟩)) rfl (rlfa178_2 _ _ _) ?_
 refine xV 1 (.slice la n lc) rfl hv rtsz26 rfl rfl (fun w14 hv => ?_)
 simp only [zS, zO, sp] at hv
 refine uF (.pointer (some ⟨b2, 3, none⟩)) rfl (rlfa178_3 _ _ _) ?_
 refine xV 1 (.slice la n lc) rfl hv rtsz26 rfl rfl (fun w15 hv => ?_)
 simp only [zS, zO, sp] at hv
 refine uW k11 (sK fun _ k16 => ?_)
 refine rL (uL (.agg #[vI 1, vI 2, .slice la n lc, .slice la n lc]) rfl (lM 1 rlwd178 hv rfl rfl rfl rfl) ?_)
 refine xS 0 rfl hv rlsz178 rfl (by exact ⟨rfl, rfl, rfl, rfl, trivial⟩) (fun w17 hv => ?_)
 simp only [zO, sp] at hv
 refine uA rfl (uW k16 ?_)
 refine rR (bodyPost_ret (res_cell2 rfl rfl (lM 0 rlwd178 hv rfl rfl rfl rfl)) rfl ?_)
 exact ⟨rfl, (hv.kp [] 0 2)⟩
open Classical in
noncomputable def lvMu (x : Value) (w : World) : Nat := match x with
 | .slice (some ⟨b, _, _⟩) (_ + 1) _ => if w.cell? ⟨b, 1, none⟩ = some (vI 0) then 2 else 1
 | _ => 0
open Classical in
theorem lvMu2 {b c : Nat} {w : World} (h : w.cell? ⟨b, 0 + 1, none⟩ = some (vI 0)) : lvMu (.slice (some ⟨b, 0, none⟩) 1 c) w = 2 := if_pos h
open Classical in
theorem lvMu1 {b c : Nat} {w : World} : 1 ≤ lvMu (.slice (some ⟨b, 0, none⟩) 1 c) w := by
 show 1 ≤ if _ then 2 else 1
 split <;> omega
open Classical in
theorem lvMu3 {b c : Nat} {w : World} (h : w.cell? ⟨b, 0 + 1, none⟩ = some (vI 1)) : lvMu (.slice (some ⟨b, 0, none⟩) 1 c) w < 2 := by
 show (if _ then 2 else 1) < 2
 rw [if_neg (by rw [Nat.zero_add] at h; rw [h]; simp)]; omega
theorem lvMu0 {a : Option Addr} {c : Nat} {w : World} : lvMu (.slice a 0 c) w = 0 := by cases a <;> rfl
theorem rlal28 : AL Tryz.prog 28 [vI 0, vS [], vI 0, vN] := fun w => by kernel_rfl
theorem rlcallable98 : Callable Tryz.prog 98 := cb Tryz.func98 (by kernel_rfl)
theorem rlmk180 : (Tryz.prog.info? 180).map (fun i => (i.zero, i.size, i.bytes)) = some (some (.agg #[vN, vI 0, vI 0, vN, vN]), 5, 88) := by kernel_rfl
theorem rlel181 : Elem Tryz.prog 181 180 (.agg #[vN, vI 0, vI 0, vN, vN]) 5 88 := elem_of Tryz.underlying181 rlmk180 (by rfl) (by decide)
theorem rles181 (w : World) : (sizeOf (Tryz.prog.elem 181)).run Tryz.prog w = .ok 5 w := by kernel_rfl
theorem rlwd180 : Wide Tryz.prog 180 5 := wide_of (fun w => by kernel_rfl) (by kernel_rfl)
theorem rlal180 : AL Tryz.prog 180 [vN, vI 0, vI 0, vN, vN] := fun w => by kernel_rfl
theorem rlsz180 : (Tryz.prog.info? 180).map (·.size) = some 5 := by kernel_rfl
theorem rlfa180_0 : FA Tryz.prog 180 0 0 := fun w b o => by kernel_rfl
theorem rles26 (w : World) : (sizeOf (Tryz.prog.elem 26)).run Tryz.prog w = .ok 4 w := by kernel_rfl
theorem rlfa180_1 : FA Tryz.prog 180 1 1 := fun w b o => by kernel_rfl
theorem rlcallable99 : Callable Tryz.prog 99 := cb Tryz.func99 (by kernel_rfl)
theorem respList (B : Base) (H : List Res) (w : World) (ra : Option Addr) (m rc : Nat) (xs : List Value) (r : Rp) (hok : SliceOk ra m rc) (hr : RdV B [] ra xs) (hin : ListIn B m xs r) (hm : m ≤ 1000000) (hv : Inv B H w) :
  Calls Tryz.prog 77 #[.slice ra m rc] w fun e w' => ∃ C v, B.Le C ∧ e = .returned (.agg (rpCells 5 [] 0 v).toArray) ∧ RpAt C r (rpCells 5 [] 0 v) ∧ Inv C H w' := by
 refine cW Tryz.func77 rfl Tryz.ntmps77 ?_
 simp only [al]
 refine sK fun _ k1 => rL (sl_alloc tV (wn rfl) rfl hv rlal28 (fun b2 w3 hv => ?_))
 refine uW k1 (sK fun _ k4 => ?_)
 refine rL (uM rfl ?_)
 refine xC rlcallable98 rfl ((cloneRps B _ _ ra m rc xs hok hin.len hin.one hm hr hv).mono ?_) rfl
 rintro e w5 ⟨oa, oc, rfl, hv⟩
 refine ⟨_, rfl, uG (.agg #[vI 5, vS [], vI 0, .slice oa m oc]) rfl (ex_buildN (vs := #[(0, vI 5), (3, .slice oa m oc)]) rfl (by simp only [List.map_toArray, List.map_cons, List.map_nil]; rfl) (by kernel_rfl)) ?_⟩
 refine sl_alloc tV (wn rfl) rfl hv rlal28 (fun b6 w7 hv => ?_)
 simp only [zP, po]
 refine xS 0 rfl hv rssz28 rfl (by exact ⟨rfl, rfl, rfl, rfl, trivial⟩) (fun w8 hv => ?_)
 simp only [zO, sp] at hv
 refine uW k4 (sK fun _ k9 => ?_)
 refine rL (uF (.pointer (some ⟨b6, 3, none⟩)) rfl (rtfa28_3 _ _ _) ?_)
 refine uL _ rfl (run_load1 rtna26 (hv.load 0 3 rfl rfl)) ?_
 refine uG (.agg #[.slice oa m oc, vI 0, vI 0, vN, vN]) rfl (ex_buildN (vs := #[(0, .slice oa m oc)]) rfl (by simp only [List.map_toArray, List.map_cons, List.map_nil]; rfl) (by kernel_rfl)) ?_
 refine sl_rowAgg (L := [.slice oa m oc, vI 0, vI 0, vN, vN]) tV (wn rfl) rfl rfl hv rlel181 rfl (by decide) (fun b10 w11 hv => ?_)
 refine uA rfl (uW k9 ?_)
 refine sK fun _ k12 => bB ?_
 gi_loopw [4] (fun x4 wr => ∃ (v0 : Option Addr) (vc : Nat), ((∃ (C : Base) (ls : List Leaf) (oa : Option Addr) (oc tb tc : Nat) (n1 n2 : Int) (va vb : Value), x4 = .slice (some ⟨tb, 0, none⟩) 1 tc ∧ B.Le C ∧ (ls.length ≤ 1000000 ∧ va.cells = #[va] ∧ va.oneCell' = true ∧ vb.cells = #[vb] ∧ vb.oneCell' = true) ∧ (∀ D, C.Le D → RowB D (.slice oa ls.length oc) ls.length (lvC ls none) → RpAt D r (rpCells 5 [] 0 (.slice v0 m vc))) ∧ Inv C (Res.row 180 5 (.slice (some ⟨tb, 0, none⟩) 1 tc) 1 [.slice oa ls.length oc, vI n1, vI n2, va, vb] :: Res.row 28 4 (.slice oa ls.length oc) ls.length (lvC ls none) :: Res.cell b6 [vI 5, vS [], vI 0, .slice v0 m vc] 28 :: Res.cell b2 [vI 0, vS [], vI 0, vN] 28 :: H) wr) ∨ (∃ (C : Base) (pre l : List Leaf) (x : Leaf) (la : Option Addr) (lc : Nat) (oa : Option Addr) (oc tb tc : Nat), x4 = .slice (some ⟨tb, 0, none⟩) 1 tc ∧ B.Le C ∧ (pre.length ≤ 1000000 ∧ l.length ≤ 1000000 ∧ SliceOk la l.length lc ∧ RdV C [] la (lvC l none)) ∧ (∀ D, C.Le D → ∀ u, RowB D u l.length (lvC l none) → RowB D (.slice oa (pre.length + 1) oc) (pre.length + 1) (lvC pre (some (x, u))) → RpAt D r (rpCells 5 [] 0 (.slice v0 m vc))) ∧ Inv C (Res.row 180 5 (.slice (some ⟨tb, 0, none⟩) 1 tc) 1 [.slice oa (pre.length + 1) oc, vI 0, vI 0, vN, vN] :: Res.row 28 4 (.slice oa (pre.length + 1) oc) (pre.length + 1) (lvC pre (some (x, .slice la l.length lc))) :: Res.cell b6 [vI 5, vS [], vI 0, .slice v0 m vc] 28 :: Res.cell b2 [vI 0, vS [], vI 0, vN] 28 :: H) wr) ∨ (∃ (C : Base) (ta : Option Addr) (tc : Nat), x4 = .slice ta 0 tc ∧ B.Le C ∧ RpAt C r (rpCells 5 [] 0 (.slice v0 m vc)) ∧ Inv C (Res.cell b6 [vI 5, vS [], vI 0, .slice v0 m vc] 28 :: Res.cell b2 [vI 0, vS [], vI 0, vN] 28 :: H) wr))) (fun x4 wr => lvMu x4 wr)
 case atStart => exact (by
   have hv := (((((hv.front 3 rfl).front 2 rfl).front 3 rfl).front 3 rfl)).cellRow (n := 1) (c := 1) (size := 5) rfl (by decide) (by decide)
   rcases hin with ⟨ls, rfl, rfl, rfl⟩ | ⟨pre, l, x, la, lc, rfl, rfl, hla, hrl, hml, rfl⟩
   ·refine ⟨oa, oc, .inl ⟨B, ls, oa, oc, _, _, 0, 0, _, _, rfl, Base.Le.refl _, ⟨hm, rfl, rfl, rfl, rfl⟩, fun D hD h => rlist_at (by rw [List.length_map]; exact h) (lvC_at0 ls), hv⟩⟩
   refine ⟨oa, oc, .inr (.inl ⟨B, pre, l, x, la, lc, oa, oc, _, _, rfl, Base.Le.refl _, ⟨by omega, hml, hla, hrl⟩, fun D hD u hu h => rlist_at (by rw [List.length_append, List.length_map]; exact h) (lvC_at1 hu), hv⟩)⟩)
 case round =>
  rcases hrel with ⟨v0, vc, ⟨C, ls, oa, oc, tb, tc, n1, n2, va, vb, rfl, hC, ⟨hls, h1a, h1b, h2a, h2b⟩, hfin, hv⟩ | ⟨C, pre, l, x, la, lc, oa, oc, tb, tc, rfl, hC, ⟨hpm, hlm, hla, hrl⟩, hfin, hv⟩ | ⟨C, ta, tc, rfl, hC, hat, hv⟩⟩
  ·have hmu := @lvMu1 tb tc wr
   refine sK fun _ k14 => sK fun _ k15 => rL (uG (.slice (some ⟨tb, 0, none⟩) 1 tc) rfl (ex_move rfl rfl) ?_)
   refine uG (vI 1) rfl (ex_len0 Tryz.underlying181 rfl rfl) ?_
   refine uG (.bool true) rfl (ex_gtr rfl rfl rfl (by decide)) (uW k15 ?_)
   refine cT rfl (kS ?_)
   refine tK k14 (bB ?_)
   refine sK fun _ k16 => rL (uG (.slice (some ⟨tb, 0, none⟩) 1 tc) rfl (ex_move rfl rfl) ?_)
   refine uG (.slice (some ⟨tb, 0, none⟩) 1 tc) rfl (ex_move rfl rfl) ?_
   refine uG (vI 1) rfl (ex_len0 Tryz.underlying181 rfl rfl) ?_
   refine uG (vI 0) rfl (ex_sub rfl rfl rfl (i64_in (by omega))) ?_
   refine uG (.pointer (some ⟨tb, 0 + 0 * 5, none⟩)) rfl (ex_index rfl rfl rfl (run_idx (k := 0) Tryz.underlying181 rles181 (by omega))) ?_
   refine uL (.agg #[.slice oa ls.length oc, vI n1, vI n2, va, vb]) rfl (run_loadR (cs := [.slice oa ls.length oc, vI n1, vI n2, va, vb]) rlwd180 (row_loads (hv.get 0 rfl) (k := 0) (by omega) (fun j hj => (by rw [Nat.zero_add])))) ?_
   refine sl_alloc tV (wn rfl) rfl hv rlal180 (fun b17 w18 hv => ?_)
   simp only [zP, po]
   refine xS 0 rfl hv rlsz180 rfl (by exact ⟨rfl, rfl, rfl, h1b, h2b, trivial⟩) (fun w19 hv => ?_)
   simp only [zO, sp] at hv
   refine uW k16 (sK fun _ k20 => ?_)
   refine rL (uG (.slice (some ⟨tb, 0, none⟩) 1 tc) rfl (ex_move rfl rfl) ?_)
   refine uG (.slice (some ⟨tb, 0, none⟩) 1 tc) rfl (ex_move rfl rfl) ?_
   refine uG (vI 1) rfl (ex_len0 Tryz.underlying181 rfl rfl) ?_
   refine uG (vI 0) rfl (ex_sub rfl rfl rfl (i64_in (by omega))) ?_
   refine uG (.slice (some ⟨tb, 0, none⟩) 0 tc) rfl (ex_slice (hi' := some (vI 0)) rfl rfl rfl (congrArg some rfl) rfl (run_hi Tryz.underlying181 rles181 (Nat.zero_le _))) (uA rfl ?_)
   refine uW k20 (sK fun _ k21 => ?_)
   replace hv := hv.front 1 rfl
   simp only [eS, eZ] at hv
   replace hv := hv.rowLess (m := 0) (Nat.zero_le _)
   rw [Nat.zero_mul, List.take_zero] at hv
   refine rL (uF (vP b17) rfl (rlfa180_0 _ _ _) ?_)
   refine uL _ rfl (run_load1 rtna26 (hv.load 1 0 rfl rfl)) ?_
   refine uG (vI (ls.length : Int)) rfl (ex_len0 Tryz.underlying26 rfl rfl) (uM rfl ?_)
   refine uW k21 (bB ?_)
   gi_loopw [34, 4] (fun x34 x4 wr => ∃ (i : Nat), x34 = vI i ∧ x4 = .slice (some ⟨tb, 0, none⟩) 0 tc ∧ i ≤ ls.length ∧ Inv C (Res.row 180 5 (.slice (some ⟨tb, 0, none⟩) 0 tc) 0 ([] : List Value) :: Res.row 28 4 (.slice oa ls.length oc) ls.length (lvC ls none) :: Res.cell b17 [.slice oa ls.length oc, vI n1, vI n2, va, vb] 180 :: Res.cell b6 [vI 5, vS [], vI 0, .slice v0 m vc] 28 :: Res.cell b2 [vI 0, vS [], vI 0, vN] 28 :: H) wr) (fun x34 x4 _ => ls.length - (intOf x34).toNat)
   case atStart => exact ⟨0, rfl, rfl, Nat.zero_le _, (((((hv.front 4 rfl).front 4 rfl).front 3 rfl).front 4 rfl).front 4 rfl)⟩
   case round =>
    obtain ⟨i, rfl, rfl, hi, hv⟩ := hrel
    refine sK fun _ k23 => rL ?_
    by_cases hb24 : (i : Int) < (ls.length : Int)
    ·refine uG (.bool true) rfl (ex_lss rfl rfl rfl (qT hb24)) (uW k23 ?_)
     refine sK fun _ k25 => cT rfl (kS ?_)
     refine tK k25 (sK fun _ k26 => ?_)
     refine bB (sK fun _ k27 => ?_)
     obtain ⟨q, hq⟩ : ∃ q, ls[i]? = some q := ⟨_, List.getElem?_eq_getElem (by omega)⟩
     have hv8 := hv
     clear hv
     obtain ⟨ob, h9⟩ := row_some (hv8.get 1 rfl) (by omega)
     subst h9
     have hv := hv8
     clear hv8
     refine rL (uM rfl ?_)
     refine uG (.pointer (some ⟨ob, 0 + i * 4, none⟩)) rfl (ex_index rfl rfl rfl (run_idx (k := i) Tryz.underlying26 rles26 (by omega))) ?_
     refine uL (.agg #[vI q.k, vS q.s, vI q.n, vN]) rfl (run_loadR (cs := [vI q.k, vS q.s, vI q.n, vN]) rswd28 (row_loads (hv.get 1 rfl) (k := i * 4) (Nat.zero_add _) (fun j hj => (lvC_pre hq hj).symm))) ?_
     refine sl_alloc tV (wn rfl) rfl hv rlal28 (fun b28 w29 hv => ?_)
     refine uA rfl ?_
     refine xS 0 rfl hv rssz28 rfl (by exact ⟨rfl, rfl, rfl, rfl, trivial⟩) (fun w30 hv => ?_)
     simp only [zO, sp] at hv
     refine uW k27 (sK fun _ k31 => ?_)
     refine rL (uF (vP b17) rfl (rlfa180_0 _ _ _) ?_)
     refine uL _ rfl (run_load1 rtna26 (hv.load 3 0 rfl rfl)) (uM rfl ?_)
     refine uG (.pointer (some ⟨ob, 0 + i * 4, none⟩)) rfl (ex_index rfl rfl rfl (run_idx (k := i) Tryz.underlying26 rles26 (by omega))) ?_
     refine uF (.pointer (some ⟨ob, 0 + i * 4 + 3, none⟩)) rfl (rtfa28_3 _ _ _) ?_
     replace hv := hv.front 2 rfl
     simp only [eS, eZ] at hv
     refine sl_storeRow (v := vN) tV (wn rfl) rfl rfl rfl hv rtsz26 (by rw [lvC_len0]; omega) rfl rfl (fun w32 hv => ?_)
     rw [show 0 + i * 4 + 3 = i * 4 + 3 by omega, lvC_set hq] at hv
     refine uW k31 (sK fun _ k33 => ?_)
     refine rL (uF (.pointer (some ⟨b17, 1, none⟩)) rfl (rlfa180_1 _ _ _) ?_)
     refine uL (.agg #[vI n1, vI n2, va, vb]) rfl (lM 3 rlwd178 hv rfl rfl rfl rfl) ?_
     refine uF (.pointer (some ⟨b28, 3, none⟩)) rfl (rtfa28_3 _ _ _) ?_
     refine uL _ rfl (run_load1 rtna26 (hv.load 1 3 rfl rfl)) ?_
     refine uF (.pointer (some ⟨b28, 3, none⟩)) rfl (rtfa28_3 _ _ _) ?_
     refine uL _ rfl (run_load1 rtna26 (hv.load 1 3 rfl rfl)) ?_
     refine xC rlcallable99 rfl ((trailLeaf C _ _ n1 n2 va vb h1a h1b h2a h2b none 0 hv).mono ?_) rfl
     rintro e w34 ⟨rfl, hv⟩
     refine ⟨_, rfl, uM rfl ?_⟩
     refine uE rfl (uE rfl ?_)
     refine sl_alloc tV (wn rfl) rfl hv rlal178 (fun b35 w36 hv => ?_)
     simp only [zP, po]
     refine xS 0 rfl hv rlsz178 rfl (by exact ⟨rfl, rfl, h1b, h2b, trivial⟩) (fun w37 hv => ?_)
     simp only [zO, sp] at hv
     refine uA rfl (uW k33 ?_)
     refine sK fun _ k38 => rL (uM rfl ?_)
     refine uW k38 (cF rfl ?_)
     refine kS (bN ?_)
     refine tK k26 (rL ?_)
     refine uG (vI ((i + 1 : Nat) : Int)) rfl (ex_add rfl rfl rfl (by rw [i64_in (by omega)]; omega)) (uM rfl ?_)
     refine uZ (then_normal ?_)
     go_roundw
     case rel => exact ⟨i + 1, rfl, rfl, by omega, (hv.kp [6, 6, 6, 4, 6] 5 2)⟩
     case measure => show ls.length - (((i + 1 : Nat) : Int)).toNat < ls.length - ((i : Int)).toNat; omega
    refine uG (.bool false) rfl (ex_lss rfl rfl rfl (qF hb24)) (uW k23 ?_)
    refine sK fun _ k39 => cF rfl (xE ?_)
    refine tX (tX ?_)
    refine bH (bN ?_)
    refine then_normal ?_
    go_roundw
    case rel => (obtain ⟨D, hD, hv, hro, hoko, -⟩ := ((hv.kp [4, 4, 3] 3 2)).rowBy; exact ⟨v0, vc, .inr (.inr ⟨D, _, _, rfl, hC.trans hD, hfin D hD ⟨oa, oc, rfl, hoko, hro⟩, hv⟩)⟩)
    case measure => (rw [lvMu0]; omega)
  ·have hmu : lvMu (.slice (some ⟨tb, 0, none⟩) 1 tc) wr = 2 := lvMu2 (row_load (hv.get 0 rfl) rfl)
   refine sK fun _ k40 => sK fun _ k41 => rL (uG (.slice (some ⟨tb, 0, none⟩) 1 tc) rfl (ex_move rfl rfl) ?_)
   refine uG (vI 1) rfl (ex_len0 Tryz.underlying181 rfl rfl) ?_
   refine uG (.bool true) rfl (ex_gtr rfl rfl rfl (by decide)) (uW k41 ?_)
   refine cT rfl (kS ?_)
   refine tK k40 (bB ?_)
   refine sK fun _ k42 => rL (uG (.slice (some ⟨tb, 0, none⟩) 1 tc) rfl (ex_move rfl rfl) ?_)
   refine uG (.slice (some ⟨tb, 0, none⟩) 1 tc) rfl (ex_move rfl rfl) ?_
   refine uG (vI 1) rfl (ex_len0 Tryz.underlying181 rfl rfl) ?_
   refine uG (vI 0) rfl (ex_sub rfl rfl rfl (i64_in (by omega))) ?_
   refine uG (.pointer (some ⟨tb, 0 + 0 * 5, none⟩)) rfl (ex_index rfl rfl rfl (run_idx (k := 0) Tryz.underlying181 rles181 (by omega))) ?_
   refine uL (.agg #[.slice oa (pre.length + 1) oc, vI 0, vI 0, vN, vN]) rfl (run_loadR (cs := [.slice oa (pre.length + 1) oc, vI 0, vI 0, vN, vN]) rlwd180 (row_loads (hv.get 0 rfl) (k := 0) (by omega) (fun j hj => (by rw [Nat.zero_add])))) ?_
   refine sl_alloc tV (wn rfl) rfl hv rlal180 (fun b43 w44 hv => ?_)
   simp only [zP, po]
   refine xS 0 rfl hv rlsz180 rfl (by exact ⟨rfl, rfl, rfl, rfl, rfl, trivial⟩) (fun w45 hv => ?_)
   simp only [zO, sp] at hv
   refine uW k42 (sK fun _ k46 => ?_)
   refine rL (uG (.slice (some ⟨tb, 0, none⟩) 1 tc) rfl (ex_move rfl rfl) ?_)
   refine uG (.slice (some ⟨tb, 0, none⟩) 1 tc) rfl (ex_move rfl rfl) ?_
   refine uG (vI 1) rfl (ex_len0 Tryz.underlying181 rfl rfl) ?_
   refine uG (vI 0) rfl (ex_sub rfl rfl rfl (i64_in (by omega))) ?_
   refine uG (.slice (some ⟨tb, 0, none⟩) 0 tc) rfl (ex_slice (hi' := some (vI 0)) rfl rfl rfl (congrArg some rfl) rfl (run_hi Tryz.underlying181 rles181 (Nat.zero_le _))) (uA rfl ?_)
   refine uW k46 (sK fun _ k47 => ?_)
   replace hv := hv.front 1 rfl
   simp only [eS, eZ] at hv
   replace hv := hv.rowLess (m := 0) (Nat.zero_le _)
   rw [Nat.zero_mul, List.take_zero] at hv
   refine rL (uF (vP b43) rfl (rlfa180_0 _ _ _) ?_)
   refine uL _ rfl (run_load1 rtna26 (hv.load 1 0 rfl rfl)) ?_
   refine uG (vI ((pre.length + 1) : Int)) rfl (ex_len0 Tryz.underlying26 rfl rfl) (uM rfl ?_)
   refine uW k47 (bB ?_)
   gi_loopw [34, 4] (fun x34 x4 wr => (∃ (i : Nat), x34 = vI i ∧ x4 = .slice (some ⟨tb, 0, none⟩) 0 tc ∧ i ≤ pre.length ∧ Inv C (Res.row 180 5 (.slice (some ⟨tb, 0, none⟩) 0 tc) 0 ([] : List Value) :: Res.row 28 4 (.slice oa (pre.length + 1) oc) (pre.length + 1) (lvC pre (some (x, .slice la l.length lc))) :: Res.cell b43 [.slice oa (pre.length + 1) oc, vI 0, vI 0, vN, vN] 180 :: Res.cell b6 [vI 5, vS [], vI 0, .slice v0 m vc] 28 :: Res.cell b2 [vI 0, vS [], vI 0, vN] 28 :: H) wr) ∨ (x34 = vI ((pre.length + 1 : Nat) : Int) ∧ x4 = .slice (some ⟨tb, 0, none⟩) 0 tc ∧ l = [] ∧ Inv C (Res.row 180 5 (.slice (some ⟨tb, 0, none⟩) 0 tc) 0 ([] : List Value) :: Res.row 28 4 (.slice oa (pre.length + 1) oc) (pre.length + 1) (lvC pre (some (x, nilS))) :: Res.cell b43 [.slice oa (pre.length + 1) oc, vI 0, vI 0, vN, vN] 180 :: Res.cell b6 [vI 5, vS [], vI 0, .slice v0 m vc] 28 :: Res.cell b2 [vI 0, vS [], vI 0, vN] 28 :: H) wr) ∨ (∃ (ca : Option Addr) (cc tb2 tc2 : Nat), x34 = vI ((pre.length + 1 : Nat) : Int) ∧ x4 = .slice (some ⟨tb2, 0, none⟩) 1 tc2 ∧ 0 < l.length ∧ Inv C (Res.row 180 5 (.slice (some ⟨tb2, 0, none⟩) 1 tc2) 1 [.slice ca l.length cc, vI 1, vI 2, .slice la l.length lc, .slice la l.length lc] :: Res.row 28 4 (.slice ca l.length cc) l.length (lvC l none) :: Res.row 28 4 (.slice oa (pre.length + 1) oc) (pre.length + 1) (lvC pre (some (x, .slice ca l.length cc))) :: Res.cell b43 [.slice oa (pre.length + 1) oc, vI 0, vI 0, vN, vN] 180 :: Res.cell b6 [vI 5, vS [], vI 0, .slice v0 m vc] 28 :: Res.cell b2 [vI 0, vS [], vI 0, vN] 28 :: H) wr)) (fun x34 x4 _ => (pre.length + 1) - (intOf x34).toNat)
   case atStart => exact .inl ⟨0, rfl, rfl, Nat.zero_le _, (((((hv.front 4 rfl).front 4 rfl).front 3 rfl).front 4 rfl).front 4 rfl)⟩
   case round =>
    rcases hrel with ⟨i, rfl, rfl, hi, hv⟩ | ⟨rfl, rfl, hl0, hv⟩ | ⟨ca, cc, tb2, tc2, rfl, rfl, h0, hv⟩
    ·refine sK fun _ k49 => rL (uG (.bool true) rfl (ex_lss rfl rfl rfl (qT (by omega))) ?_)
     refine uW k49 (sK fun _ k50 => ?_)
     refine cT rfl (kS ?_)
     refine tK k50 (sK fun _ k51 => ?_)
     refine bB (sK fun _ k52 => ?_)
     rcases (show i < pre.length ∨ i = pre.length by omega) with hip | rfl
     ·obtain ⟨q, hq⟩ : ∃ q, pre[i]? = some q := ⟨_, List.getElem?_eq_getElem (by omega)⟩
      have hv8 := hv
      clear hv
      obtain ⟨ob, h9⟩ := row_some (hv8.get 1 rfl) (by omega)
      subst h9
      have hv := hv8
      clear hv8
      refine rL (uM rfl ?_)
      refine uG (.pointer (some ⟨ob, 0 + i * 4, none⟩)) rfl (ex_index rfl rfl rfl (run_idx (k := i) Tryz.underlying26 rles26 (by omega))) ?_
      refine uL (.agg #[vI q.k, vS q.s, vI q.n, vN]) rfl (run_loadR (cs := [vI q.k, vS q.s, vI q.n, vN]) rswd28 (row_loads (hv.get 1 rfl) (k := i * 4) (Nat.zero_add _) (fun j hj => (lvC_pre hq hj).symm))) ?_
      refine sl_alloc tV (wn rfl) rfl hv rlal28 (fun b53 w54 hv => ?_)
      refine uA rfl ?_
      refine xS 0 rfl hv rssz28 rfl (by exact ⟨rfl, rfl, rfl, rfl, trivial⟩) (fun w55 hv => ?_)
      simp only [zO, sp] at hv
      refine uW k52 (sK fun _ k56 => ?_)
      refine rL (uF (vP b43) rfl (rlfa180_0 _ _ _) ?_)
      refine uL _ rfl (run_load1 rtna26 (hv.load 3 0 rfl rfl)) (uM rfl ?_)
      refine uG (.pointer (some ⟨ob, 0 + i * 4, none⟩)) rfl (ex_index rfl rfl rfl (run_idx (k := i) Tryz.underlying26 rles26 (by omega))) ?_
      refine uF (.pointer (some ⟨ob, 0 + i * 4 + 3, none⟩)) rfl (rtfa28_3 _ _ _) ?_
      replace hv := hv.front 2 rfl
      simp only [eS, eZ] at hv
      refine sl_storeRow (v := vN) tV (wn rfl) rfl rfl rfl hv rtsz26 (by rw [lvC_len1]; omega) rfl rfl (fun w57 hv => ?_)
      rw [show 0 + i * 4 + 3 = i * 4 + 3 by omega, lvC_set hq] at hv
      refine uW k56 (sK fun _ k58 => ?_)
      refine rL (uF (.pointer (some ⟨b43, 1, none⟩)) rfl (rlfa180_1 _ _ _) ?_)
      refine uL (.agg #[vI 0, vI 0, vN, vN]) rfl (lM 3 rlwd178 hv rfl rfl rfl rfl) ?_
      refine uF (.pointer (some ⟨b53, 3, none⟩)) rfl (rtfa28_3 _ _ _) ?_
      refine uL _ rfl (run_load1 rtna26 (hv.load 1 3 rfl rfl)) ?_
      refine uF (.pointer (some ⟨b53, 3, none⟩)) rfl (rtfa28_3 _ _ _) ?_
      refine uL _ rfl (run_load1 rtna26 (hv.load 1 3 rfl rfl)) ?_
      refine xC rlcallable99 rfl ((trailLeaf C _ _ 0 0 (vN) (vN) rfl rfl rfl rfl none 0 hv).mono ?_) rfl
      rintro e w59 ⟨rfl, hv⟩
      refine ⟨_, rfl, uM rfl ?_⟩
      refine uE rfl (uE rfl ?_)
      refine sl_alloc tV (wn rfl) rfl hv rlal178 (fun b60 w61 hv => ?_)
      simp only [zP, po]
      refine xS 0 rfl hv rlsz178 rfl (by exact ⟨rfl, rfl, rfl, rfl, trivial⟩) (fun w62 hv => ?_)
      simp only [zO, sp] at hv
      refine uA rfl (uW k58 ?_)
      refine sK fun _ k63 => rL (uM rfl ?_)
      refine uW k63 (cF rfl ?_)
      refine kS (bN ?_)
      refine tK k51 (rL ?_)
      refine uG (vI ((i + 1 : Nat) : Int)) rfl (ex_add rfl rfl rfl (by rw [i64_in (by omega)]; omega)) (uM rfl ?_)
      refine uZ (then_normal ?_)
      go_roundw
      case rel => exact .inl ⟨i + 1, rfl, rfl, by omega, (hv.kp [6, 6, 6, 4, 6] 5 2)⟩
      case measure => show (pre.length + 1) - (((i + 1 : Nat) : Int)).toNat < (pre.length + 1) - ((i : Int)).toNat; omega
     rcases Nat.eq_zero_or_pos l.length with h0 | h0
     ·obtain rfl : l = [] := List.eq_nil_of_length_eq_zero h0
      have hv8 := hv
      clear hv
      obtain ⟨ob, h9⟩ := row_some (hv8.get 1 rfl) (by omega)
      subst h9
      have hv := hv8
      clear hv8
      refine rL (uM rfl ?_)
      refine uG (.pointer (some ⟨ob, 0 + pre.length * 4, none⟩)) rfl (ex_index rfl rfl rfl (run_idx (k := pre.length) Tryz.underlying26 rles26 (by omega))) ?_
      refine uL (.agg #[vI x.k, vS x.s, vI x.n, .slice la 0 lc]) rfl (run_loadR (cs := [vI x.k, vS x.s, vI x.n, .slice la 0 lc]) rswd28 (row_loads (hv.get 1 rfl) (k := pre.length * 4) (Nat.zero_add _) (fun j hj => lvC_last.symm))) ?_
      refine sl_alloc tV (wn rfl) rfl hv rlal28 (fun b64 w65 hv => ?_)
      refine uA rfl ?_
      refine xS 0 rfl hv rssz28 rfl (by exact ⟨rfl, rfl, rfl, rfl, trivial⟩) (fun w66 hv => ?_)
      simp only [zO, sp] at hv
      refine uW k52 (sK fun _ k67 => ?_)
      refine rL (uF (vP b43) rfl (rlfa180_0 _ _ _) ?_)
      refine uL _ rfl (run_load1 rtna26 (hv.load 3 0 rfl rfl)) (uM rfl ?_)
      refine uG (.pointer (some ⟨ob, 0 + pre.length * 4, none⟩)) rfl (ex_index rfl rfl rfl (run_idx (k := pre.length) Tryz.underlying26 rles26 (by omega))) ?_
      refine uF (.pointer (some ⟨ob, 0 + pre.length * 4 + 3, none⟩)) rfl (rtfa28_3 _ _ _) ?_
      replace hv := hv.front 2 rfl
      simp only [eS, eZ] at hv
      refine sl_storeRow (v := vN) tV (wn rfl) rfl rfl rfl hv rtsz26 (by rw [lvC_len1]; omega) rfl rfl (fun w68 hv => ?_)
      rw [show 0 + pre.length * 4 + 3 = pre.length * 4 + 3 by omega, lvC_setl] at hv
      refine uW k67 (sK fun _ k69 => ?_)
      refine rL (uF (.pointer (some ⟨b43, 1, none⟩)) rfl (rlfa180_1 _ _ _) ?_)
      refine uL (.agg #[vI 0, vI 0, vN, vN]) rfl (lM 3 rlwd178 hv rfl rfl rfl rfl) ?_
      refine uF (.pointer (some ⟨b64, 3, none⟩)) rfl (rtfa28_3 _ _ _) ?_
      refine uL _ rfl (run_load1 rtna26 (hv.load 1 3 rfl rfl)) ?_
      refine uF (.pointer (some ⟨b64, 3, none⟩)) rfl (rtfa28_3 _ _ _) ?_
      refine uL _ rfl (run_load1 rtna26 (hv.load 1 3 rfl rfl)) ?_
      refine xC rlcallable99 rfl ((trailLeaf C _ _ 0 0 (vN) (vN) rfl rfl rfl rfl la lc hv).mono ?_) rfl
      rintro e w70 ⟨rfl, hv⟩
      refine ⟨_, rfl, uM rfl ?_⟩
      refine uE rfl (uE rfl ?_)
      refine sl_alloc tV (wn rfl) rfl hv rlal178 (fun b71 w72 hv => ?_)
      simp only [zP, po]
      refine xS 0 rfl hv rlsz178 rfl (by exact ⟨rfl, rfl, rfl, rfl, trivial⟩) (fun w73 hv => ?_)
      simp only [zO, sp] at hv
      refine uA rfl (uW k69 ?_)
      refine sK fun _ k74 => rL (uM rfl ?_)
      refine uW k74 (cF rfl ?_)
      refine kS (bN ?_)
      refine tK k51 (rL ?_)
      refine uG (vI ((pre.length + 1 : Nat) : Int)) rfl (ex_add rfl rfl rfl (by rw [i64_in (by omega)]; omega)) (uM rfl ?_)
      refine uZ (then_normal ?_)
      go_roundw
      case rel => exact .inr (.inl ⟨rfl, rfl, (by first | rfl | trivial), (hv.kp [6, 6, 6, 4, 6] 5 2)⟩)
      case measure => show (pre.length + 1) - (((pre.length + 1 : Nat) : Int)).toNat < (pre.length + 1) - ((pre.length : Int)).toNat; omega
     have hv8 := hv
     clear hv
     obtain ⟨ob, h9⟩ := row_some (hv8.get 1 rfl) (by omega)
     subst h9
     have hv := hv8
     clear hv8
     refine rL (uM rfl ?_)
     refine uG (.pointer (some ⟨ob, 0 + pre.length * 4, none⟩)) rfl (ex_index rfl rfl rfl (run_idx (k := pre.length) Tryz.underlying26 rles26 (by omega))) ?_
     refine uL (.agg #[vI x.k, vS x.s, vI x.n, .slice la l.length lc]) rfl (run_loadR (cs := [vI x.k, vS x.s, vI x.n, .slice la l.length lc]) rswd28 (row_loads (hv.get 1 rfl) (k := pre.length * 4) (Nat.zero_add _) (fun j hj => lvC_last.symm))) ?_
     refine sl_alloc tV (wn rfl) rfl hv rlal28 (fun b75 w76 hv => ?_)
     refine uA rfl ?_
     refine xS 0 rfl hv rssz28 rfl (by exact ⟨rfl, rfl, rfl, rfl, trivial⟩) (fun w77 hv => ?_)
     simp only [zO, sp] at hv
     refine uW k52 (sK fun _ k78 => ?_)
     refine rL (uF (vP b43) rfl (rlfa180_0 _ _ _) ?_)
     refine uL _ rfl (run_load1 rtna26 (hv.load 3 0 rfl rfl)) (uM rfl ?_)
     refine uG (.pointer (some ⟨ob, 0 + pre.length * 4, none⟩)) rfl (ex_index rfl rfl rfl (run_idx (k := pre.length) Tryz.underlying26 rles26 (by omega))) ?_
     refine uF (.pointer (some ⟨ob, 0 + pre.length * 4 + 3, none⟩)) rfl (rtfa28_3 _ _ _) ?_
     replace hv := hv.front 2 rfl
     simp only [eS, eZ] at hv
     refine sl_storeRow (v := vN) tV (wn rfl) rfl rfl rfl hv rtsz26 (by rw [lvC_len1]; omega) rfl rfl (fun w79 hv => ?_)
     rw [show 0 + pre.length * 4 + 3 = pre.length * 4 + 3 by omega, lvC_setl] at hv
     refine uW k78 (sK fun _ k80 => ?_)
     refine rL (uF (.pointer (some ⟨b43, 1, none⟩)) rfl (rlfa180_1 _ _ _) ?_)
     refine uL (.agg #[vI 0, vI 0, vN, vN]) rfl (lM 3 rlwd178 hv rfl rfl rfl rfl) ?_
     refine uF (.pointer (some ⟨b75, 3, none⟩)) rfl (rtfa28_3 _ _ _) ?_
     refine uL _ rfl (run_load1 rtna26 (hv.load 1 3 rfl rfl)) ?_
     refine uF (.pointer (some ⟨b75, 3, none⟩)) rfl (rtfa28_3 _ _ _) ?_
     refine uL _ rfl (run_load1 rtna26 (hv.load 1 3 rfl rfl)) ?_
     refine xC rlcallable99 rfl ((trailNew C _ _ la l.length lc h0 hv).mono ?_) rfl
     rintro e w81 ⟨rfl, hv⟩
     refine ⟨_, rfl, uM rfl ?_⟩
     refine uE rfl (uE rfl ?_)
     refine sl_alloc tV (wn rfl) rfl hv rlal178 (fun b82 w83 hv => ?_)
     simp only [zP, po]
     refine xS 0 rfl hv rlsz178 rfl (by exact ⟨rfl, rfl, rfl, rfl, trivial⟩) (fun w84 hv => ?_)
     simp only [zO, sp] at hv
     refine uA rfl (uW k80 ?_)
     refine sK fun _ k85 => rL (uM rfl ?_)
     refine uW k85 (cT rfl ?_)
     refine sK fun _ k86 => rW mixed [5, 8] [0,1,2,3,4,5,6,7,8] 76 rfl (by kernel_rfl) hv ?_
     simp only [qm, opAt]
     refine dG (vP b43) rfl (ex_field rfl rfl (rlfa180_0 _ _ _)) (dF _ rfl (fun hv => ex_load rfl rfl (run_load1 rtna26 (hv.load 4 0 rfl rfl))) fun f87 hf87 => ?_)
     refine dM (vI (pre.length : Int)) rfl ?_
     simp only [zP, po]
     refine dG (.pointer (some ⟨b75, 3, none⟩)) rfl (ex_field rfl rfl (rtfa28_3 _ _ _)) (dL _ rfl (fun hv => ex_load rfl rfl (run_load1 rtna26 (hv.load 2 3 rfl rfl))) ?_)
     refine dS rfl fun w88 hv => mC rlcallable98 rfl ((cloneRps C _ _ la l.length lc (lvC l none) hla (lvC_len0 l) (lvC_one fun p h => by cases h) hlm hrl hv).mono ?_) rfl
     rintro e w89 ⟨ca, cc, rfl, hv⟩
     refine ⟨_, rfl, dV hv (fC (fun ww hv => hf87 ww (ex_load rfl rfl (run_load1 rtna26 (hv.load 5 0 rfl rfl)))) fN) ?_⟩
     simp only [zP, po]
     refine dG (.pointer (some ⟨ob, 0 + pre.length * 4, none⟩)) rfl (ex_index rfl rfl rfl (run_idx (k := pre.length) Tryz.underlying26 rles26 (by omega))) (dG (.pointer (some ⟨ob, 0 + pre.length * 4 + 3, none⟩)) rfl (ex_field rfl rfl (rtfa28_3 _ _ _)) ?_)
     refine dS rfl fun w90 hv => ?_
     replace hv := hv.front 2 rfl
     simp only [eS, eZ] at hv
     refine mem_storeRow (v := .slice ca l.length cc) rfl rfl rfl rfl hv rtsz26 (by rw [lvC_len1]; omega) rfl rfl (fun w91 hv => ?_)
     rw [show 0 + pre.length * 4 + 3 = pre.length * 4 + 3 by omega, lvC_setl] at hv
     refine dV hv (fK rfl fN) (dE fun w92 hv => ?_)
     simp only [zP, po]
     refine tK k86 (rW mixed [9, 10] [0,1,2,3,4,5,6,7,8,9,10,11] 76 rfl (by kernel_rfl) hv ?_)
     simp only [qm, opAt]
     refine dM (.slice (some ⟨tb, 0, none⟩) 0 tc) rfl (dG (vP b43) rfl (ex_field rfl rfl (rlfa180_0 _ _ _)) ?_)
     refine dL _ rfl (fun hv => ex_load rfl rfl (run_load1 rtna26 (hv.load 5 0 rfl rfl))) ?_
     simp only [zP, po]
     refine dM (vI (pre.length : Int)) rfl (dG (.pointer (some ⟨ob, 0 + pre.length * 4, none⟩)) rfl (ex_index rfl rfl rfl (run_idx (k := pre.length) Tryz.underlying26 rles26 (by omega))) ?_)
     refine dG (.pointer (some ⟨ob, 0 + pre.length * 4 + 3, none⟩)) rfl (ex_field rfl rfl (rtfa28_3 _ _ _)) ?_
     simp only [zP, po]
     refine dL (.slice ca l.length cc) rfl (fun hv => ex_load rfl rfl (run_load1 rtna26 (by rw [Nat.add_assoc]; exact row_load (hv.get 0 rfl) lvC_last))) (dL (.agg #[vI 1, vI 2, .slice la l.length lc, .slice la l.length lc]) rfl (fun hv => ex_load rfl rfl (lM 2 rlwd178 hv rfl rfl rfl rfl)) ?_)
     refine dG (.agg #[.slice ca l.length cc, vI 1, vI 2, .slice la l.length lc, .slice la l.length lc]) rfl (ex_buildN (vs := #[(0, .slice ca l.length cc), (1, .agg #[vI 1, vI 2, .slice la l.length lc, .slice la l.length lc])]) rfl (by simp only [List.map_toArray, List.map_cons, List.map_nil]; rfl) (by kernel_rfl)) ?_
     simp only [zP, po]
     refine dS rfl fun w93 hv => mem_rowAgg (L := [.slice ca l.length cc, vI 1, vI 2, .slice la l.length lc, .slice la l.length lc]) rfl rfl rfl hv rlel181 rfl (by decide) (fun b94 w95 hv => ?_)
     refine dW hv (dS rfl fun w96 hv => ?_)
     replace hv := hv.front 5 rfl
     simp only [eS, eZ] at hv
     refine mem_append (news := [.slice ca l.length cc, vI 1, vI 2, .slice la l.length lc, .slice la l.length lc]) rfl rfl rfl rfl rlel181 hv (ok_full (by omega)) rfl (rd_all (hv.get 1 rfl)) (by intro u hu; simp only [List.mem_cons, List.not_mem_nil, or_false] at hu; rcases hu with rfl | rfl | rfl | rfl | rfl <;> rfl) (by unfold maxLen; omega) (by omega) (fun rv97 w100 hv => ?_)
     obtain ⟨ra98, rc99, rfl⟩ := row_slice hv.head
     refine dW hv (dA (.slice ra98 (0 + 1) rc99) rfl ?_)
     refine dE fun w101 hv => ?_
     simp only [zP, po]
     refine bN (tK k51 ?_)
     refine rL (uG (vI ((pre.length + 1 : Nat) : Int)) rfl (ex_add rfl rfl rfl (by rw [i64_in (by omega)]; omega)) ?_)
     refine uM rfl (uZ ?_)
     refine then_normal ?_
     go_roundw
     case rel => (obtain ⟨tb9, h9⟩ := row_some (hv.get 0 rfl) (by omega); subst h9; exact .inr (.inr ⟨ca, cc, tb9, _, rfl, rfl, h0, (hv.kp [8, 8, 8, 5, 6, 5] 6 3)⟩))
     case measure => show (pre.length + 1) - (((pre.length + 1 : Nat) : Int)).toNat < (pre.length + 1) - ((pre.length : Int)).toNat; omega
    ·refine sK fun _ k102 => rL (uG (.bool false) rfl (ex_lss rfl rfl rfl (qF (by omega))) ?_)
     refine uW k102 (sK fun _ k103 => ?_)
     refine cF rfl (xE ?_)
     refine tX (tX ?_)
     refine bH (bN ?_)
     refine then_normal ?_
     go_roundw
     case rel => (obtain ⟨D, hD, hv, hro, hoko, -⟩ := ((hv.kp [4, 4, 3] 3 2)).rowBy; exact ⟨v0, vc, .inr (.inr ⟨D, _, _, rfl, hC.trans hD, hfin D hD nilS (by rw [hl0]; exact ⟨none, 0, rfl, ⟨Nat.le_refl _, Nat.zero_le _, fun _ => rfl⟩, rdV_nil⟩) ⟨oa, oc, rfl, hoko, hro⟩, hv⟩)⟩)
     case measure => (rw [lvMu0]; omega)
    refine sK fun _ k104 => rL (uG (.bool false) rfl (ex_lss rfl rfl rfl (qF (by omega))) ?_)
    refine uW k104 (sK fun _ k105 => ?_)
    refine cF rfl (xE ?_)
    refine tX (tX ?_)
    refine bH (bN ?_)
    refine then_normal ?_
    go_roundw
    case rel => (obtain ⟨D, hD, hv, hro, hoko, -⟩ := ((hv.kp [5, 5, 3, 3, 4] 5 1)).rowBy; exact ⟨v0, vc, .inl ⟨D, l, ca, cc, tb2, tc2, 1, 2, _, _, rfl, hC.trans hD, ⟨hlm, rfl, rfl, rfl, rfl⟩, fun E hE h9 => hfin E (hD.trans hE) (.slice ca l.length cc) h9 ⟨oa, oc, rfl, hoko, hro.more hE (fun _ h => h)⟩, hv⟩⟩)
    case measure => (rw [hmu]; exact lvMu3 (row_load (hv.get 0 rfl) rfl))
  refine sK fun _ k106 => sK fun _ k107 => rL (uM rfl ?_)
  refine uG (vI 0) rfl (ex_len0 Tryz.underlying181 rfl rfl) ?_
  refine uG (.bool false) rfl (ex_gtr rfl rfl rfl (by decide)) (uW k107 ?_)
  refine cF rfl (xE ?_)
  refine tX (tX ?_)
  refine bH (tK k12 ?_)
  refine sK fun _ k108 => rL (uL (.agg #[vI 5, vS [], vI 0, .slice v0 m vc]) rfl (lM 0 rswd28 hv rfl rfl rfl rfl) ?_)
  refine xS 1 rfl hv rssz28 rfl (by exact ⟨rfl, rfl, rfl, rfl, trivial⟩) (fun w109 hv => ?_)
  simp only [zS, zO, sp] at hv
  refine uW k108 (rR ?_)
  refine bC 1 rswd28 hv rfl rfl rfl rfl (⟨C, _, hC, rfl, hat, (hv.kp [] 0 2)⟩)
end Go.Proofs.YtmhdpjifhfoabaaGreatDoor
namespace Go.Pm
abbrev W64 := List (BitVec 64)
def w0 : W64 := [0#64, 0#64, 0#64, 0#64]
def hasW (s : W64) (c : Nat) : Bool := decide (((s.getD (c / 64) 0#64) >>> (c % 64)) &&& 1#64 = 1#64)
structure Part where
 star : Bool
 ws : W64
section
variable (p : List UInt8)
section
variable {p} {ended : Bool} {i : Nat}
end
end
def MatchP : List Part → List UInt8 → Prop
 | [], s => s = []
 | p :: ps, s => if p.star = true then ∃ k, k ≤ s.length ∧ MatchP ps (s.drop k) else ∃ c t, s = c :: t ∧ hasW p.ws c.toNat = true ∧ MatchP ps t
section
variable {q : List Part} {s : List UInt8}
structure GInv (q : List Part) (s : List UInt8) (now i st fr : Nat) : Prop where
 n1 : st ≤ now
 n2 : now ≤ q.length
 n3 : i ≤ s.length
 n4 : 0 < st → fr + (now - st) = i
 n5 : 0 < st → ∀ j, j < now - st → ∃ x, q[st + j]? = some x ∧ x.star = false
 n6 : MatchP q s ↔ MatchP (q.drop now) (s.drop i) ∨ (0 < st ∧ ∃ k, fr < k ∧ k ≤ s.length ∧ MatchP (q.drop st) (s.drop k))
section
variable {now i st fr : Nat} {x : Part} {c : UInt8} (h : GInv q s now i st fr)
include h
end
end
end Go.Pm
namespace Go.Proofs.YtmhdpjifhfoabaaGreatDoor
open Go.RowKit Go.Pm
theorem is2 {arg a b : List UInt8} {r : Int} (h : IsI arg [a, b] r) : (r = -1 ∧ ¬ SameC a arg ∧ ¬ SameC b arg) ∨ (r = 0 ∧ SameC a arg) ∨ (r = 1 ∧ ¬ SameC a arg ∧ SameC b arg) := by
 rcases h with ⟨rfl, h⟩ | ⟨i, x, rfl, hx, h1, h2⟩
 ·exact .inl ⟨rfl, h a (by simp), h b (by simp)⟩
 match i, hx with
 | 0, hx => cases hx; exact .inr (.inl ⟨rfl, h1⟩)
 | 1, hx => cases hx; exact .inr (.inr ⟨rfl, h2 0 a (by omega) rfl, h1⟩)
theorem numP_rng {s : List UInt8} {n : Int} (h : NumP s n true) : -9223372036854775808 ≤ n ∧ n ≤ 9223372036854775807 := h.elim (fun h => ⟨h.2.1, h.2.2.1⟩) (fun h => absurd h.1 (by decide))
theorem ints_two {s t : List UInt8} {ns : List Int} {ec : Int} (h : IntsR [s, t] ns ec) : (ec = 0 ∧ ∃ n m, ns = [n, m] ∧ NumP s n true ∧ NumP t m true) ∨ (ec = 41 ∧ ns = [] ∧ (NumP s 0 false ∨ NumP t 0 false)) := by
 rcases h with ⟨h1, h2, h3⟩ | ⟨h1, h2, x, hx, h3⟩
 ·match ns, h2 with
  | [n, m], _ => exact .inl ⟨h1, n, m, rfl, h3 0 s n rfl rfl, h3 1 t m rfl rfl⟩
 rcases List.mem_cons.1 hx with rfl | hx
 ·exact .inr ⟨h1, h2, .inl h3⟩
 rw [List.mem_singleton.1 hx] at h3; exact .inr ⟨h1, h2, .inr h3⟩
theorem valAt_open {C : Base} {v : Val} {p t z : Value} (h : ValAt C v p t z) : ∃ pa pc sa sc za zc, p = .slice pa v.pairs.length pc ∧ t = .slice sa v.texts.length sc ∧ z = .slice za v.zset.length zc ∧ SliceOk pa v.pairs.length pc ∧ RdV C [] pa (pairCells v.pairs) ∧ SliceOk sa v.texts.length sc ∧ RdV C [] sa (textCells v.texts) ∧ SliceOk za v.zset.length zc ∧ RdV C [] za (memCells v.zset) := by
 obtain ⟨⟨a1, c1, h1, h2, h3⟩, ⟨a2, c2, h4, h5, h6⟩, ⟨a3, c3, h7, h8, h9⟩, -⟩ := h
 exact ⟨a1, c1, a2, c2, a3, c3, h1, h4, h7, h2, h3, h5, h6, h8, h9⟩
theorem tx_take (l : List (List UInt8)) (i : Nat) : (textCells l).take i = textCells (l.take i) := by simp [textCells]
theorem tx_drop (l : List (List UInt8)) (i : Nat) : (textCells l).drop i = textCells (l.drop i) := by simp [textCells]
theorem sliced_midV {B : Base} {ad : Option Addr} {n c l h : Nat} {xs : List Value} (size : Nat) (hok : SliceOk ad n c) (hr : RdV B [] ad xs) (hl : xs.length = n * size) (hlh : l ≤ h) (hh : h ≤ n) (hz : 0 < size) : ∃ a2 c2, sliced ad l h c size = .slice a2 (h - l) c2 ∧ SliceOk a2 (h - l) c2 ∧ RdV B [] a2 ((xs.drop (l * size)).take ((h - l) * size)) := by
 obtain ⟨a2, c2, h1, h2, h3⟩ := sliced_fromV size hok hr hl (show l ≤ n by omega) hz
 have e : sliced ad l h c size = .slice a2 (h - l) c2 := by
  unfold sliced at h1 ⊢
  split at h1 <;> rename_i hc <;> simp only [hc, if_true, if_false] at h1 ⊢ <;> (injection h1 with e1 e2 e3; subst e1 e3; rfl)
 refine ⟨a2, c2, e, ⟨by have := h2.le; omega, h2.max, h2.nil⟩, fun i hi => ?_⟩
 rw [List.length_take] at hi
 obtain ⟨b, off, h5, h6⟩ := h3 i (by omega)
 refine ⟨b, off, h5, ?_⟩
 rw [List.getElem_take]
 exact h6
section
variable {P : Program} {t : TypeId} {w : World}
theorem run_lhAny {ad : Option Addr} {n c l h size : Nat} (ht : P.underlying t = some (.slice (P.elem t))) (hs : ∀ w, (sizeOf (P.elem t)).run P w = .ok size w) (h1 : l ≤ h) (h2 : h ≤ c) :
  (Instr.sliceAt t (.slice ad n c) (some (vI l)) (some (vI h)) none).run P w = .ok (sliced ad l h c size) w := by
 rw [run_sliceAt_slice w t _ _ _ _ ht, run_slice_lh w t _ n c ht .i64 .i64 l h (by omega) (by omega) (by omega), hs]
 simp only [Result.andThen, Int.toNat_natCast]
end
theorem keep_zero {M M' : List (List UInt8 × Ver)} {clk exp ec : Int} {key : List UInt8} {x : Val} (hk : key.length ≤ 256) (hp : FullV x → PutOk key x exp) (h : KeepI M clk key x exp ec M') : ec = 0 := by
 rcases h with ⟨-, -, h2, -⟩ | ⟨h1, h2, -⟩ | ⟨-, -, h3, -⟩ | ⟨-, -, ⟨-, h4, -⟩ | ⟨h4, -⟩⟩
 ·exact h2
 ·exact absurd (hp h1) h2
 ·exact h3
 ·exact h4
 omega
def tleaf (s : List UInt8) : Leaf := ⟨3, s, 0⟩
theorem strs_leaf (l : List (List UInt8)) : strsCells l = lvC (l.map tleaf) none := by
 show l.flatMap _ = (l.map tleaf).flatMap leafN
 rw [List.flatMap_map]; rfl
theorem listIn_two {B : Base} {s : List UInt8} {l : List (List UInt8)} {a : Option Addr} {c : Nat} (hok : SliceOk a l.length c) (hr : RdV B [] a (strsCells l)) (hm : l.length ≤ 1000000) :
  ListIn B 2 (rpCells 3 s 0 (vN) ++ rpCells 5 [] 0 (.slice a l.length c)) (rList [rStr s, rStrs l]) := by
 refine .inr ⟨[⟨3, s, 0⟩], l.map tleaf, ⟨5, [], 0⟩, a, c, rfl, ?_, ?_, ?_, ?_, ?_⟩
 ·rw [List.length_map]; rfl
 ·rw [List.length_map]; exact hok
 ·rw [← strs_leaf]; exact hr
 ·rw [List.length_map]; exact hm
 rw [List.map_map]; rfl
open Go.Sort
structure RelVK (M : List (List UInt8 × Ver)) (K : List KeyR) : Prop where
 so : SortedT (K.map (·.name))
 of_ : ∀ x ∈ K, lookA M x.name = some ⟨0, false, x.exp, x.val⟩
 back : ∀ k y, lookA M k = some y → y.gone = false → ∃ x ∈ K, x.name = k
theorem RelVK.nil : RelVK [] [] := ⟨List.Pairwise.nil, fun x h => (by cases h), fun k y h => (by cases h)⟩
theorem sortedT_nodup {l : List (List UInt8)} (h : SortedT l) : l.Nodup := List.Pairwise.imp (fun hab e => lt_ne hab e) h
theorem alive_live (x : KeyR) (clk : Int) : aliveB ⟨0, false, x.exp, x.val⟩ clk = liveK clk x := by
 unfold aliveB liveK
 simp only [Bool.not_false, Bool.true_and, gt_iff_lt]
section
variable {M : List (List UInt8 × Ver)} {K : List KeyR} {clk : Int} {name : List UInt8}
theorem RelVK.nodup (h : RelVK M K) : (K.map (·.name)).Nodup := sortedT_nodup h.so
theorem getK_mem {x : KeyR} (h : getK K clk name = some x) : x ∈ K ∧ x.name = name ∧ liveK clk x = true := by
 unfold getK at h
 have h2 := List.find?_some h
 simp only [Bool.and_eq_true, decide_eq_true_eq] at h2
 exact ⟨List.mem_of_find?_eq_some h, h2.1, h2.2⟩
theorem RelVK.got (h : RelVK M K) {x : KeyR} (hg : getK K clk name = some x) : lookA M name = some ⟨0, false, x.exp, x.val⟩ ∧ aliveB ⟨0, false, x.exp, x.val⟩ clk = true := by
 obtain ⟨h1, rfl, h3⟩ := getK_mem hg
 exact ⟨h.of_ x h1, by rw [alive_live]; exact h3⟩
theorem RelVK.alive (h : RelVK M K) {y : Ver} (hl : lookA M name = some y) (ha : aliveB y clk = true) : ∃ x, getK K clk name = some x ∧ y = ⟨0, false, x.exp, x.val⟩ := by
 have hg : y.gone = false := by unfold aliveB at ha; cases hy : y.gone <;> simp [hy] at ha ⊢
 obtain ⟨x, hx, rfl⟩ := h.back name y hl hg
 have h2 := h.of_ x hx
 rw [hl] at h2
 cases h2
 obtain ⟨i, hi⟩ := List.mem_iff_getElem?.1 hx
 exact ⟨x, getK_at h.nodup hi (by rw [← alive_live]; exact ha), rfl⟩
theorem RelVK.dead (h : RelVK M K) (hg : getK K clk name = none) : DeadM M clk name := by
 intro y hy
 cases ha : aliveB y clk with
 | false => rfl
 | true =>
  obtain ⟨x, h2, -⟩ := h.alive hy ha
  rw [hg] at h2; cases h2
theorem RelVK.free (h : RelVK M K) (hd : DeadM M clk name) : getK K clk name = none := by
 cases hg : getK K clk name with
 | none => rfl
 | some x =>
  obtain ⟨h1, h2⟩ := h.got hg
  rw [hd _ h1] at h2; cases h2
theorem others_sorted (h : SortedT (K.map (·.name))) : SortedT ((others K name).map (·.name)) := by
 unfold SortedT others at *
 exact h.sublist (List.Sublist.map _ (List.filter_sublist))
theorem others_iff {x : KeyR} : x ∈ others K name ↔ x ∈ K ∧ x.name ≠ name := by
 unfold others; rw [List.mem_filter]; simp
theorem RelVK.del (h : RelVK M K) : RelVK (updA M name gver) (others K name) := by
 refine ⟨others_sorted h.so, fun x hx => ?_, fun k y hl hg => ?_⟩
 ·obtain ⟨h1, h2⟩ := others_iff.1 hx
  rw [look_upd, if_neg (fun e => h2 e.symm)]
  exact h.of_ x h1
 rw [look_upd] at hl
 split at hl
 ·cases hl; cases hg
 rename_i hne
 obtain ⟨x, hx, rfl⟩ := h.back k y hl hg
 exact ⟨x, others_iff.2 ⟨hx, fun e => hne e.symm⟩, rfl⟩
theorem RelVK.put (h : RelVK M K) {v : Val} {exp : Int} {K' : List KeyR} (hi : InsK (others K name) ⟨name, v, exp⟩ K') : RelVK (updA M name ⟨0, false, exp, v⟩) K' := by
 obtain ⟨j, hj, rfl, h1, h2⟩ := hi
 have hso := others_sorted (name := name) h.so
 have hmem : ∀ x, x ∈ (others K name).take j ++ (⟨name, v, exp⟩ : KeyR) :: (others K name).drop j ↔ x = ⟨name, v, exp⟩ ∨ x ∈ others K name := by
  intro x
  rw [List.mem_append, List.mem_cons]
  constructor
  ·rintro (hx | rfl | hx)
   ·exact .inr (List.mem_of_mem_take hx)
   ·exact .inl rfl
   exact .inr (List.mem_of_mem_drop hx)
  rintro (rfl | hx)
  ·exact .inr (.inl rfl)
  rw [← List.take_append_drop j (others K name), List.mem_append] at hx
  rcases hx with hx | hx
  ·exact .inl hx
  exact .inr (.inr hx)
 refine ⟨?_, fun x hx => ?_, fun k y hl hg => ?_⟩
 ·unfold SortedT at *
  rw [List.map_append, List.map_cons, List.map_take, List.map_drop]
  rw [List.pairwise_append, List.pairwise_cons]
  have hgt : ∀ k ∈ ((others K name).map (·.name)).drop j, Op.bytesLess name k = true := by
   intro k hk
   rw [← List.map_drop] at hk
   obtain ⟨x, hx, rfl⟩ := List.mem_map.1 hk
   have hne := (others_iff.1 (List.mem_of_mem_drop hx)).2
   have hnl : Op.bytesLess x.name name = false := by
    cases hd : (others K name).drop j with
    | nil => rw [hd] at hx; cases hx
    | cons y l =>
     have hy : (others K name)[j]? = some y := by rw [← List.head?_drop, hd]; rfl
     rw [hd] at hx
     rcases List.mem_cons.1 hx with rfl | hx
     ·exact h2 _ hy
     have hs2 : ((y :: l).map (·.name)).Pairwise (fun a b => Op.bytesLess a b = true) := by rw [← hd, List.map_drop]; exact hso.sublist (List.drop_sublist _ _)
     rw [List.map_cons, List.pairwise_cons] at hs2
     exact ge_trans (h2 _ hy) (hs2.1 _ (List.mem_map.2 ⟨x, hx, rfl⟩))
   cases hlt : Op.bytesLess name x.name with
   | true => rfl
   | false => exact absurd (lt_total _ _ hnl hlt) hne
  refine ⟨hso.sublist (List.take_sublist _ _), ⟨hgt, hso.sublist (List.drop_sublist _ _)⟩, fun a ha b hb => ?_⟩
  rw [← List.map_take] at ha
  obtain ⟨x, hx, rfl⟩ := List.mem_map.1 ha
  have hxn := h1 x hx
  rcases List.mem_cons.1 hb with rfl | hb
  ·exact hxn
  exact lt_trans _ _ _ hxn (hgt b hb)
 ·rw [look_upd]
  rcases (hmem x).1 hx with rfl | hx
  ·rw [if_pos rfl]
  obtain ⟨h3, h4⟩ := others_iff.1 hx
  rw [if_neg (fun e => h4 e.symm)]
  exact h.of_ x h3
 rw [look_upd] at hl
 split at hl
 ·rename_i e
  exact ⟨⟨name, v, exp⟩, (hmem _).2 (.inl rfl), e⟩
 rename_i hne
 obtain ⟨x, hx, rfl⟩ := h.back k y hl hg
 exact ⟨x, (hmem _).2 (.inr (others_iff.2 ⟨hx, fun e => hne e.symm⟩)), rfl⟩
theorem RelVK.names (h : RelVK M K) (hnd : (M.map (·.1)).Nodup) : namesT M clk = namesR K clk := by
 have hle : ∀ a b : List UInt8, leB a b = !Op.bytesLess b a := by
  intro a b
  rw [bytesLess_eq, leB, ← decide_not]
  exact decide_eq_decide.2 List.not_lt.symm
 refine sorted_ext ?_ ?_ fun k => ?_
 ·unfold namesT
  have hp : ((M.map (·.1)).mergeSort leB).Pairwise (fun a b => leB a b = true) := List.pairwise_mergeSort (fun a b c h1 h2 => by simp only [leB, decide_eq_true_eq] at *; exact List.le_trans h1 h2) (fun a b => by simp only [leB, Bool.or_eq_true, decide_eq_true_eq]; exact List.le_total a b) _
  have hn : ((M.map (·.1)).mergeSort leB).Nodup := ((List.mergeSort_perm _ _).nodup_iff).2 hnd
  refine List.Pairwise.filter _ ((hp.and hn).imp fun {a b} hab => ?_)
  obtain ⟨h1, h2⟩ := hab
  rw [hle] at h1
  cases h3 : Op.bytesLess a b with
  | true => rfl
  | false => exact absurd (lt_total _ _ h3 (by simpa using h1)) h2
 ·unfold namesR
  exact h.so.sublist (List.Sublist.map _ List.filter_sublist)
 unfold namesT namesR
 rw [List.mem_filter, List.mem_map]
 have hmk : k ∈ (M.map (·.1)).mergeSort leB ↔ lookA M k ≠ none := by
  simp only [List.mem_mergeSort, ne_eq, look_none, Classical.not_not]
 rw [hmk]
 constructor
 ·rintro ⟨h1, h2⟩
  cases hl : lookA M k with
  | none => exact absurd hl h1
  | some y =>
   unfold deadNow at h2
   rw [hl] at h2
   simp only [Bool.not_not] at h2
   obtain ⟨x, hx, -⟩ := h.alive hl h2
   obtain ⟨h3, h4, h5⟩ := getK_mem hx
   exact ⟨x, List.mem_filter.2 ⟨h3, h5⟩, h4⟩
 rintro ⟨x, hx, rfl⟩
 obtain ⟨h1, h2⟩ := List.mem_filter.1 hx
 have h3 := h.of_ x h1
 refine ⟨by rw [h3]; simp, ?_⟩
 unfold deadNow
 rw [h3]
 simp only [Bool.not_not]
 rw [alive_live]; exact h2
end
end Go.Proofs.YtmhdpjifhfoabaaGreatDoor
