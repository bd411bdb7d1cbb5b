/- Transactions: Names, Clock. -/
import Derived.Test.YtffnhfkkochnhaaGreatDoorChBakB
import Derived.Test.YtffnhfkkochnhaaGreatDoorChBakF
import Derived.Test.YtffnhfkkochnhaaGreatDoorChBakD
import Derived.Test.YtffnhfkkochnhaaGreatDoorRows
import Derived.Test.YtffnhfkkochnhaaGreatDoorChBakC
import Derived.Laws.Strings2
import Derived.Laws.IdiomStrings
import Derived.Test.YtffnhfkkochnhaaGreatDoorChBakE
import Derived.Test.YtffnhfkkochnhaaGreatDoorChBakA
set_option maxRecDepth 100000
set_option maxHeartbeats 16000000
set_option synthInstance.maxSize 4096
set_option synthInstance.maxHeartbeats 400000
namespace Go.Proofs.YtffnhfkkochnhaaGreatDoor
open Go.RowKit Go.Pm Go.Sort
def deadNow (M : List (List UInt8 × Ver)) (clk : Int) (k : List UInt8) : Bool := match lookA M k with
 | some y => !aliveB y clk
 | none => false
def namesT (M : List (List UInt8 × Ver)) (clk : Int) : List (List UInt8) := ((M.map (·.1)).mergeSort leB).filter fun k => !deadNow M clk k
theorem vmap_nodup {w : World} {b : Nat} {es : List (List UInt8 × Value)} (h : (Res.vmap b es).holds w) : (es.map (·.1)).Nodup := by
 obtain ⟨E, clock, -, ⟨-, -, h2⟩, h3⟩ := h
 have h4 : E.toList.map (fun e => e.key) = (es.map (·.1)).map strV := by
  have := congrArg (List.map Prod.fst) h3
  simpa [List.map_map, Function.comp_def, kv] using this
 rw [h4] at h2
 exact List.Pairwise.imp (fun hab e => hab (by rw [e])) (List.pairwise_map.1 h2)
theorem adj_ne {l : List (List UInt8)} (h : l.Nodup) (j : Nat) (x y : List UInt8) (hx : l[j]? = some x) (hy : l[j + 1]? = some y) : ¬ y = x := by
 intro e; subst e
 have hj := (List.getElem?_eq_some_iff.1 hx).1
 have := (List.getElem?_inj hj h).1 (hx.trans hy.symm)
 omega
theorem compactTexts (B : Base) (H : List Res) (w : World) (ra : Option Addr) (rc : Nat) (l : List (List UInt8)) (hnd : l.Nodup) (hm : l.length ≤ 1000000) (hv : Inv B (Res.row 9 1 (.slice ra l.length rc) l.length (textCells l) :: H) w) :
  Calls Tryz.prog 178 #[.slice ra l.length rc] w fun e w' => e = .returned (.slice ra l.length rc) ∧ Inv B (Res.row 9 1 (.slice ra l.length rc) l.length (textCells l) :: H) w' := by
 refine cW Tryz.func178 rfl Tryz.ntmps178 ?_
 simp only [al]
 refine sK fun _ k1 => rL (uA rfl ?_)
 refine uW k1 (sK fun _ k2 => ?_)
 refine sK fun _ k3 => rL (uM rfl ?_)
 refine uG (vI (l.length : Int)) rfl (ex_len0 Tryz.underlying22 rfl rfl) ?_
 by_cases hb4 : (l.length : Int) < 2
 ·refine uG (.bool true) rfl (ex_lss rfl rfl rfl (qT hb4)) (uW k3 ?_)
  refine cT rfl (sK fun _ k5 => ?_)
  refine rL (uM rfl ?_)
  refine uA rfl (uW k5 ?_)
  refine rR (tR ?_)
  refine bR rfl rfl (⟨rfl, hv⟩)
 refine uG (.bool false) rfl (ex_lss rfl rfl rfl (qF hb4)) (uW k3 ?_)
 refine cF rfl (kS ?_)
 refine tK k2 (sK fun _ k6 => ?_)
 refine sK fun _ k7 => rL (uA rfl ?_)
 refine uW k7 (bB ?_)
 gi_loopw [3] (fun x3 wr => ∃ (j : Nat), x3 = vI ((j + 1 : Nat) : Int) ∧ j + 1 ≤ l.length ∧ Inv B (Res.row 9 1 (.slice ra l.length rc) l.length (textCells l) :: H) wr) (fun x3 _ => l.length - (intOf x3).toNat)
 case atStart => exact ⟨0, rfl, by omega, hv⟩
 case round =>
  obtain ⟨j, rfl, hj, hv⟩ := hrel
  refine sK fun _ k9 => sK fun _ k10 => rL (uM rfl ?_)
  refine uM rfl ?_
  refine uG (vI (l.length : Int)) rfl (ex_len0 Tryz.underlying22 rfl rfl) ?_
  by_cases hb11 : ((j + 1 : Nat) : Int) < (l.length : Int)
  ·refine uG (.bool true) rfl (ex_lss rfl rfl rfl (qT hb11)) (uW k10 ?_)
   refine cT rfl (kS ?_)
   refine tK k9 (sK fun _ k12 => ?_)
   refine bB (sK fun _ k13 => ?_)
   obtain ⟨x, hx⟩ : ∃ x, l[j]? = some x := ⟨_, List.getElem?_eq_getElem (show j < l.length by omega)⟩
   obtain ⟨y, hy⟩ : ∃ y, l[j + 1]? = some y := ⟨_, List.getElem?_eq_getElem (show j + 1 < l.length by omega)⟩
   obtain ⟨b, rfl⟩ := row_some hv.head (by omega)
   refine rW mixed [] [0,1,2,3,4,5,6,7,8,9] 61 rfl (by kernel_rfl) hv ?_
   simp only [qm, opAt]
   refine dM (.slice (some ⟨b, 0, none⟩) l.length rc) rfl (dM (vI ((j + 1 : Nat) : Int)) rfl ?_)
   refine dG (.pointer (some ⟨b, 0 + (j + 1 : Nat), none⟩)) rfl (ex_index rfl rfl rfl (run_idx1 (k := (j + 1 : Nat)) Tryz.underlying22 s9es22 (by omega))) ?_
   simp only [zP, po]
   refine dL _ rfl (fun hv => ex_load rfl rfl (run_load1 s9na9 (row_load (hv.get 0 rfl) (textCells_get hy)))) (dM (.slice (some ⟨b, 0, none⟩) l.length rc) rfl ?_)
   refine dM (vI ((j + 1 : Nat) : Int)) rfl ?_
   simp only [zP, po]
   refine dG (vI j) rfl (ex_sub rfl rfl rfl (by rw [i64_in (by omega)]; omega)) (dG (.pointer (some ⟨b, 0 + j, none⟩)) rfl (ex_index rfl rfl rfl (run_idx1 (k := j) Tryz.underlying22 s9es22 (by omega))) ?_)
   refine dL _ rfl (fun hv => ex_load rfl rfl (run_load1 s9na9 (row_load (hv.get 0 rfl) (textCells_get hx)))) ?_
   simp only [zP, po]
   refine dG (.bool false) rfl (ex_seql rfl rfl rfl (qF (adj_ne hnd j x y hx hy))) (dE fun w14 hv => ?_)
   simp only [zP, po]
   refine tK k13 (cF rfl ?_)
   refine kS (bN ?_)
   refine tK k12 (rL ?_)
   refine uM rfl ?_
   refine uG (vI ((j + 1 + 1 : Nat) : Int)) rfl (ex_add rfl rfl rfl (by rw [i64_in (by omega)]; omega)) (uA rfl ?_)
   refine uZ (then_normal ?_)
   go_roundw
   case rel => exact ⟨j + 1, rfl, by omega, hv⟩
   case measure => show l.length - (((j + 1 + 1 : Nat) : Int)).toNat < l.length - (((j + 1 : Nat) : Int)).toNat; omega
  refine uG (.bool false) rfl (ex_lss rfl rfl rfl (qF hb11)) (uW k10 ?_)
  refine cF rfl (xE ?_)
  refine tX (tX ?_)
  refine bH (tK k6 ?_)
  refine sK fun _ k15 => rL (uM rfl ?_)
  refine uA rfl (uW k15 ?_)
  refine rR (bR rfl rfl ?_)
  exact ⟨rfl, hv⟩
theorem x6al86 : AL Tryz.prog 86 [vI 0, .bool false, vI 0, vI 0, vS [], vN, vN, vN] := fun w => by kernel_rfl
theorem namesDead (B : Base) (H : List Res) (w : World) (g1 t m wb : Nat) (clk : Int) (es : List (List UInt8 × Value)) (M : List (List UInt8 × Ver)) (key : List UInt8) (hM : VM B es M) (hv : Inv B (Res.cell g1 [vP t] 63 :: Res.cell t [vP m, vI 0, vI clk, .bool false, .map (some wb)] 141 :: Res.vmap wb es :: H) w) :
  Calls Tryz.prog 179 #[vS key, vP g1] w fun e w' => e = .returned (.bool (deadNow M clk key)) ∧ Inv B (Res.cell g1 [vP t] 63 :: Res.cell t [vP m, vI 0, vI clk, .bool false, .map (some wb)] 141 :: Res.vmap wb es :: H) w' := by
 refine cW Tryz.func179 rfl Tryz.ntmps179 ?_
 simp only [al]
 refine sK fun _ k1 => rL (uA rfl ?_)
 refine uW k1 (sK fun _ k2 => ?_)
 refine rL (uL _ rfl (run_load1 x1na63 (hv.load 0 0 rfl rfl)) ?_)
 refine uG (vP t) rfl (ex_nil rfl rfl) ?_
 refine uF (.pointer (some ⟨t, 4, none⟩)) rfl (x2fa141_4 _ _ _) ?_
 refine uL _ rfl (run_load1 x2na139 (hv.load 1 4 rfl rfl)) (uM rfl ?_)
 rcases VM.look key hM with ⟨hl, hlM⟩ | ⟨x, xp, xt, xz, hl, hlM, hxv⟩
 ·refine uG (.tuple #[.agg #[vI 0, .bool false, vI 0, vI 0, vS [], vN, vN, vN], .bool false]) rfl (ex_lookN (z := .agg #[vI 0, .bool false, vI 0, vI 0, vS [], vN, vN, vN]) 2 rfl rfl rfl Tryz.underlying139 Tryz.underlying9 (fun w => by kernel_rfl) hv rfl hl) (uM rfl ?_)
  refine uE rfl (uE rfl ?_)
  refine sl_alloc tV (wn rfl) rfl hv x6al86 (fun b3 w4 hv => ?_)
  refine xS 0 rfl hv x0sz86 rfl (by exact ⟨rfl, rfl, rfl, rfl, rfl, rfl, rfl, rfl, trivial⟩) (fun w5 hv => ?_)
  simp only [zO, sp] at hv
  refine uA rfl (uW k2 ?_)
  refine sK fun _ k6 => rW mixed [7] [0,1,2,3,4,5,6,7,8,9,10] 25 rfl (by kernel_rfl) hv ?_
  simp only [qm, opAt]
  refine dM (.bool false) rfl (dM (.bool false) rfl ?_)
  iterate 7 refine dN rfl ?_
  refine dK false (.bool false) rfl ?_
  simp only [zP, po]
  refine dA (.bool false) rfl (dE fun w7 hv => ?_)
  simp only [zP, po]
  refine tK k6 (rR ?_)
  refine bR rfl rfl (⟨congrArg (fun b => Ending.returned (Value.bool b)) (by unfold deadNow; rw [hlM]), (hv.kp [3, 3, 3] 3 1)⟩)
 refine uG (.tuple #[.agg #[vI x.stamp, .bool x.gone, vI x.expire, vI x.val.kind, vS x.val.text, xp, xt, xz], .bool true]) rfl (ex_lookS (z := .agg #[vI 0, .bool false, vI 0, vI 0, vS [], vN, vN, vN]) 2 rfl rfl rfl Tryz.underlying139 Tryz.underlying9 (fun w => by kernel_rfl) hv rfl hl) (uM rfl ?_)
 refine uE rfl (uE rfl ?_)
 refine sl_alloc tV (wn rfl) rfl hv x6al86 (fun b8 w9 hv => ?_)
 refine xS 0 rfl hv x0sz86 rfl (by exact ⟨rfl, rfl, rfl, rfl, rfl, hxv.p.one, hxv.t.one, hxv.z.one, trivial⟩) (fun w10 hv => ?_)
 simp only [zO, sp] at hv
 refine uA rfl (uW k2 ?_)
 refine sK fun _ k11 => rW mixed [7] [0,1,2,3,4,5,6,7,8,9,10] 25 rfl (by kernel_rfl) hv ?_
 simp only [qm, opAt]
 refine dM (.bool true) rfl (dM (.bool true) rfl ?_)
 refine dL (.agg #[vI x.stamp, .bool x.gone, vI x.expire, vI x.val.kind, vS x.val.text, xp, xt, xz]) rfl (fun hv => ex_load rfl rfl (lM 0 x0wd86 hv rfl rfl rfl rfl)) ?_
 simp only [zP, po]
 refine dL _ rfl (fun hv => ex_load rfl rfl (run_load1 x1na63 (hv.load 1 0 rfl rfl))) (dG (vP t) rfl (ex_nil rfl rfl) ?_)
 refine dG (.pointer (some ⟨t, 2, none⟩)) rfl (ex_field rfl rfl (x2fa141_2 _ _ _)) ?_
 simp only [zP, po]
 refine dL _ rfl (fun hv => ex_load rfl rfl (run_load1 s2na3 (hv.load 2 2 rfl rfl))) (dS rfl fun w12 hv => ?_)
 refine mC x2callable163 rfl ((chainAlive B _ _ x xp xt xz clk hv).mono ?_) rfl
 rintro e w13 ⟨rfl, hv⟩
 refine ⟨_, rfl, dW hv ?_⟩
 refine dG (.bool (!(aliveB x clk))) rfl (ex_not rfl rfl rfl) ?_
 simp only [zP, po]
 refine dK true (.bool (!(aliveB x clk))) rfl (dA (.bool (!(aliveB x clk))) rfl ?_)
 refine dE fun w14 hv => ?_
 simp only [zP, po]
 refine tK k11 (rR ?_)
 refine bR rfl rfl (⟨congrArg (fun b => Ending.returned (Value.bool b)) (by unfold deadNow; rw [hlM]), (hv.kp [3, 3, 3] 3 1)⟩)
theorem x6callable152 : Callable Tryz.prog 152 := cb Tryz.func152 (by kernel_rfl)
theorem x6callable176 : Callable Tryz.prog 176 := cb Tryz.func176 (by kernel_rfl)
theorem x6callable175 : Callable Tryz.prog 175 := cb Tryz.func175 (by kernel_rfl)
theorem x6callable177 : Callable Tryz.prog 177 := cb Tryz.func177 (by kernel_rfl)
theorem x6callable178 : Callable Tryz.prog 178 := cb Tryz.func178 (by kernel_rfl)
theorem x6callable179 : Callable Tryz.prog 179 := cb Tryz.func179 (by kernel_rfl)
theorem txnNames (B : Base) (H : List Res) (w : World) (t m s p wb : Nat) (va : Option Addr) (vc : Nat) (sv : Value) (clk : Int) (es : List (List UInt8 × Value)) (M : List (List UInt8 × Ver)) (hM : VM B es M) (hkl : ∀ k ∈ M.map (·.1), k.length ≤ 256) (hMl : M.length ≤ 1000000) (hv : Inv B (txR t m s p wb va vc sv clk es :: H) w) :
  Calls Tryz.prog 172 #[vP t] w fun e w' => ∃ ra rc, e = .returned (.slice ra (namesT M clk).length rc) ∧ Inv B (Res.row 9 1 (.slice ra (namesT M clk).length rc) (namesT M clk).length (textCells (namesT M clk)) :: txR t m s p wb va vc sv clk es :: H) w' := by
 refine cW Tryz.func172 rfl Tryz.ntmps172 ?_
 simp only [al]
 refine sK fun _ k1 => ?_
 replace hv := Inv.unstar hv
 simp only [txL, List.cons_append, List.nil_append] at hv
 refine rL (sl_box (L := [vP t]) tV (wn rfl) rfl rfl hv (fun w => by kernel_rfl) (fun b2 w3 hv => ?_))
 refine uA rfl (uW k1 ?_)
 refine sK fun _ k4 => rW mixed [15] [0,1,2,3,4,5,6,7,8,9,10,11,12,13,14,15,16] 33 rfl (by kernel_rfl) hv ?_
 simp only [qm, opAt]
 refine dL _ rfl (fun hv => ex_load rfl rfl (run_load1 x1na63 (hv.load 0 0 rfl rfl))) (dG (vP t) rfl (ex_nil rfl rfl) ?_)
 refine dG (vP t) rfl (ex_field rfl rfl (x1fa141_0 _ _ _)) ?_
 simp only [zP, po]
 refine dL _ rfl (fun hv => ex_load rfl rfl (run_load1 x1na54 (hv.load 1 0 rfl rfl))) (dG (vP m) rfl (ex_nil rfl rfl) ?_)
 refine dG (vP m) rfl (ex_field rfl rfl (x2fa97_0 _ _ _)) ?_
 simp only [zP, po]
 refine dL _ rfl (fun hv => ex_load rfl rfl (run_load1 x0na58 (hv.load 2 0 rfl rfl))) (dL _ rfl (fun hv => ex_load rfl rfl (run_load1 x1na63 (hv.load 0 0 rfl rfl))) ?_)
 refine dG (vP t) rfl (ex_nil rfl rfl) ?_
 simp only [zP, po]
 refine dG (.pointer (some ⟨t, 1, none⟩)) rfl (ex_field rfl rfl (x2fa141_1 _ _ _)) (dL _ rfl (fun hv => ex_load rfl rfl (run_load1 s2na3 (hv.load 1 1 rfl rfl))) ?_)
 refine dL _ rfl (fun hv => ex_load rfl rfl (run_load1 x1na63 (hv.load 0 0 rfl rfl))) ?_
 simp only [zP, po]
 refine dG (vP t) rfl (ex_nil rfl rfl) (dG (.pointer (some ⟨t, 2, none⟩)) rfl (ex_field rfl rfl (x2fa141_2 _ _ _)) ?_)
 refine dL _ rfl (fun hv => ex_load rfl rfl (run_load1 s2na3 (hv.load 1 2 rfl rfl))) ?_
 simp only [zP, po]
 refine dS rfl fun w5 hv => ?_
 replace hv := hv.front 6 rfl
 simp only [eS, eZ] at hv
 replace hv := hv.front 6 rfl
 simp only [eS, eZ] at hv
 refine mC x6callable152 rfl ((storeNames0 B _ _ s p 0 clk hv).mono ?_) rfl
 rintro e w6 ⟨rfl, hv⟩
 refine ⟨_, rfl, dW hv ?_⟩
 refine dA (vN) rfl (dE fun w7 hv => ?_)
 simp only [zP, po]
 refine tK k4 (sK fun _ k8 => ?_)
 refine rL (uM rfl ?_)
 refine uL _ rfl (run_load1 x1na63 (hv.load 2 0 rfl rfl)) ?_
 refine uG (vP t) rfl (ex_nil rfl rfl) ?_
 refine uF (.pointer (some ⟨t, 4, none⟩)) rfl (x2fa141_4 _ _ _) ?_
 refine uL _ rfl (run_load1 x2na139 (hv.load 3 4 rfl rfl)) ?_
 refine xC x6callable176 rfl ((mapKeys B _ _ (some wb) hv).mono ?_) rfl
 rintro e w9 ⟨b9, rfl, hv⟩
 refine ⟨_, rfl, ?_⟩
 simp only [zP, po]
 replace hv := hv.front 7 rfl
 simp only [eS, eZ] at hv
 replace hv := hv.front 1 rfl
 simp only [eS, eZ] at hv
 have hnd := vmap_nodup (hv.get 1 rfl)
 have hke := VM.keys hM
 have hle : es.length = M.length := by have := congrArg List.length hke; simpa using this
 refine xC x6callable175 rfl ((appendKeys B _ _ b9 wb es (fun x hx => Nat.le_trans (hkl x.1 (by rw [← hke]; exact List.mem_map.2 ⟨x, hx, rfl⟩)) (by unfold maxLen; omega)) (by omega) hv).mono ?_) rfl
 rintro e w10 ⟨v9, ss, rfl, hperm, hv⟩
 refine ⟨_, rfl, ?_⟩
 obtain ⟨va9, vc9, rfl⟩ := row_slice hv.head
 have hsl : ss.length = M.length := by have := hperm.length_eq; rw [List.length_map] at this; omega
 refine uA rfl (uW k8 ?_)
 refine sK fun _ k11 => rL (uM rfl ?_)
 refine xC x6callable177 rfl ((sortTexts B _ _ _ ss (by omega) hv).mono ?_) rfl
 rintro e w12 ⟨rfl, hv⟩
 refine ⟨_, rfl, ?_⟩
 have hms : ss.mergeSort leB = (M.map (·.1)).mergeSort leB := by rw [mergeSort_of_perm hperm, hke]
 rw [hms] at hv
 obtain ⟨l, hl⟩ : ∃ l, (M.map (·.1)).mergeSort leB = l := ⟨_, rfl⟩
 rw [hl] at hv hms
 have hll : ss.length = l.length := by rw [← hms]; simp
 rw [hll] at hv ⊢
 have hln : l.Nodup := by rw [← hms]; exact ((List.mergeSort_perm ss leB).nodup_iff).2 ((hperm.nodup_iff).2 hnd)
 refine uW k11 (sK fun _ k13 => ?_)
 refine rL (uM rfl ?_)
 refine xC x6callable178 rfl ((compactTexts B _ _ va9 vc9 l hln (by omega) hv).mono ?_) rfl
 rintro e w14 ⟨rfl, hv⟩
 refine ⟨_, rfl, uG (.func (.func 179) #[] #[vP b2]) rfl (ex_makeFunc (c' := #[vP b2]) rfl (by simp only [List.map_toArray, List.map_nil]) (by simp only [List.map_toArray, List.map_cons, List.map_nil]; rfl)) ?_⟩
 have hfn : ∀ (x : List UInt8) (r9 : Res) (w : World), Inv B (r9 :: (Res.cell b9 [.map (some wb)] 139 :: Res.vmap wb es :: Res.cell s [vP p, vI 0, vI 0] 101 :: Res.cell p [vN, vI 0] 138 :: Res.cell b2 [vP t] 63 :: Res.cell t [vP m, vI 0, vI clk, .bool false, .map (some wb)] 141 :: Res.cell m [vP s, sv, vI clk, .slice va 1 vc] 97 :: Res.row 63 1 (.slice va 1 vc) 1 [vP t] :: H)) w → Calls Tryz.prog 179 (#[vS x] ++ #[vP b2]) w fun e w' => e = .returned (.bool (deadNow M clk x)) ∧ Inv B (r9 :: (Res.cell b9 [.map (some wb)] 139 :: Res.vmap wb es :: Res.cell s [vP p, vI 0, vI 0] 101 :: Res.cell p [vN, vI 0] 138 :: Res.cell b2 [vP t] 63 :: Res.cell t [vP m, vI 0, vI clk, .bool false, .map (some wb)] 141 :: Res.cell m [vP s, sv, vI clk, .slice va 1 vc] 97 :: Res.row 63 1 (.slice va 1 vc) 1 [vP t] :: H)) w' := fun x r9 w hv =>
  (namesDead B _ w b2 t m wb clk es M x hM (((((((((hv.front 8 rfl).front 8 rfl).front 6 rfl).front 6 rfl).front 5 rfl).front 5 rfl).front 6 rfl).front 8 rfl).front 8 rfl)).mono fun e w' ⟨h7, h8⟩ => ⟨h7, (((((((((h8.front 8 rfl).front 8 rfl).front 3 rfl).front 3 rfl).front 8 rfl).front 8 rfl).front 6 rfl).front 8 rfl).front 8 rfl)⟩
 refine xC x0callable155 rfl ((deleteFunc B _ _ 179 _ va9 vc9 l (deadNow M clk) (by omega) x6callable179 hfn hv).mono ?_) rfl
 rintro e w15 ⟨ra, rc, rfl, hv⟩
 refine ⟨_, rfl, uA rfl ?_⟩
 refine uW k13 (rR ?_)
 refine bR rfl rfl ?_
 subst hl
 exact ⟨_, _, rfl, Inv.front (Inv.star (K := txL _ _ _ _ _ _ _ _ _ _) ((hv.kp [4, 4, 4, 8, 8, 8] 7 2))) 1 rfl⟩
theorem cloneRps0 (B : Base) (H : List Res) (w : World) (hv : Inv B H w) :
  Calls Tryz.prog 77 #[vN] w fun e w' => e = .returned (vN) ∧ Inv B H w' := by
 refine cW Tryz.func77 rfl Tryz.ntmps77 ?_
 simp only [al]
 refine sK fun _ k1 => rL (uA rfl ?_)
 refine uW k1 (sK fun _ k2 => ?_)
 refine sK fun _ k3 => rL (uM rfl ?_)
 refine uG (.bool true) rfl (ex_slnil Tryz.underlying26 rfl rfl rfl rfl) (uW k3 ?_)
 refine cT rfl (sK fun _ k4 => ?_)
 refine rL (uA rfl ?_)
 refine uW k4 (rR ?_)
 refine tR (bR rfl rfl ?_)
 exact ⟨rfl, hv⟩
theorem rlmk28 : (Tryz.prog.info? 28).map (fun i => (i.zero, i.size, i.bytes)) = some (some (.agg #[vI 0, vS [], vI 0, vN]), 4, 56) := by kernel_rfl
theorem rlel26 : Elem Tryz.prog 26 28 (.agg #[vI 0, vS [], vI 0, vN]) 4 56 := elem_of Tryz.underlying26 rlmk28 (by rfl) (by decide)
theorem cloneRps1 (B : Base) (H : List Res) (w : World) (a : Addr) (n c : Nat) (xs : List Value) (hok : SliceOk (some a) n c) (hl : xs.length = n * 4) (h1 : ∀ u ∈ xs, u.oneCell' = true) (hn : n ≤ 1000000) (hr : RdV B [] (some a) xs) (hv : Inv B H w) :
  Calls Tryz.prog 77 #[.slice (some a) n c] w fun e w' => ∃ v, e = .returned v ∧ Inv B (Res.row 28 4 v n xs :: H) w' := by
 refine cW Tryz.func77 rfl Tryz.ntmps77 ?_
 simp only [al]
 refine sK fun _ k1 => rL (uA rfl ?_)
 refine uW k1 (sK fun _ k2 => ?_)
 refine sK fun _ k3 => rL (uM rfl ?_)
 refine uG (.bool false) rfl (ex_slnil Tryz.underlying26 rfl rfl rfl rfl) (uW k3 ?_)
 refine cF rfl (kS ?_)
 refine tK k2 (sK fun _ k4 => ?_)
 refine rL (sl_row0 (size := 4) tV (wn rfl) rfl hv (e := 28) (fun w => by kernel_rfl) (fun b5 w6 hv => ?_))
 refine uM rfl ?_
 refine sl_append (news := xs) tV (wn rfl) rfl rfl rfl rlel26 hv hok hl ((hr.more (Base.Le.refl _) (fun _ h => by cases h)).src hv) (h1) (by unfold maxLen; omega) (by omega) (fun rv7 w10 hv => ?_)
 obtain ⟨ra8, rc9, rfl⟩ := row_slice hv.head
 refine uA rfl (uW k4 ?_)
 refine rR (bR rfl rfl ?_)
 rw [Nat.zero_add, List.nil_append] at hv
 exact ⟨_, by rw [Nat.zero_add]; rfl, hv⟩
theorem cloneRps (B : Base) (H : List Res) (w : World) (ad : Option Addr) (n c : Nat) (xs : List Value) (hok : SliceOk ad n c) (hl : xs.length = n * 4) (h1 : ∀ u ∈ xs, u.oneCell' = true) (hn : n ≤ 1000000) (hr : RdV B [] ad xs) (hv : Inv B H w) :
  Calls Tryz.prog 77 #[.slice ad n c] w fun e w' => ∃ va vc, e = .returned (.slice va n vc) ∧ Inv B (Res.row 28 4 (.slice va n vc) n xs :: H) w' := by
 cases ad with
 | none =>
  have hc0 : c = 0 := hok.nil rfl
  have hn0 : n = 0 := by have := hok.le; omega
  subst hc0 hn0
  have hx : xs = [] := List.eq_nil_of_length_eq_zero (by simpa using hl)
  subst hx
  refine (cloneRps0 B H w hv).mono ?_
  rintro e w' ⟨rfl, hv⟩
  exact ⟨_, _, rfl, hv.rowNil _ _⟩
 | some a =>
  refine (cloneRps1 B H w a n c xs hok hl h1 hn hr hv).mono ?_
  rintro e w' ⟨v, rfl, hv⟩
  obtain ⟨va, vc, rfl⟩ := row_slice hv.head
  exact ⟨_, _, rfl, hv⟩
theorem respOne0 (B : Base) (H : List Res) (w : World) (la : Option Addr) (n lc : Nat) (h0 : 0 < n) (hv : Inv B H w) :
  Calls Tryz.prog 93 #[.slice la n lc, vN] w fun e w' => e = .returned (.bool false) ∧ Inv B H w' := by
 refine cW Tryz.func93 rfl Tryz.ntmps93 ?_
 simp only [al]
 refine sK fun _ k1 => rL (uA rfl ?_)
 refine uW k1 (sK fun _ k2 => ?_)
 refine rW mixed [] [0,1,2,3,4,5,6,7,8,9,10,11,12,13,14,15,16,17] 22 rfl (by kernel_rfl) hv ?_
 simp only [qm, opAt]
 refine dM (.slice la n lc) rfl (dG (vI n) rfl (ex_len0 Tryz.underlying26 rfl rfl) ?_)
 refine dG (.bool true) rfl (ex_gtr rfl rfl rfl (qT (by omega))) ?_
 simp only [zP, po]
 refine dM (.bool true) rfl (dM (.slice la n lc) rfl ?_)
 refine dG (vI n) rfl (ex_len0 Tryz.underlying26 rfl rfl) ?_
 simp only [zP, po]
 refine dM (vN) rfl (dG (vI 0) rfl (ex_len0 Tryz.underlying26 rfl rfl) ?_)
 refine dG (.bool false) rfl (ex_eql rfl rfl rfl (qF (by omega))) ?_
 simp only [zP, po]
 refine dK true (.bool false) rfl (dM (.bool false) rfl ?_)
 iterate 5 refine dN rfl ?_
 refine dK false (.bool false) rfl ?_
 simp only [zP, po]
 refine dA (.bool false) rfl (dE fun w3 hv => ?_)
 simp only [zP, po]
 refine tK k2 (rR ?_)
 refine bR rfl rfl (⟨rfl, hv⟩)
theorem rlal161 : AL Tryz.prog 161 [vI 0, vI 0, vN, vN] := fun w => by kernel_rfl
theorem rlwd161 : Wide Tryz.prog 161 4 := wide_of (fun w => by kernel_rfl) (by kernel_rfl)
theorem rlsz161 : (Tryz.prog.info? 161).map (·.size) = some 4 := by kernel_rfl
theorem trailLeaf (B : Base) (H : List Res) (w : World) (n1 n2 : Int) (va vb : Value) (_ : va.cells = #[va]) (h1b : va.oneCell' = true) (_ : vb.cells = #[vb]) (h2b : vb.oneCell' = true) (aa : Option Addr) (ac : Nat) (hv : Inv B H w) :
  Calls Tryz.prog 78 #[.agg #[vI n1, vI n2, va, vb], .slice aa 0 ac, .slice aa 0 ac] w fun e w' => e = .returned (.tuple #[.agg #[vI n1, vI n2, va, vb], .bool false]) ∧ Inv B H w' := by
 refine cW Tryz.func78 rfl Tryz.ntmps78 ?_
 simp only [al]
 refine sK fun _ k1 => rL (sl_box (L := [vI n1, vI n2, va, vb]) tV (wn rfl) rfl rfl hv (fun w => by kernel_rfl) (fun b2 w3 hv => ?_))
 refine sl_alloc tV (wn rfl) rfl hv rlal161 (fun b4 w5 hv => ?_)
 refine uA rfl (uW k1 ?_)
 refine sK fun _ k6 => sK fun _ k7 => rL (uM rfl ?_)
 refine uG (vI 0) rfl (ex_len0 Tryz.underlying26 rfl rfl) ?_
 refine uG (.bool true) rfl (ex_eql rfl rfl rfl (by decide)) (uM rfl ?_)
 iterate 10 refine uP rfl ?_
 refine uK rfl (uW k7 ?_)
 refine cT rfl (sK fun _ k8 => ?_)
 refine rL (uL (.agg #[vI n1, vI n2, va, vb]) rfl (lM 1 rlwd161 hv rfl rfl rfl rfl) ?_)
 refine xS 0 rfl hv rlsz161 rfl (by exact ⟨rfl, rfl, h1b, h2b, trivial⟩) (fun w9 hv => ?_)
 simp only [zO, sp] at hv
 refine uA rfl (uW k8 ?_)
 refine rR (tR ?_)
 refine bodyPost_ret (res_cell2 rfl rfl (lM 0 rlwd161 hv rfl rfl rfl rfl)) rfl (⟨rfl, (hv.kp [] 0 2)⟩)
theorem rlfa161_2 : FA Tryz.prog 161 2 2 := fun w b o => by kernel_rfl
theorem rlcallable93 : Callable Tryz.prog 93 := cb Tryz.func93 (by kernel_rfl)
theorem rlfa161_0 : FA Tryz.prog 161 0 0 := fun w b o => by kernel_rfl
theorem rlna3 (w : World) : (isAgg 3).run Tryz.prog w = .ok false w := by kernel_rfl
theorem rlsz3 : (Tryz.prog.info? 3).map (·.size) = some 1 := by kernel_rfl
theorem rlfa161_1 : FA Tryz.prog 161 1 1 := fun w b o => by kernel_rfl
theorem rlfa161_3 : FA Tryz.prog 161 3 3 := fun w b o => by kernel_rfl
theorem trailNew (B : Base) (H : List Res) (w : World) (la : Option Addr) (n lc : Nat) (h0 : 0 < n) (hv : Inv B H w) :
  Calls Tryz.prog 78 #[.agg #[vI 0, vI 0, vN, vN], .slice la n lc, .slice la n lc] w fun e w' => e = .returned (.tuple #[.agg #[vI 1, vI 2, .slice la n lc, .slice la n lc], .bool true]) ∧ Inv B H w' := by
 refine cW Tryz.func78 rfl Tryz.ntmps78 ?_
 simp only [al]
 refine sK fun _ k1 => rL (sl_box (L := [vI 0, vI 0, vN, vN]) tV (wn rfl) rfl rfl hv (fun w => by kernel_rfl) (fun b2 w3 hv => ?_))
 refine sl_alloc tV (wn rfl) rfl hv rlal161 (fun b4 w5 hv => ?_)
 refine uA rfl (uW k1 ?_)
 refine sK fun _ k6 => sK fun _ k7 => rL (uM rfl ?_)
 refine uG (vI n) rfl (ex_len0 Tryz.underlying26 rfl rfl) ?_
 refine uG (.bool false) rfl (ex_eql rfl rfl rfl (qF (by omega))) (uM rfl ?_)
 refine uM rfl ?_
 refine uF (.pointer (some ⟨b2, 2, none⟩)) rfl (rlfa161_2 _ _ _) ?_
 refine uL _ rfl (run_load1 rtna26 (hv.load 1 2 rfl rfl)) ?_
 refine xC rlcallable93 rfl ((respOne0 B _ _ la n lc h0 hv).mono ?_) rfl
 rintro e w8 ⟨rfl, hv⟩
 refine ⟨_, rfl, ?_⟩
 refine uM rfl ?_
 iterate 4 refine uP rfl ?_
 refine uK rfl (uK rfl ?_)
 refine uW k7 (cF rfl ?_)
 refine kS (tK k6 ?_)
 refine sK fun _ k9 => rL (uF (vP b2) rfl (rlfa161_0 _ _ _) ?_)
 refine uL _ rfl (run_load1 rlna3 (hv.load 1 0 rfl rfl)) ?_
 refine uG (vI 1) rfl (ex_add rfl rfl rfl (i64_in (by omega))) ?_
 refine uF (vP b2) rfl (rlfa161_0 _ _ _) ?_
 refine xV 1 (vI 1) rfl hv rlsz3 rfl rfl (fun w10 hv => ?_)
 simp only [zS, zO, sp] at hv
 refine uW k9 (sK fun _ k11 => ?_)
 refine sK fun _ k12 => rL (uF (vP b2) rfl (rlfa161_0 _ _ _) ?_)
 refine uL _ rfl (run_load1 rlna3 (hv.load 1 0 rfl rfl)) ?_
 refine uF (.pointer (some ⟨b2, 1, none⟩)) rfl (rlfa161_1 _ _ _) ?_
 refine uL _ rfl (run_load1 rlna3 (hv.load 1 1 rfl rfl)) ?_
 refine uG (.bool true) rfl (ex_geq rfl rfl rfl (by decide)) (uW k12 ?_)
 refine cT rfl (rL ?_)
 refine uF (vP b2) rfl (rlfa161_0 _ _ _) ?_
 refine uL _ rfl (run_load1 rlna3 (hv.load 1 0 rfl rfl)) ?_
 refine uG (vI 2) rfl (ex_mul rfl rfl rfl (i64_in (by omega))) (uM rfl ?_)
 refine uM rfl ?_
 refine uF (.pointer (some ⟨b2, 1, none⟩)) rfl (rlfa161_1 _ _ _) ?_
 refine xV 1 (vI 2) rfl hv rlsz3 rfl rfl (fun w13 hv => ?_)
 simp only [zS, zO, sp] at hv
 refine uF (.pointer (some ⟨b2, 2, none⟩)) rfl (rlfa161_2 _ _ _) ?_
 refine xV 1 (.slice la n lc) rfl hv rtsz26 rfl rfl (fun w14 hv => ?_)
 simp only [zS, zO, sp] at hv
 refine uF (.pointer (some ⟨b2, 3, none⟩)) rfl (rlfa161_3 _ _ _) ?_
 refine xV 1 (.slice la n lc) rfl hv rtsz26 rfl rfl (fun w15 hv => ?_)
 simp only [zS, zO, sp] at hv
 refine uW k11 (sK fun _ k16 => ?_)
 refine rL (uL (.agg #[vI 1, vI 2, .slice la n lc, .slice la n lc]) rfl (lM 1 rlwd161 hv rfl rfl rfl rfl) ?_)
 refine xS 0 rfl hv rlsz161 rfl (by exact ⟨rfl, rfl, rfl, rfl, trivial⟩) (fun w17 hv => ?_)
 simp only [zO, sp] at hv
 refine uA rfl (uW k16 ?_)
 refine rR (bodyPost_ret (res_cell2 rfl rfl (lM 0 rlwd161 hv rfl rfl rfl rfl)) rfl ?_)
 exact ⟨rfl, (hv.kp [] 0 2)⟩
open Classical in
noncomputable def lvMu (x : Value) (w : World) : Nat := match x with
 | .slice (some ⟨b, _, _⟩) (_ + 1) _ => if w.cell? ⟨b, 1, none⟩ = some (vI 0) then 2 else 1
 | _ => 0
open Classical in
theorem lvMu2 {b c : Nat} {w : World} (h : w.cell? ⟨b, 0 + 1, none⟩ = some (vI 0)) : lvMu (.slice (some ⟨b, 0, none⟩) 1 c) w = 2 := if_pos h
open Classical in
theorem lvMu1 {b c : Nat} {w : World} : 1 ≤ lvMu (.slice (some ⟨b, 0, none⟩) 1 c) w := by
 show 1 ≤ if _ then 2 else 1
 split <;> omega
open Classical in
theorem lvMu3 {b c : Nat} {w : World} (h : w.cell? ⟨b, 0 + 1, none⟩ = some (vI 1)) : lvMu (.slice (some ⟨b, 0, none⟩) 1 c) w < 2 := by
 show (if _ then 2 else 1) < 2
 rw [if_neg (by rw [Nat.zero_add] at h; rw [h]; simp)]; omega
theorem lvMu0 {a : Option Addr} {c : Nat} {w : World} : lvMu (.slice a 0 c) w = 0 := by cases a <;> rfl
theorem rlal28 : AL Tryz.prog 28 [vI 0, vS [], vI 0, vN] := fun w => by kernel_rfl
theorem rlcallable77 : Callable Tryz.prog 77 := cb Tryz.func77 (by kernel_rfl)
theorem rlmk163 : (Tryz.prog.info? 163).map (fun i => (i.zero, i.size, i.bytes)) = some (some (.agg #[vN, vI 0, vI 0, vN, vN]), 5, 88) := by kernel_rfl
theorem rlel164 : Elem Tryz.prog 164 163 (.agg #[vN, vI 0, vI 0, vN, vN]) 5 88 := elem_of Tryz.underlying164 rlmk163 (by rfl) (by decide)
theorem rles164 (w : World) : (sizeOf (Tryz.prog.elem 164)).run Tryz.prog w = .ok 5 w := by kernel_rfl
theorem rlwd163 : Wide Tryz.prog 163 5 := wide_of (fun w => by kernel_rfl) (by kernel_rfl)
theorem rlal163 : AL Tryz.prog 163 [vN, vI 0, vI 0, vN, vN] := fun w => by kernel_rfl
theorem rlsz163 : (Tryz.prog.info? 163).map (·.size) = some 5 := by kernel_rfl
theorem rlfa163_0 : FA Tryz.prog 163 0 0 := fun w b o => by kernel_rfl
theorem rles26 (w : World) : (sizeOf (Tryz.prog.elem 26)).run Tryz.prog w = .ok 4 w := by kernel_rfl
theorem rlfa163_1 : FA Tryz.prog 163 1 1 := fun w b o => by kernel_rfl
theorem rlcallable78 : Callable Tryz.prog 78 := cb Tryz.func78 (by kernel_rfl)
theorem respList (B : Base) (H : List Res) (w : World) (ra : Option Addr) (m rc : Nat) (xs : List Value) (r : Rp) (hok : SliceOk ra m rc) (hr : RdV B [] ra xs) (hin : ListIn B m xs r) (hm : m ≤ 1000000) (hv : Inv B H w) :
  Calls Tryz.prog 49 #[.slice ra m rc] w fun e w' => ∃ C v, B.Le C ∧ e = .returned (.agg (rpCells 5 [] 0 v).toArray) ∧ RpAt C r (rpCells 5 [] 0 v) ∧ Inv C H w' := by
 refine cW Tryz.func49 rfl Tryz.ntmps49 ?_
 simp only [al]
 refine sK fun _ k1 => rL (sl_alloc tV (wn rfl) rfl hv rlal28 (fun b2 w3 hv => ?_))
 refine uW k1 (sK fun _ k4 => ?_)
 refine rL (uM rfl ?_)
 refine xC rlcallable77 rfl ((cloneRps B _ _ ra m rc xs hok hin.len hin.one hm hr hv).mono ?_) rfl
 rintro e w5 ⟨oa, oc, rfl, hv⟩
 refine ⟨_, rfl, uG (.agg #[vI 5, vS [], vI 0, .slice oa m oc]) rfl (ex_buildN (vs := #[(0, vI 5), (3, .slice oa m oc)]) rfl (by simp only [List.map_toArray, List.map_cons, List.map_nil]; rfl) (by kernel_rfl)) ?_⟩
 refine sl_alloc tV (wn rfl) rfl hv rlal28 (fun b6 w7 hv => ?_)
 simp only [zP, po]
 refine xS 0 rfl hv rssz28 rfl (by exact ⟨rfl, rfl, rfl, rfl, trivial⟩) (fun w8 hv => ?_)
 simp only [zO, sp] at hv
 refine uW k4 (sK fun _ k9 => ?_)
 refine rL (uF (.pointer (some ⟨b6, 3, none⟩)) rfl (rtfa28_3 _ _ _) ?_)
 refine uL _ rfl (run_load1 rtna26 (hv.load 0 3 rfl rfl)) ?_
 refine uG (.agg #[.slice oa m oc, vI 0, vI 0, vN, vN]) rfl (ex_buildN (vs := #[(0, .slice oa m oc)]) rfl (by simp only [List.map_toArray, List.map_cons, List.map_nil]; rfl) (by kernel_rfl)) ?_
 refine sl_rowAgg (L := [.slice oa m oc, vI 0, vI 0, vN, vN]) tV (wn rfl) rfl rfl hv rlel164 rfl (by decide) (fun b10 w11 hv => ?_)
 refine uA rfl (uW k9 ?_)
 refine sK fun _ k12 => bB ?_
 gi_loopw [4] (fun x4 wr => ∃ (v0 : Option Addr) (vc : Nat), ((∃ (C : Base) (ls : List Leaf) (oa : Option Addr) (oc tb tc : Nat) (n1 n2 : Int) (va vb : Value), x4 = .slice (some ⟨tb, 0, none⟩) 1 tc ∧ B.Le C ∧ (ls.length ≤ 1000000 ∧ va.cells = #[va] ∧ va.oneCell' = true ∧ vb.cells = #[vb] ∧ vb.oneCell' = true) ∧ (∀ D, C.Le D → RowB D (.slice oa ls.length oc) ls.length (lvC ls none) → RpAt D r (rpCells 5 [] 0 (.slice v0 m vc))) ∧ Inv C (Res.row 163 5 (.slice (some ⟨tb, 0, none⟩) 1 tc) 1 [.slice oa ls.length oc, vI n1, vI n2, va, vb] :: Res.row 28 4 (.slice oa ls.length oc) ls.length (lvC ls none) :: Res.cell b6 [vI 5, vS [], vI 0, .slice v0 m vc] 28 :: Res.cell b2 [vI 0, vS [], vI 0, vN] 28 :: H) wr) ∨ (∃ (C : Base) (pre l : List Leaf) (x : Leaf) (la : Option Addr) (lc : Nat) (oa : Option Addr) (oc tb tc : Nat), x4 = .slice (some ⟨tb, 0, none⟩) 1 tc ∧ B.Le C ∧ (pre.length ≤ 1000000 ∧ l.length ≤ 1000000 ∧ SliceOk la l.length lc ∧ RdV C [] la (lvC l none)) ∧ (∀ D, C.Le D → ∀ u, RowB D u l.length (lvC l none) → RowB D (.slice oa (pre.length + 1) oc) (pre.length + 1) (lvC pre (some (x, u))) → RpAt D r (rpCells 5 [] 0 (.slice v0 m vc))) ∧ Inv C (Res.row 163 5 (.slice (some ⟨tb, 0, none⟩) 1 tc) 1 [.slice oa (pre.length + 1) oc, vI 0, vI 0, vN, vN] :: Res.row 28 4 (.slice oa (pre.length + 1) oc) (pre.length + 1) (lvC pre (some (x, .slice la l.length lc))) :: Res.cell b6 [vI 5, vS [], vI 0, .slice v0 m vc] 28 :: Res.cell b2 [vI 0, vS [], vI 0, vN] 28 :: H) wr) ∨ (∃ (C : Base) (ta : Option Addr) (tc : Nat), x4 = .slice ta 0 tc ∧ B.Le C ∧ RpAt C r (rpCells 5 [] 0 (.slice v0 m vc)) ∧ Inv C (Res.cell b6 [vI 5, vS [], vI 0, .slice v0 m vc] 28 :: Res.cell b2 [vI 0, vS [], vI 0, vN] 28 :: H) wr))) (fun x4 wr => lvMu x4 wr)
 case atStart => exact (by
   have hv := (((((hv.front 3 rfl).front 2 rfl).front 3 rfl).front 3 rfl)).cellRow (n := 1) (c := 1) (size := 5) rfl (by decide) (by decide)
   rcases hin with ⟨ls, rfl, rfl, rfl⟩ | ⟨pre, l, x, la, lc, rfl, rfl, hla, hrl, hml, rfl⟩
   ·refine ⟨oa, oc, .inl ⟨B, ls, oa, oc, _, _, 0, 0, _, _, rfl, Base.Le.refl _, ⟨hm, rfl, rfl, rfl, rfl⟩, fun D hD h => rlist_at (by rw [List.length_map]; exact h) (lvC_at0 ls), hv⟩⟩
   refine ⟨oa, oc, .inr (.inl ⟨B, pre, l, x, la, lc, oa, oc, _, _, rfl, Base.Le.refl _, ⟨by omega, hml, hla, hrl⟩, fun D hD u hu h => rlist_at (by rw [List.length_append, List.length_map]; exact h) (lvC_at1 hu), hv⟩)⟩)
 case round =>
  rcases hrel with ⟨v0, vc, ⟨C, ls, oa, oc, tb, tc, n1, n2, va, vb, rfl, hC, ⟨hls, h1a, h1b, h2a, h2b⟩, hfin, hv⟩ | ⟨C, pre, l, x, la, lc, oa, oc, tb, tc, rfl, hC, ⟨hpm, hlm, hla, hrl⟩, hfin, hv⟩ | ⟨C, ta, tc, rfl, hC, hat, hv⟩⟩
  ·have hmu := @lvMu1 tb tc wr
   refine sK fun _ k14 => sK fun _ k15 => rL (uG (.slice (some ⟨tb, 0, none⟩) 1 tc) rfl (ex_move rfl rfl) ?_)
   refine uG (vI 1) rfl (ex_len0 Tryz.underlying164 rfl rfl) ?_
   refine uG (.bool true) rfl (ex_gtr rfl rfl rfl (by decide)) (uW k15 ?_)
   refine cT rfl (kS ?_)
   refine tK k14 (bB ?_)
   refine sK fun _ k16 => rL (uG (.slice (some ⟨tb, 0, none⟩) 1 tc) rfl (ex_move rfl rfl) ?_)
   refine uG (.slice (some ⟨tb, 0, none⟩) 1 tc) rfl (ex_move rfl rfl) ?_
   refine uG (vI 1) rfl (ex_len0 Tryz.underlying164 rfl rfl) ?_
   refine uG (vI 0) rfl (ex_sub rfl rfl rfl (i64_in (by omega))) ?_
   refine uG (.pointer (some ⟨tb, 0 + 0 * 5, none⟩)) rfl (ex_index rfl rfl rfl (run_idx (k := 0) Tryz.underlying164 rles164 (by omega))) ?_
   refine uL (.agg #[.slice oa ls.length oc, vI n1, vI n2, va, vb]) rfl (run_loadR (cs := [.slice oa ls.length oc, vI n1, vI n2, va, vb]) rlwd163 (row_loads (hv.get 0 rfl) (k := 0) (by omega) (fun j hj => (by rw [Nat.zero_add])))) ?_
   refine sl_alloc tV (wn rfl) rfl hv rlal163 (fun b17 w18 hv => ?_)
   simp only [zP, po]
   refine xS 0 rfl hv rlsz163 rfl (by exact ⟨rfl, rfl, rfl, h1b, h2b, trivial⟩) (fun w19 hv => ?_)
   simp only [zO, sp] at hv
   refine uW k16 (sK fun _ k20 => ?_)
   refine rL (uG (.slice (some ⟨tb, 0, none⟩) 1 tc) rfl (ex_move rfl rfl) ?_)
   refine uG (.slice (some ⟨tb, 0, none⟩) 1 tc) rfl (ex_move rfl rfl) ?_
   refine uG (vI 1) rfl (ex_len0 Tryz.underlying164 rfl rfl) ?_
   refine uG (vI 0) rfl (ex_sub rfl rfl rfl (i64_in (by omega))) ?_
   refine uG (.slice (some ⟨tb, 0, none⟩) 0 tc) rfl (ex_slice (hi' := some (vI 0)) rfl rfl rfl (congrArg some rfl) rfl (run_hi Tryz.underlying164 rles164 (Nat.zero_le _))) (uA rfl ?_)
   refine uW k20 (sK fun _ k21 => ?_)
   replace hv := hv.front 1 rfl
   simp only [eS, eZ] at hv
   replace hv := hv.rowLess (m := 0) (Nat.zero_le _)
   rw [Nat.zero_mul, List.take_zero] at hv
   refine rL (uF (vP b17) rfl (rlfa163_0 _ _ _) ?_)
   refine uL _ rfl (run_load1 rtna26 (hv.load 1 0 rfl rfl)) ?_
   refine uG (vI (ls.length : Int)) rfl (ex_len0 Tryz.underlying26 rfl rfl) (uM rfl ?_)
   refine uW k21 (bB ?_)
   gi_loopw [34, 4] (fun x34 x4 wr => ∃ (i : Nat), x34 = vI i ∧ x4 = .slice (some ⟨tb, 0, none⟩) 0 tc ∧ i ≤ ls.length ∧ Inv C (Res.row 163 5 (.slice (some ⟨tb, 0, none⟩) 0 tc) 0 ([] : List Value) :: Res.row 28 4 (.slice oa ls.length oc) ls.length (lvC ls none) :: Res.cell b17 [.slice oa ls.length oc, vI n1, vI n2, va, vb] 163 :: Res.cell b6 [vI 5, vS [], vI 0, .slice v0 m vc] 28 :: Res.cell b2 [vI 0, vS [], vI 0, vN] 28 :: H) wr) (fun x34 x4 _ => ls.length - (intOf x34).toNat)
   case atStart => exact ⟨0, rfl, rfl, Nat.zero_le _, (((((hv.front 4 rfl).front 4 rfl).front 3 rfl).front 4 rfl).front 4 rfl)⟩
   case round =>
    obtain ⟨i, rfl, rfl, hi, hv⟩ := hrel
    refine sK fun _ k23 => rL ?_
    by_cases hb24 : (i : Int) < (ls.length : Int)
    ·refine uG (.bool true) rfl (ex_lss rfl rfl rfl (qT hb24)) (uW k23 ?_)
     refine sK fun _ k25 => cT rfl (kS ?_)
     refine tK k25 (sK fun _ k26 => ?_)
     refine bB (sK fun _ k27 => ?_)
     obtain ⟨q, hq⟩ : ∃ q, ls[i]? = some q := ⟨_, List.getElem?_eq_getElem (by omega)⟩
     have hv8 := hv
     clear hv
     obtain ⟨ob, h9⟩ := row_some (hv8.get 1 rfl) (by omega)
     subst h9
     have hv := hv8
     clear hv8
     refine rL (uM rfl ?_)
     refine uG (.pointer (some ⟨ob, 0 + i * 4, none⟩)) rfl (ex_index rfl rfl rfl (run_idx (k := i) Tryz.underlying26 rles26 (by omega))) ?_
     refine uL (.agg #[vI q.k, vS q.s, vI q.n, vN]) rfl (run_loadR (cs := [vI q.k, vS q.s, vI q.n, vN]) rswd28 (row_loads (hv.get 1 rfl) (k := i * 4) (Nat.zero_add _) (fun j hj => (lvC_pre hq hj).symm))) ?_
     refine sl_alloc tV (wn rfl) rfl hv rlal28 (fun b28 w29 hv => ?_)
     refine uA rfl ?_
     refine xS 0 rfl hv rssz28 rfl (by exact ⟨rfl, rfl, rfl, rfl, trivial⟩) (fun w30 hv => ?_)
     simp only [zO, sp] at hv
     refine uW k27 (sK fun _ k31 => ?_)
     refine rL (uF (vP b17) rfl (rlfa163_0 _ _ _) ?_)
     refine uL _ rfl (run_load1 rtna26 (hv.load 3 0 rfl rfl)) (uM rfl ?_)
     refine uG (.pointer (some ⟨ob, 0 + i * 4, none⟩)) rfl (ex_index rfl rfl rfl (run_idx (k := i) Tryz.underlying26 rles26 (by omega))) ?_
     refine uF (.pointer (some ⟨ob, 0 + i * 4 + 3, none⟩)) rfl (rtfa28_3 _ _ _) ?_
     replace hv := hv.front 2 rfl
     simp only [eS, eZ] at hv
     refine sl_storeRow (v := vN) tV (wn rfl) rfl rfl rfl hv rtsz26 (by rw [lvC_len0]; omega) rfl rfl (fun w32 hv => ?_)
     rw [show 0 + i * 4 + 3 = i * 4 + 3 by omega, lvC_set hq] at hv
     refine uW k31 (sK fun _ k33 => ?_)
     refine rL (uF (.pointer (some ⟨b17, 1, none⟩)) rfl (rlfa163_1 _ _ _) ?_)
     refine uL (.agg #[vI n1, vI n2, va, vb]) rfl (lM 3 rlwd161 hv rfl rfl rfl rfl) ?_
     refine uF (.pointer (some ⟨b28, 3, none⟩)) rfl (rtfa28_3 _ _ _) ?_
     refine uL _ rfl (run_load1 rtna26 (hv.load 1 3 rfl rfl)) ?_
     refine uF (.pointer (some ⟨b28, 3, none⟩)) rfl (rtfa28_3 _ _ _) ?_
     refine uL _ rfl (run_load1 rtna26 (hv.load 1 3 rfl rfl)) ?_
     refine xC rlcallable78 rfl ((trailLeaf C _ _ n1 n2 va vb h1a h1b h2a h2b none 0 hv).mono ?_) rfl
     rintro e w34 ⟨rfl, hv⟩
     refine ⟨_, rfl, uM rfl ?_⟩
     refine uE rfl (uE rfl ?_)
     refine sl_alloc tV (wn rfl) rfl hv rlal161 (fun b35 w36 hv => ?_)
     simp only [zP, po]
     refine xS 0 rfl hv rlsz161 rfl (by exact ⟨rfl, rfl, h1b, h2b, trivial⟩) (fun w37 hv => ?_)
     simp only [zO, sp] at hv
     refine uA rfl (uW k33 ?_)
     refine sK fun _ k38 => rL (uM rfl ?_)
     refine uW k38 (cF rfl ?_)
     refine kS (bN ?_)
     refine tK k26 (rL ?_)
     refine uG (vI ((i + 1 : Nat) : Int)) rfl (ex_add rfl rfl rfl (by rw [i64_in (by omega)]; omega)) (uM rfl ?_)
     refine uZ (then_normal ?_)
     go_roundw
     case rel => exact ⟨i + 1, rfl, rfl, by omega, (hv.kp [6, 6, 6, 4, 6] 5 2)⟩
     case measure => show ls.length - (((i + 1 : Nat) : Int)).toNat < ls.length - ((i : Int)).toNat; omega
    refine uG (.bool false) rfl (ex_lss rfl rfl rfl (qF hb24)) (uW k23 ?_)
    refine sK fun _ k39 => cF rfl (xE ?_)
    refine tX (tX ?_)
    refine bH (bN ?_)
    refine then_normal ?_
    go_roundw
    case rel => (obtain ⟨D, hD, hv, hro, hoko, -⟩ := ((hv.kp [4, 4, 3] 3 2)).rowBy; exact ⟨v0, vc, .inr (.inr ⟨D, _, _, rfl, hC.trans hD, hfin D hD ⟨oa, oc, rfl, hoko, hro⟩, hv⟩)⟩)
    case measure => (rw [lvMu0]; omega)
  ·have hmu : lvMu (.slice (some ⟨tb, 0, none⟩) 1 tc) wr = 2 := lvMu2 (row_load (hv.get 0 rfl) rfl)
   refine sK fun _ k40 => sK fun _ k41 => rL (uG (.slice (some ⟨tb, 0, none⟩) 1 tc) rfl (ex_move rfl rfl) ?_)
   refine uG (vI 1) rfl (ex_len0 Tryz.underlying164 rfl rfl) ?_
   refine uG (.bool true) rfl (ex_gtr rfl rfl rfl (by decide)) (uW k41 ?_)
   refine cT rfl (kS ?_)
   refine tK k40 (bB ?_)
   refine sK fun _ k42 => rL (uG (.slice (some ⟨tb, 0, none⟩) 1 tc) rfl (ex_move rfl rfl) ?_)
   refine uG (.slice (some ⟨tb, 0, none⟩) 1 tc) rfl (ex_move rfl rfl) ?_
   refine uG (vI 1) rfl (ex_len0 Tryz.underlying164 rfl rfl) ?_
   refine uG (vI 0) rfl (ex_sub rfl rfl rfl (i64_in (by omega))) ?_
   refine uG (.pointer (some ⟨tb, 0 + 0 * 5, none⟩)) rfl (ex_index rfl rfl rfl (run_idx (k := 0) Tryz.underlying164 rles164 (by omega))) ?_
   refine uL (.agg #[.slice oa (pre.length + 1) oc, vI 0, vI 0, vN, vN]) rfl (run_loadR (cs := [.slice oa (pre.length + 1) oc, vI 0, vI 0, vN, vN]) rlwd163 (row_loads (hv.get 0 rfl) (k := 0) (by omega) (fun j hj => (by rw [Nat.zero_add])))) ?_
   refine sl_alloc tV (wn rfl) rfl hv rlal163 (fun b43 w44 hv => ?_)
   simp only [zP, po]
   refine xS 0 rfl hv rlsz163 rfl (by exact ⟨rfl, rfl, rfl, rfl, rfl, trivial⟩) (fun w45 hv => ?_)
   simp only [zO, sp] at hv
   refine uW k42 (sK fun _ k46 => ?_)
   refine rL (uG (.slice (some ⟨tb, 0, none⟩) 1 tc) rfl (ex_move rfl rfl) ?_)
   refine uG (.slice (some ⟨tb, 0, none⟩) 1 tc) rfl (ex_move rfl rfl) ?_
   refine uG (vI 1) rfl (ex_len0 Tryz.underlying164 rfl rfl) ?_
   refine uG (vI 0) rfl (ex_sub rfl rfl rfl (i64_in (by omega))) ?_
   refine uG (.slice (some ⟨tb, 0, none⟩) 0 tc) rfl (ex_slice (hi' := some (vI 0)) rfl rfl rfl (congrArg some rfl) rfl (run_hi Tryz.underlying164 rles164 (Nat.zero_le _))) (uA rfl ?_)
   refine uW k46 (sK fun _ k47 => ?_)
   replace hv := hv.front 1 rfl
   simp only [eS, eZ] at hv
   replace hv := hv.rowLess (m := 0) (Nat.zero_le _)
   rw [Nat.zero_mul, List.take_zero] at hv
   refine rL (uF (vP b43) rfl (rlfa163_0 _ _ _) ?_)
   refine uL _ rfl (run_load1 rtna26 (hv.load 1 0 rfl rfl)) ?_
   refine uG (vI ((pre.length + 1) : Int)) rfl (ex_len0 Tryz.underlying26 rfl rfl) (uM rfl ?_)
   refine uW k47 (bB ?_)
   gi_loopw [34, 4] (fun x34 x4 wr => (∃ (i : Nat), x34 = vI i ∧ x4 = .slice (some ⟨tb, 0, none⟩) 0 tc ∧ i ≤ pre.length ∧ Inv C (Res.row 163 5 (.slice (some ⟨tb, 0, none⟩) 0 tc) 0 ([] : List Value) :: Res.row 28 4 (.slice oa (pre.length + 1) oc) (pre.length + 1) (lvC pre (some (x, .slice la l.length lc))) :: Res.cell b43 [.slice oa (pre.length + 1) oc, vI 0, vI 0, vN, vN] 163 :: Res.cell b6 [vI 5, vS [], vI 0, .slice v0 m vc] 28 :: Res.cell b2 [vI 0, vS [], vI 0, vN] 28 :: H) wr) ∨ (x34 = vI ((pre.length + 1 : Nat) : Int) ∧ x4 = .slice (some ⟨tb, 0, none⟩) 0 tc ∧ l = [] ∧ Inv C (Res.row 163 5 (.slice (some ⟨tb, 0, none⟩) 0 tc) 0 ([] : List Value) :: Res.row 28 4 (.slice oa (pre.length + 1) oc) (pre.length + 1) (lvC pre (some (x, nilS))) :: Res.cell b43 [.slice oa (pre.length + 1) oc, vI 0, vI 0, vN, vN] 163 :: Res.cell b6 [vI 5, vS [], vI 0, .slice v0 m vc] 28 :: Res.cell b2 [vI 0, vS [], vI 0, vN] 28 :: H) wr) ∨ (∃ (ca : Option Addr) (cc tb2 tc2 : Nat), x34 = vI ((pre.length + 1 : Nat) : Int) ∧ x4 = .slice (some ⟨tb2, 0, none⟩) 1 tc2 ∧ 0 < l.length ∧ Inv C (Res.row 163 5 (.slice (some ⟨tb2, 0, none⟩) 1 tc2) 1 [.slice ca l.length cc, vI 1, vI 2, .slice la l.length lc, .slice la l.length lc] :: Res.row 28 4 (.slice ca l.length cc) l.length (lvC l none) :: Res.row 28 4 (.slice oa (pre.length + 1) oc) (pre.length + 1) (lvC pre (some (x, .slice ca l.length cc))) :: Res.cell b43 [.slice oa (pre.length + 1) oc, vI 0, vI 0, vN, vN] 163 :: Res.cell b6 [vI 5, vS [], vI 0, .slice v0 m vc] 28 :: Res.cell b2 [vI 0, vS [], vI 0, vN] 28 :: H) wr)) (fun x34 x4 _ => (pre.length + 1) - (intOf x34).toNat)
   case atStart => exact .inl ⟨0, rfl, rfl, Nat.zero_le _, (((((hv.front 4 rfl).front 4 rfl).front 3 rfl).front 4 rfl).front 4 rfl)⟩
   case round =>
    rcases hrel with ⟨i, rfl, rfl, hi, hv⟩ | ⟨rfl, rfl, hl0, hv⟩ | ⟨ca, cc, tb2, tc2, rfl, rfl, h0, hv⟩
    ·refine sK fun _ k49 => rL (uG (.bool true) rfl (ex_lss rfl rfl rfl (qT (by omega))) ?_)
     refine uW k49 (sK fun _ k50 => ?_)
     refine cT rfl (kS ?_)
     refine tK k50 (sK fun _ k51 => ?_)
     refine bB (sK fun _ k52 => ?_)
     rcases (show i < pre.length ∨ i = pre.length by omega) with hip | rfl
     ·obtain ⟨q, hq⟩ : ∃ q, pre[i]? = some q := ⟨_, List.getElem?_eq_getElem (by omega)⟩
      have hv8 := hv
      clear hv
      obtain ⟨ob, h9⟩ := row_some (hv8.get 1 rfl) (by omega)
      subst h9
      have hv := hv8
      clear hv8
      refine rL (uM rfl ?_)
      refine uG (.pointer (some ⟨ob, 0 + i * 4, none⟩)) rfl (ex_index rfl rfl rfl (run_idx (k := i) Tryz.underlying26 rles26 (by omega))) ?_
      refine uL (.agg #[vI q.k, vS q.s, vI q.n, vN]) rfl (run_loadR (cs := [vI q.k, vS q.s, vI q.n, vN]) rswd28 (row_loads (hv.get 1 rfl) (k := i * 4) (Nat.zero_add _) (fun j hj => (lvC_pre hq hj).symm))) ?_
      refine sl_alloc tV (wn rfl) rfl hv rlal28 (fun b53 w54 hv => ?_)
      refine uA rfl ?_
      refine xS 0 rfl hv rssz28 rfl (by exact ⟨rfl, rfl, rfl, rfl, trivial⟩) (fun w55 hv => ?_)
      simp only [zO, sp] at hv
      refine uW k52 (sK fun _ k56 => ?_)
      refine rL (uF (vP b43) rfl (rlfa163_0 _ _ _) ?_)
      refine uL _ rfl (run_load1 rtna26 (hv.load 3 0 rfl rfl)) (uM rfl ?_)
      refine uG (.pointer (some ⟨ob, 0 + i * 4, none⟩)) rfl (ex_index rfl rfl rfl (run_idx (k := i) Tryz.underlying26 rles26 (by omega))) ?_
      refine uF (.pointer (some ⟨ob, 0 + i * 4 + 3, none⟩)) rfl (rtfa28_3 _ _ _) ?_
      replace hv := hv.front 2 rfl
      simp only [eS, eZ] at hv
      refine sl_storeRow (v := vN) tV (wn rfl) rfl rfl rfl hv rtsz26 (by rw [lvC_len1]; omega) rfl rfl (fun w57 hv => ?_)
      rw [show 0 + i * 4 + 3 = i * 4 + 3 by omega, lvC_set hq] at hv
      refine uW k56 (sK fun _ k58 => ?_)
      refine rL (uF (.pointer (some ⟨b43, 1, none⟩)) rfl (rlfa163_1 _ _ _) ?_)
      refine uL (.agg #[vI 0, vI 0, vN, vN]) rfl (lM 3 rlwd161 hv rfl rfl rfl rfl) ?_
      refine uF (.pointer (some ⟨b53, 3, none⟩)) rfl (rtfa28_3 _ _ _) ?_
      refine uL _ rfl (run_load1 rtna26 (hv.load 1 3 rfl rfl)) ?_
      refine uF (.pointer (some ⟨b53, 3, none⟩)) rfl (rtfa28_3 _ _ _) ?_
      refine uL _ rfl (run_load1 rtna26 (hv.load 1 3 rfl rfl)) ?_
      refine xC rlcallable78 rfl ((trailLeaf C _ _ 0 0 (vN) (vN) rfl rfl rfl rfl none 0 hv).mono ?_) rfl
      rintro e w59 ⟨rfl, hv⟩
      refine ⟨_, rfl, uM rfl ?_⟩
      refine uE rfl (uE rfl ?_)
      refine sl_alloc tV (wn rfl) rfl hv rlal161 (fun b60 w61 hv => ?_)
      simp only [zP, po]
      refine xS 0 rfl hv rlsz161 rfl (by exact ⟨rfl, rfl, rfl, rfl, trivial⟩) (fun w62 hv => ?_)
      simp only [zO, sp] at hv
      refine uA rfl (uW k58 ?_)
      refine sK fun _ k63 => rL (uM rfl ?_)
      refine uW k63 (cF rfl ?_)
      refine kS (bN ?_)
      refine tK k51 (rL ?_)
      refine uG (vI ((i + 1 : Nat) : Int)) rfl (ex_add rfl rfl rfl (by rw [i64_in (by omega)]; omega)) (uM rfl ?_)
      refine uZ (then_normal ?_)
      go_roundw
      case rel => exact .inl ⟨i + 1, rfl, rfl, by omega, (hv.kp [6, 6, 6, 4, 6] 5 2)⟩
      case measure => show (pre.length + 1) - (((i + 1 : Nat) : Int)).toNat < (pre.length + 1) - ((i : Int)).toNat; omega
     rcases Nat.eq_zero_or_pos l.length with h0 | h0
     ·obtain rfl : l = [] := List.eq_nil_of_length_eq_zero h0
      have hv8 := hv
      clear hv
      obtain ⟨ob, h9⟩ := row_some (hv8.get 1 rfl) (by omega)
      subst h9
      have hv := hv8
      clear hv8
      refine rL (uM rfl ?_)
      refine uG (.pointer (some ⟨ob, 0 + pre.length * 4, none⟩)) rfl (ex_index rfl rfl rfl (run_idx (k := pre.length) Tryz.underlying26 rles26 (by omega))) ?_
      refine uL (.agg #[vI x.k, vS x.s, vI x.n, .slice la 0 lc]) rfl (run_loadR (cs := [vI x.k, vS x.s, vI x.n, .slice la 0 lc]) rswd28 (row_loads (hv.get 1 rfl) (k := pre.length * 4) (Nat.zero_add _) (fun j hj => lvC_last.symm))) ?_
      refine sl_alloc tV (wn rfl) rfl hv rlal28 (fun b64 w65 hv => ?_)
      refine uA rfl ?_
      refine xS 0 rfl hv rssz28 rfl (by exact ⟨rfl, rfl, rfl, rfl, trivial⟩) (fun w66 hv => ?_)
      simp only [zO, sp] at hv
      refine uW k52 (sK fun _ k67 => ?_)
      refine rL (uF (vP b43) rfl (rlfa163_0 _ _ _) ?_)
      refine uL _ rfl (run_load1 rtna26 (hv.load 3 0 rfl rfl)) (uM rfl ?_)
      refine uG (.pointer (some ⟨ob, 0 + pre.length * 4, none⟩)) rfl (ex_index rfl rfl rfl (run_idx (k := pre.length) Tryz.underlying26 rles26 (by omega))) ?_
      refine uF (.pointer (some ⟨ob, 0 + pre.length * 4 + 3, none⟩)) rfl (rtfa28_3 _ _ _) ?_
      replace hv := hv.front 2 rfl
      simp only [eS, eZ] at hv
      refine sl_storeRow (v := vN) tV (wn rfl) rfl rfl rfl hv rtsz26 (by rw [lvC_len1]; omega) rfl rfl (fun w68 hv => ?_)
      rw [show 0 + pre.length * 4 + 3 = pre.length * 4 + 3 by omega, lvC_setl] at hv
      refine uW k67 (sK fun _ k69 => ?_)
      refine rL (uF (.pointer (some ⟨b43, 1, none⟩)) rfl (rlfa163_1 _ _ _) ?_)
      refine uL (.agg #[vI 0, vI 0, vN, vN]) rfl (lM 3 rlwd161 hv rfl rfl rfl rfl) ?_
      refine uF (.pointer (some ⟨b64, 3, none⟩)) rfl (rtfa28_3 _ _ _) ?_
      refine uL _ rfl (run_load1 rtna26 (hv.load 1 3 rfl rfl)) ?_
      refine uF (.pointer (some ⟨b64, 3, none⟩)) rfl (rtfa28_3 _ _ _) ?_
      refine uL _ rfl (run_load1 rtna26 (hv.load 1 3 rfl rfl)) ?_
      refine xC rlcallable78 rfl ((trailLeaf C _ _ 0 0 (vN) (vN) rfl rfl rfl rfl la lc hv).mono ?_) rfl
      rintro e w70 ⟨rfl, hv⟩
      refine ⟨_, rfl, uM rfl ?_⟩
      refine uE rfl (uE rfl ?_)
      refine sl_alloc tV (wn rfl) rfl hv rlal161 (fun b71 w72 hv => ?_)
      simp only [zP, po]
      refine xS 0 rfl hv rlsz161 rfl (by exact ⟨rfl, rfl, rfl, rfl, trivial⟩) (fun w73 hv => ?_)
      simp only [zO, sp] at hv
      refine uA rfl (uW k69 ?_)
      refine sK fun _ k74 => rL (uM rfl ?_)
      refine uW k74 (cF rfl ?_)
      refine kS (bN ?_)
      refine tK k51 (rL ?_)
      refine uG (vI ((pre.length + 1 : Nat) : Int)) rfl (ex_add rfl rfl rfl (by rw [i64_in (by omega)]; omega)) (uM rfl ?_)
      refine uZ (then_normal ?_)
      go_roundw
      case rel => exact .inr (.inl ⟨rfl, rfl, (by first | rfl | trivial), (hv.kp [6, 6, 6, 4, 6] 5 2)⟩)
      case measure => show (pre.length + 1) - (((pre.length + 1 : Nat) : Int)).toNat < (pre.length + 1) - ((pre.length : Int)).toNat; omega
     have hv8 := hv
     clear hv
     obtain ⟨ob, h9⟩ := row_some (hv8.get 1 rfl) (by omega)
     subst h9
     have hv := hv8
     clear hv8
     refine rL (uM rfl ?_)
     refine uG (.pointer (some ⟨ob, 0 + pre.length * 4, none⟩)) rfl (ex_index rfl rfl rfl (run_idx (k := pre.length) Tryz.underlying26 rles26 (by omega))) ?_
     refine uL (.agg #[vI x.k, vS x.s, vI x.n, .slice la l.length lc]) rfl (run_loadR (cs := [vI x.k, vS x.s, vI x.n, .slice la l.length lc]) rswd28 (row_loads (hv.get 1 rfl) (k := pre.length * 4) (Nat.zero_add _) (fun j hj => lvC_last.symm))) ?_
     refine sl_alloc tV (wn rfl) rfl hv rlal28 (fun b75 w76 hv => ?_)
     refine uA rfl ?_
     refine xS 0 rfl hv rssz28 rfl (by exact ⟨rfl, rfl, rfl, rfl, trivial⟩) (fun w77 hv => ?_)
     simp only [zO, sp] at hv
     refine uW k52 (sK fun _ k78 => ?_)
     refine rL (uF (vP b43) rfl (rlfa163_0 _ _ _) ?_)
     refine uL _ rfl (run_load1 rtna26 (hv.load 3 0 rfl rfl)) (uM rfl ?_)
     refine uG (.pointer (some ⟨ob, 0 + pre.length * 4, none⟩)) rfl (ex_index rfl rfl rfl (run_idx (k := pre.length) Tryz.underlying26 rles26 (by omega))) ?_
     refine uF (.pointer (some ⟨ob, 0 + pre.length * 4 + 3, none⟩)) rfl (rtfa28_3 _ _ _) ?_
     replace hv := hv.front 2 rfl
     simp only [eS, eZ] at hv
     refine sl_storeRow (v := vN) tV (wn rfl) rfl rfl rfl hv rtsz26 (by rw [lvC_len1]; omega) rfl rfl (fun w79 hv => ?_)
     rw [show 0 + pre.length * 4 + 3 = pre.length * 4 + 3 by omega, lvC_setl] at hv
     refine uW k78 (sK fun _ k80 => ?_)
     refine rL (uF (.pointer (some ⟨b43, 1, none⟩)) rfl (rlfa163_1 _ _ _) ?_)
     refine uL (.agg #[vI 0, vI 0, vN, vN]) rfl (lM 3 rlwd161 hv rfl rfl rfl rfl) ?_
     refine uF (.pointer (some ⟨b75, 3, none⟩)) rfl (rtfa28_3 _ _ _) ?_
     refine uL _ rfl (run_load1 rtna26 (hv.load 1 3 rfl rfl)) ?_
     refine uF (.pointer (some ⟨b75, 3, none⟩)) rfl (rtfa28_3 _ _ _) ?_
     refine uL _ rfl (run_load1 rtna26 (hv.load 1 3 rfl rfl)) ?_
     refine xC rlcallable78 rfl ((trailNew C _ _ la l.length lc h0 hv).mono ?_) rfl
     rintro e w81 ⟨rfl, hv⟩
     refine ⟨_, rfl, uM rfl ?_⟩
     refine uE rfl (uE rfl ?_)
     refine sl_alloc tV (wn rfl) rfl hv rlal161 (fun b82 w83 hv => ?_)
     simp only [zP, po]
     refine xS 0 rfl hv rlsz161 rfl (by exact ⟨rfl, rfl, rfl, rfl, trivial⟩) (fun w84 hv => ?_)
     simp only [zO, sp] at hv
     refine uA rfl (uW k80 ?_)
     refine sK fun _ k85 => rL (uM rfl ?_)
     refine uW k85 (cT rfl ?_)
     refine sK fun _ k86 => rW mixed [5, 8] [0,1,2,3,4,5,6,7,8] 76 rfl (by kernel_rfl) hv ?_
     simp only [qm, opAt]
     refine dG (vP b43) rfl (ex_field rfl rfl (rlfa163_0 _ _ _)) (dF _ rfl (fun hv => ex_load rfl rfl (run_load1 rtna26 (hv.load 4 0 rfl rfl))) fun f87 hf87 => ?_)
     refine dM (vI (pre.length : Int)) rfl ?_
     simp only [zP, po]
     refine dG (.pointer (some ⟨b75, 3, none⟩)) rfl (ex_field rfl rfl (rtfa28_3 _ _ _)) (dL _ rfl (fun hv => ex_load rfl rfl (run_load1 rtna26 (hv.load 2 3 rfl rfl))) ?_)
     refine dS rfl fun w88 hv => mC rlcallable77 rfl ((cloneRps C _ _ la l.length lc (lvC l none) hla (lvC_len0 l) (lvC_one fun p h => by cases h) hlm hrl hv).mono ?_) rfl
     rintro e w89 ⟨ca, cc, rfl, hv⟩
     refine ⟨_, rfl, dV hv (fC (fun ww hv => hf87 ww (ex_load rfl rfl (run_load1 rtna26 (hv.load 5 0 rfl rfl)))) fN) ?_⟩
     simp only [zP, po]
     refine dG (.pointer (some ⟨ob, 0 + pre.length * 4, none⟩)) rfl (ex_index rfl rfl rfl (run_idx (k := pre.length) Tryz.underlying26 rles26 (by omega))) (dG (.pointer (some ⟨ob, 0 + pre.length * 4 + 3, none⟩)) rfl (ex_field rfl rfl (rtfa28_3 _ _ _)) ?_)
     refine dS rfl fun w90 hv => ?_
     replace hv := hv.front 2 rfl
     simp only [eS, eZ] at hv
     refine mem_storeRow (v := .slice ca l.length cc) rfl rfl rfl rfl hv rtsz26 (by rw [lvC_len1]; omega) rfl rfl (fun w91 hv => ?_)
     rw [show 0 + pre.length * 4 + 3 = pre.length * 4 + 3 by omega, lvC_setl] at hv
     refine dV hv (fK rfl fN) (dE fun w92 hv => ?_)
     simp only [zP, po]
     refine tK k86 (rW mixed [9, 10] [0,1,2,3,4,5,6,7,8,9,10,11] 76 rfl (by kernel_rfl) hv ?_)
     simp only [qm, opAt]
     refine dM (.slice (some ⟨tb, 0, none⟩) 0 tc) rfl (dG (vP b43) rfl (ex_field rfl rfl (rlfa163_0 _ _ _)) ?_)
     refine dL _ rfl (fun hv => ex_load rfl rfl (run_load1 rtna26 (hv.load 5 0 rfl rfl))) ?_
     simp only [zP, po]
     refine dM (vI (pre.length : Int)) rfl (dG (.pointer (some ⟨ob, 0 + pre.length * 4, none⟩)) rfl (ex_index rfl rfl rfl (run_idx (k := pre.length) Tryz.underlying26 rles26 (by omega))) ?_)
     refine dG (.pointer (some ⟨ob, 0 + pre.length * 4 + 3, none⟩)) rfl (ex_field rfl rfl (rtfa28_3 _ _ _)) ?_
     simp only [zP, po]
     refine dL (.slice ca l.length cc) rfl (fun hv => ex_load rfl rfl (run_load1 rtna26 (by rw [Nat.add_assoc]; exact row_load (hv.get 0 rfl) lvC_last))) (dL (.agg #[vI 1, vI 2, .slice la l.length lc, .slice la l.length lc]) rfl (fun hv => ex_load rfl rfl (lM 2 rlwd161 hv rfl rfl rfl rfl)) ?_)
     refine dG (.agg #[.slice ca l.length cc, vI 1, vI 2, .slice la l.length lc, .slice la l.length lc]) rfl (ex_buildN (vs := #[(0, .slice ca l.length cc), (1, .agg #[vI 1, vI 2, .slice la l.length lc, .slice la l.length lc])]) rfl (by simp only [List.map_toArray, List.map_cons, List.map_nil]; rfl) (by kernel_rfl)) ?_
     simp only [zP, po]
     refine dS rfl fun w93 hv => mem_rowAgg (L := [.slice ca l.length cc, vI 1, vI 2, .slice la l.length lc, .slice la l.length lc]) rfl rfl rfl hv rlel164 rfl (by decide) (fun b94 w95 hv => ?_)
     refine dW hv (dS rfl fun w96 hv => ?_)
     replace hv := hv.front 5 rfl
     simp only [eS, eZ] at hv
     refine mem_append (news := [.slice ca l.length cc, vI 1, vI 2, .slice la l.length lc, .slice la l.length lc]) rfl rfl rfl rfl rlel164 hv (ok_full (by omega)) rfl (rd_all (hv.get 1 rfl)) (by intro u hu; simp only [List.mem_cons, List.not_mem_nil, or_false] at hu; rcases hu with rfl | rfl | rfl | rfl | rfl <;> rfl) (by unfold maxLen; omega) (by omega) (fun rv97 w100 hv => ?_)
     obtain ⟨ra98, rc99, rfl⟩ := row_slice hv.head
     refine dW hv (dA (.slice ra98 (0 + 1) rc99) rfl ?_)
     refine dE fun w101 hv => ?_
     simp only [zP, po]
     refine bN (tK k51 ?_)
     refine rL (uG (vI ((pre.length + 1 : Nat) : Int)) rfl (ex_add rfl rfl rfl (by rw [i64_in (by omega)]; omega)) ?_)
     refine uM rfl (uZ ?_)
     refine then_normal ?_
     go_roundw
     case rel => (obtain ⟨tb9, h9⟩ := row_some (hv.get 0 rfl) (by omega); subst h9; exact .inr (.inr ⟨ca, cc, tb9, _, rfl, rfl, h0, (hv.kp [8, 8, 8, 5, 6, 5] 6 3)⟩))
     case measure => show (pre.length + 1) - (((pre.length + 1 : Nat) : Int)).toNat < (pre.length + 1) - ((pre.length : Int)).toNat; omega
    ·refine sK fun _ k102 => rL (uG (.bool false) rfl (ex_lss rfl rfl rfl (qF (by omega))) ?_)
     refine uW k102 (sK fun _ k103 => ?_)
     refine cF rfl (xE ?_)
     refine tX (tX ?_)
     refine bH (bN ?_)
     refine then_normal ?_
     go_roundw
     case rel => (obtain ⟨D, hD, hv, hro, hoko, -⟩ := ((hv.kp [4, 4, 3] 3 2)).rowBy; exact ⟨v0, vc, .inr (.inr ⟨D, _, _, rfl, hC.trans hD, hfin D hD nilS (by rw [hl0]; exact ⟨none, 0, rfl, ⟨Nat.le_refl _, Nat.zero_le _, fun _ => rfl⟩, rdV_nil⟩) ⟨oa, oc, rfl, hoko, hro⟩, hv⟩)⟩)
     case measure => (rw [lvMu0]; omega)
    refine sK fun _ k104 => rL (uG (.bool false) rfl (ex_lss rfl rfl rfl (qF (by omega))) ?_)
    refine uW k104 (sK fun _ k105 => ?_)
    refine cF rfl (xE ?_)
    refine tX (tX ?_)
    refine bH (bN ?_)
    refine then_normal ?_
    go_roundw
    case rel => (obtain ⟨D, hD, hv, hro, hoko, -⟩ := ((hv.kp [5, 5, 3, 3, 4] 5 1)).rowBy; exact ⟨v0, vc, .inl ⟨D, l, ca, cc, tb2, tc2, 1, 2, _, _, rfl, hC.trans hD, ⟨hlm, rfl, rfl, rfl, rfl⟩, fun E hE h9 => hfin E (hD.trans hE) (.slice ca l.length cc) h9 ⟨oa, oc, rfl, hoko, hro.more hE (fun _ h => h)⟩, hv⟩⟩)
    case measure => (rw [hmu]; exact lvMu3 (row_load (hv.get 0 rfl) rfl))
  refine sK fun _ k106 => sK fun _ k107 => rL (uM rfl ?_)
  refine uG (vI 0) rfl (ex_len0 Tryz.underlying164 rfl rfl) ?_
  refine uG (.bool false) rfl (ex_gtr rfl rfl rfl (by decide)) (uW k107 ?_)
  refine cF rfl (xE ?_)
  refine tX (tX ?_)
  refine bH (tK k12 ?_)
  refine sK fun _ k108 => rL (uL (.agg #[vI 5, vS [], vI 0, .slice v0 m vc]) rfl (lM 0 rswd28 hv rfl rfl rfl rfl) ?_)
  refine xS 1 rfl hv rssz28 rfl (by exact ⟨rfl, rfl, rfl, rfl, trivial⟩) (fun w109 hv => ?_)
  simp only [zS, zO, sp] at hv
  refine uW k108 (rR ?_)
  refine bC 1 rswd28 hv rfl rfl rfl rfl (⟨C, _, hC, rfl, hat, (hv.kp [] 0 2)⟩)
end Go.Proofs.YtffnhfkkochnhaaGreatDoor
namespace Go.Pm
open Go.RowKit
theorem RdV.shift {B : Base} {H : List Res} {b off : Nat} {xs : List Value} (h : RdV B H (some ⟨b, off, none⟩) xs) (k : Nat) : RdV B H (some ⟨b, off + k, none⟩) (xs.drop k) := fun i hi => by
 rw [List.length_drop] at hi
 obtain ⟨b', off', h1, h2⟩ := h (k + i) (by omega)
 cases h1
 refine ⟨b, off + k, rfl, ?_⟩
 rw [List.getElem_drop, Nat.add_assoc]
 exact h2
theorem rdV_nil_any (B : Base) (ad : Option Addr) : RdV B [] ad [] := fun i hi => by simp at hi
theorem sliced_rdV {B : Base} {ad : Option Addr} {n c k : Nat} {xs : List Value} (size : Nat) (hr : RdV B [] ad xs) (hl : xs.length = n * size) (hn : n ≤ c) (hk : k ≤ n) (hz : 0 < size) : ∃ a2, sliced ad k n c size = .slice a2 (n - k) (c - k) ∧ RdV B [] a2 (xs.drop (k * size)) := by
 rcases Nat.lt_or_ge k n with h | h
 ·have h1 : 0 < xs.length := by rw [hl]; exact Nat.mul_pos (by omega) hz
  obtain ⟨b, off, rfl, -⟩ := hr 0 h1
  refine ⟨some ⟨b, off + k * size, none⟩, ?_, hr.shift _⟩
  unfold sliced
  rw [if_neg (by omega), Option.map_some, addr_add]
 obtain rfl : k = n := by omega
 have hd : xs.drop (k * size) = [] := List.drop_of_length_le (by omega)
 refine ⟨_, rfl, ?_⟩
 rw [hd]
 exact rdV_nil_any _ _
section
variable {M : Model} {key : List UInt8} {l : List Ver} {k : Nat} {ok : Bool}
end
theorem sliced_fromV {B : Base} {ad : Option Addr} {n c k : Nat} {xs : List Value} (size : Nat) (hok : SliceOk ad n c) (hr : RdV B [] ad xs) (hl : xs.length = n * size) (hk : k ≤ n) (hz : 0 < size) : ∃ a2 c2, sliced ad k n c size = .slice a2 (n - k) c2 ∧ SliceOk a2 (n - k) c2 ∧ RdV B [] a2 (xs.drop (k * size)) := by
 have hle := hok.le
 have hmx := hok.max
 rcases Nat.lt_or_ge k n with h | h
 ·obtain ⟨a2, h1, h2⟩ := sliced_rdV size hr hl hle hk hz
  refine ⟨a2, c - k, h1, ⟨by omega, by unfold maxLen at hmx ⊢; omega, fun e => ?_⟩, h2⟩
  subst e
  have hlt : 0 < (xs.drop (k * size)).length := by
   rw [List.length_drop, hl]
   have := Nat.mul_lt_mul_of_pos_right h hz
   omega
  obtain ⟨b, off, h3, -⟩ := h2 0 hlt
  cases h3
 obtain rfl : k = n := by omega
 have hd : xs.drop (k * size) = [] := List.drop_of_length_le (by omega)
 rw [hd]
 unfold sliced
 by_cases hc : c = k
 ·rw [if_pos hc]
  exact ⟨ad, c - k, rfl, ⟨by omega, by unfold maxLen at hmx ⊢; omega, fun _ => by omega⟩, rdV_nil_any _ _⟩
 rw [if_neg hc]
 refine ⟨_, c - k, rfl, ⟨by omega, by unfold maxLen at hmx ⊢; omega, fun e => ?_⟩, rdV_nil_any _ _⟩
 cases ad with
 | none => have := hok.nil rfl; omega
 | some a => cases e
section
variable {P : Program} {t : TypeId} {w : World}
end
section
variable {P : Program} {a : Act} {w : World} {o : Oper} {t : TypeId} {x y : Operand} {l : List UInt8}
theorem ex_sidx0 {i : Nat} {c : UInt8} (ht : P.underlying t = some .string) (ho : o.op = .index t x y) (hx : a.eval x = .string ⟨l.toArray⟩) (hy : a.eval y = .int .i64 (i : Int)) (hc : l[i]? = some c) : Ex P a o w (.int .u8 (c.toNat : Int)) w := by
 obtain ⟨hi, rfl⟩ := List.getElem?_eq_some_iff.1 hc
 have h := run_index_string (P := P) w t ⟨l.toArray⟩ .i64 (i : Int) ht
 rw [dif_pos ⟨by omega, by show (i : Int) < (l.length : Int); omega⟩] at h
 have e : (⟨l.toArray⟩ : ByteArray)[((i : Int)).toNat]'(by show ((i : Int)).toNat < l.length; omega) = l[i] := rfl
 rw [e] at h
 unfold Ex
 simp [execOp, ho, hx, hy, h]
end
section
variable {a b : List UInt8} {i : Nat}
end
end Go.Pm
namespace Go.Proofs.YtffnhfkkochnhaaGreatDoor
open Go.RowKit Go.Pm
def lowZ (n : Int) : Int := if 65 ≤ n ∧ n ≤ 90 then n + 32 else n
def SameC (x arg : List UInt8) : Prop := x.length = arg.length ∧ ∀ (k : Nat) (a b : UInt8), x[k]? = some a → arg[k]? = some b → lowZ (a.toNat : Int) = lowZ (b.toNat : Int)
def IsI (arg : List UInt8) (ws : List (List UInt8)) (r : Int) : Prop := (r = -1 ∧ ∀ x ∈ ws, ¬ SameC x arg) ∨ ∃ (i : Nat) (x : List UInt8), r = (i : Int) ∧ ws[i]? = some x ∧ SameC x arg ∧ ∀ (j : Nat) y, j < i → ws[j]? = some y → ¬ SameC y arg
theorem viewLow (B : Base) (H : List Res) (w : World) (n : Int) (h0 : 0 ≤ n) (h1 : n ≤ 255) (hv : Inv B H w) :
  Calls Tryz.prog 101 #[.int .u8 n] w fun e w' => e = .returned (.int .u8 (lowZ n)) ∧ Inv B H w' := by
 refine cW Tryz.func101 rfl Tryz.ntmps101 ?_
 simp only [al]
 refine sK fun _ k1 => rL (uA rfl ?_)
 refine uW k1 (sK fun _ k2 => ?_)
 refine sK fun _ k3 => rL (uM rfl ?_)
 by_cases hb4 : 65 ≤ n
 ·refine uG (.bool true) rfl (ex_leq rfl rfl rfl (qT hb4)) (uM rfl ?_)
  refine uM rfl ?_
  by_cases hb5 : n ≤ 90
  ·refine uG (.bool true) rfl (ex_leq rfl rfl rfl (qT hb5)) (uK rfl ?_)
   refine uW k3 (cT rfl ?_)
   refine sK fun _ k6 => rL (uM rfl ?_)
   refine uG (.int .u8 (n + 97)) rfl (ex_add rfl rfl rfl (u8_in (by omega))) ?_
   refine uG (.int .u8 (n + 32)) rfl (ex_sub rfl rfl rfl (by rw [u8_in (by omega)]; omega)) (uA rfl ?_)
   refine uW k6 (rR ?_)
   refine tR (bR rfl rfl ?_)
   exact ⟨congrArg (fun n : Int => Ending.returned (Value.int .u8 n)) (by unfold lowZ; split <;> omega), hv⟩
  refine uG (.bool false) rfl (ex_leq rfl rfl rfl (qF hb5)) (uK rfl ?_)
  refine uW k3 (cF rfl ?_)
  refine kS (tK k2 ?_)
  refine sK fun _ k7 => rL (uM rfl ?_)
  refine uA rfl (uW k7 ?_)
  refine rR (bR rfl rfl ?_)
  exact ⟨congrArg (fun n : Int => Ending.returned (Value.int .u8 n)) (by unfold lowZ; split <;> omega), hv⟩
 refine uG (.bool false) rfl (ex_leq rfl rfl rfl (qF hb4)) (uM rfl ?_)
 refine uP rfl ?_
 refine uP rfl (uK rfl ?_)
 refine uW k3 (cF rfl ?_)
 refine kS (tK k2 ?_)
 refine sK fun _ k8 => rL (uM rfl ?_)
 refine uA rfl (uW k8 ?_)
 refine rR (bR rfl rfl ?_)
 exact ⟨congrArg (fun n : Int => Ending.returned (Value.int .u8 n)) (by unfold lowZ; split <;> omega), hv⟩
theorem v5callable101 : Callable Tryz.prog 101 := cb Tryz.func101 (by kernel_rfl)
theorem viewIs (B : Base) (H : List Res) (w : World) (arg : List UInt8) (ka : Option Addr) (kc : Nat) (ws : List (List UInt8)) (hr : RdV B [] ka (textCells ws)) (hm : ws.length ≤ 1000000) (hma : arg.length ≤ 9223372036854775807) (hv : Inv B H w) :
  Calls Tryz.prog 94 #[vS arg, .slice ka ws.length kc] w fun e w' => ∃ r : Int, e = .returned (vI r) ∧ IsI arg ws r ∧ Inv B H w' := by
 refine cW Tryz.func94 rfl Tryz.ntmps94 ?_
 simp only [al]
 refine sK fun _ k1 => rL (uA rfl ?_)
 refine uW k1 (wpIn_scopeW ?_)
 refine sK fun _ k2 => wpIn_label (tK k2 ?_)
 refine sK fun _ k3 => sK fun _ k4 => rL (uM rfl ?_)
 refine uG (vI (ws.length : Int)) rfl (ex_len0 Tryz.underlying22 rfl rfl) (uM rfl ?_)
 refine uW k4 (bB ?_)
 gi_loopw [10] (fun x10 wr => ∃ (i : Nat), x10 = vI i ∧ i ≤ ws.length ∧ (∀ (j : Nat) y, j < i → ws[j]? = some y → ¬ SameC y arg) ∧ Inv B H wr) (fun x10 _ => ws.length - (intOf x10).toNat)
 case atStart => exact ⟨0, rfl, Nat.zero_le _, fun j y h => by omega, hv⟩
 case round =>
  obtain ⟨i, rfl, hi, hno, hv⟩ := hrel
  refine sK fun _ k6 => rL ?_
  by_cases hb7 : (i : Int) < (ws.length : Int)
  ·refine uG (.bool true) rfl (ex_lss rfl rfl rfl (qT hb7)) (uW k6 ?_)
   refine sK fun _ k8 => cT rfl (kS ?_)
   refine tK k8 (sK fun _ k9 => ?_)
   refine bB (sK fun _ k10 => ?_)
   obtain ⟨x, hx⟩ : ∃ x, ws[i]? = some x := ⟨_, List.getElem?_eq_getElem (show i < ws.length by omega)⟩
   obtain ⟨bb, bo, had, hrdx⟩ := text_reads hr hx
   subst had
   refine rL (uM rfl ?_)
   refine uG (.pointer (some ⟨bb, bo + i, none⟩)) rfl (ex_index rfl rfl rfl (run_idx1 (k := i) Tryz.underlying22 s9es22 (by omega))) ?_
   refine uL _ rfl (run_load1 s9na9 (hrdx _ _ _ (Base.Le.refl _) no_res hv 0 _ rfl)) (uA rfl ?_)
   refine uA rfl (uW k10 ?_)
   refine sK fun _ k11 => sK fun _ k12 => rL (uM rfl ?_)
   refine uG (vI (x.length : Int)) rfl (ex_lenStr Tryz.underlying9 rfl rfl) (uM rfl ?_)
   refine uG (vI (arg.length : Int)) rfl (ex_lenStr Tryz.underlying9 rfl rfl) ?_
   by_cases hb13 : (x.length : Int) ≠ (arg.length : Int)
   ·refine uG (.bool true) rfl (ex_neq rfl rfl rfl (qT hb13)) (uW k12 ?_)
    refine cT rfl (xE ?_)
    refine tX (bH ?_)
    refine tK k9 (rL ?_)
    refine uG (vI ((i + 1 : Nat) : Int)) rfl (ex_add rfl rfl rfl (by rw [i64_in (by omega)]; omega)) (uM rfl ?_)
    refine uZ (then_normal ?_)
    go_roundw
    case rel => exact ⟨i + 1, rfl, by omega, fun j9 y9 hj9 hy9 => (by
       rcases Nat.lt_or_ge j9 i with h | h
       ·exact hno j9 y9 h hy9
       obtain rfl : j9 = i := by omega
       rw [hx] at hy9; cases hy9
       exact fun h => by have h9 := h.1; omega), hv⟩
    case measure => show ws.length - (((i + 1 : Nat) : Int)).toNat < ws.length - ((i : Int)).toNat; omega
   refine uG (.bool false) rfl (ex_neq rfl rfl rfl (qF hb13)) (uW k12 ?_)
   refine cF rfl (kS ?_)
   refine tK k11 (sK fun _ k14 => ?_)
   refine sK fun _ k15 => rL (uM rfl ?_)
   refine uG (vI (x.length : Int)) rfl (ex_lenStr Tryz.underlying9 rfl rfl) (uM rfl ?_)
   refine uW k15 (bB ?_)
   gi_loopw [22] (fun x22 wr => ∃ (j : Nat), x22 = vI j ∧ j ≤ x.length ∧ (∀ (k : Nat) (a b : UInt8), k < j → x[k]? = some a → arg[k]? = some b → lowZ (a.toNat : Int) = lowZ (b.toNat : Int)) ∧ Inv B H wr) (fun x22 _ => x.length - (intOf x22).toNat)
   case atStart => exact ⟨0, rfl, Nat.zero_le _, fun k a b h => by omega, hv⟩
   case round =>
    obtain ⟨j, rfl, hj, heq, hv⟩ := hrel
    refine sK fun _ k17 => rL ?_
    by_cases hb18 : (j : Int) < (x.length : Int)
    ·refine uG (.bool true) rfl (ex_lss rfl rfl rfl (qT hb18)) (uW k17 ?_)
     refine sK fun _ k19 => cT rfl (kS ?_)
     refine tK k19 (sK fun _ k20 => ?_)
     refine bB (sK fun _ k21 => ?_)
     refine rL (uM rfl ?_)
     refine uA rfl (uW k21 ?_)
     refine sK fun _ k22 => ?_
     obtain ⟨a, ha⟩ : ∃ y, x[j]? = some y := ⟨_, List.getElem?_eq_getElem (show j < x.length by omega)⟩
     obtain ⟨b, hb⟩ : ∃ y, arg[j]? = some y := ⟨_, List.getElem?_eq_getElem (show j < arg.length by omega)⟩
     refine rW mixed [3, 7] [0,1,2,4,5,6,3,7,8] 37 rfl (by kernel_rfl) hv ?_
     simp only [qm, opAt]
     refine dM (vS x) rfl (dM (vI j) rfl ?_)
     refine dG (.int .u8 (a.toNat : Int)) rfl (ex_sidx0 Tryz.underlying9 rfl rfl rfl ha) ?_
     simp only [zP, po]
     refine dM (vS arg) rfl (dM (vI j) rfl ?_)
     refine dG (.int .u8 (b.toNat : Int)) rfl (ex_sidx0 Tryz.underlying9 rfl rfl rfl hb) ?_
     simp only [zP, po]
     refine dS rfl fun w23 hv => mC v5callable101 rfl ((viewLow B _ _ (a.toNat : Int) (by omega) (by have := a.toNat_lt; omega) hv).mono ?_) rfl
     rintro e w24 ⟨rfl, hv⟩
     refine ⟨_, rfl, dW hv ?_⟩
     refine dS rfl fun w25 hv => mC v5callable101 rfl ((viewLow B _ _ (b.toNat : Int) (by omega) (by have := b.toNat_lt; omega) hv).mono ?_) rfl
     rintro e w26 ⟨rfl, hv⟩
     refine ⟨_, rfl, dW hv ?_⟩
     by_cases hb27 : (lowZ (a.toNat : Int)) ≠ (lowZ (b.toNat : Int))
     ·refine dG (.bool true) rfl (ex_neq rfl rfl rfl (qT hb27)) (dE fun w28 hv => ?_)
      simp only [zP, po]
      refine tK k22 (cT rfl ?_)
      refine xE (bM rfl ?_)
      refine tX (tX ?_)
      refine bM rfl (tX ?_)
      refine bH (tK k9 ?_)
      refine rL (uG (vI ((i + 1 : Nat) : Int)) rfl (ex_add rfl rfl rfl (by rw [i64_in (by omega)]; omega)) ?_)
      refine uM rfl (uZ ?_)
      refine then_normal ?_
      go_roundw
      case rel => exact ⟨i + 1, rfl, by omega, fun j9 y9 hj9 hy9 => (by
         rcases Nat.lt_or_ge j9 i with h | h
         ·exact hno j9 y9 h hy9
         obtain rfl : j9 = i := by omega
         rw [hx] at hy9; cases hy9
         exact fun h => hb27 (h.2 j a b ha hb)), hv⟩
      case measure => show ws.length - (((i + 1 : Nat) : Int)).toNat < ws.length - ((i : Int)).toNat; omega
     refine dG (.bool false) rfl (ex_neq rfl rfl rfl (qF hb27)) (dE fun w29 hv => ?_)
     simp only [zP, po]
     refine tK k22 (cF rfl ?_)
     refine kS (bN ?_)
     refine tK k20 (rL ?_)
     refine uG (vI ((j + 1 : Nat) : Int)) rfl (ex_add rfl rfl rfl (by rw [i64_in (by omega)]; omega)) (uM rfl ?_)
     refine uZ (then_normal ?_)
     go_roundw
     case rel => exact ⟨j + 1, rfl, by omega, fun k9 a9 b9 hk9 ha9 hb9 => (by
        rcases Nat.lt_or_ge k9 j with h | h
        ·exact heq k9 a9 b9 h ha9 hb9
        obtain rfl : k9 = j := by omega
        rw [ha] at ha9; cases ha9
        rw [hb] at hb9; cases hb9
        omega), hv⟩
     case measure => show x.length - (((j + 1 : Nat) : Int)).toNat < x.length - ((j : Int)).toNat; omega
    refine uG (.bool false) rfl (ex_lss rfl rfl rfl (qF hb18)) (uW k17 ?_)
    refine sK fun _ k30 => cF rfl (xE ?_)
    refine tX (tX ?_)
    refine bH (tK k14 ?_)
    refine sK fun _ k31 => rL (uM rfl ?_)
    refine uA rfl (uW k31 ?_)
    refine rR (bZ ?_)
    refine tR (tR ?_)
    refine bZ (tR ?_)
    refine scope_ret (bR rfl rfl ?_)
    exact ⟨_, rfl, .inr ⟨i, x, rfl, hx, ⟨by omega, fun k9 a9 b9 ha9 hb9 => heq k9 a9 b9 (by have := (List.getElem?_eq_some_iff.1 ha9).1; omega) ha9 hb9⟩, hno⟩, hv⟩
  refine uG (.bool false) rfl (ex_lss rfl rfl rfl (qF hb7)) (uW k6 ?_)
  refine sK fun _ k32 => cF rfl (xE ?_)
  refine tX (tX ?_)
  refine bH (tK k3 ?_)
  refine sK fun _ k33 => rL (uA rfl ?_)
  refine uW k33 (rR ?_)
  refine scope_ret (bR rfl rfl ?_)
  obtain rfl : i = ws.length := by omega
  exact ⟨_, rfl, .inl ⟨rfl, fun y hy => (by obtain ⟨j9, hj9⟩ := List.mem_iff_getElem?.1 hy; exact hno j9 y (List.getElem?_eq_some_iff.1 hj9).1 hj9)⟩, hv⟩
end Go.Proofs.YtffnhfkkochnhaaGreatDoor
namespace Go.Pm
abbrev W64 := List (BitVec 64)
def w0 : W64 := [0#64, 0#64, 0#64, 0#64]
def addW (s : W64) (c : Nat) : W64 := s.set (c / 64) (s.getD (c / 64) 0#64 ||| (1#64 <<< (c % 64)))
def addUpto (s : W64) (lo n : Nat) : W64 := (List.range n).foldl (fun s i => addW s (lo + i)) s
def addRangeW (s : W64) (a b : Nat) : W64 := addUpto s (min a b) (max a b - min a b + 1)
def invW (s : W64) : W64 := s.map (fun x => ~~~ x)
def hasW (s : W64) (c : Nat) : Bool := decide (((s.getD (c / 64) 0#64) >>> (c % 64)) &&& 1#64 = 1#64)
theorem addW_len {s : W64} {c : Nat} : (addW s c).length = s.length := by unfold addW; rw [List.length_set]
theorem addUpto_succ {s : W64} {lo n : Nat} : addUpto s lo (n + 1) = addW (addUpto s lo n) (lo + n) := by
 unfold addUpto; rw [List.range_succ, List.foldl_append]; rfl
theorem addUpto_len {s : W64} {lo n : Nat} : (addUpto s lo n).length = s.length := by
 induction n with
 | zero => rfl
 | succ n ih => rw [addUpto_succ, addW_len, ih]
theorem invW_len {s : W64} : (invW s).length = s.length := List.length_map _
structure Part where
 star : Bool
 ws : W64
def starP : Part := ⟨true, w0⟩
def oneP (c : Nat) : Part := ⟨false, addW w0 c⟩
def anyP : Part := ⟨false, invW w0⟩
section
variable (p : List UInt8)
def chr (i : Nat) : Nat := (p.getD i 0).toNat
def litS (i : Nat) : Nat × Nat := if chr p i = 92 ∧ i + 1 < p.length then (chr p (i + 1), i + 2) else (chr p i, i + 1)
theorem litS_gt (i : Nat) : i < (litS p i).2 := by unfold litS; split <;> simp <;> omega
theorem litS_le {i : Nat} (h : i < p.length) : (litS p i).2 ≤ p.length := by unfold litS; split <;> simp <;> omega
def highS (i : Nat) (lo : Nat) : Nat × Nat := if i + 1 < p.length ∧ chr p i = 45 ∧ chr p (i + 1) ≠ 93 then litS p (i + 1) else (lo, i)
theorem highS_ge (i lo : Nat) : i ≤ (highS p i lo).2 := by
 unfold highS; split
 ·have := litS_gt p (i + 1); omega
 simp
theorem highS_le {i lo : Nat} (h : i ≤ p.length) : (highS p i lo).2 ≤ p.length := by
 unfold highS; split
 ·exact litS_le p (by omega)
 simpa using h
def classS (neg : Bool) (first i : Nat) (ws : W64) : Option (W64 × Nat) :=
 if h : i < p.length then
  if chr p i = 93 ∧ first < i then some (if neg then invW ws else ws, i + 1)
  else classS neg first (highS p (litS p i).2 (litS p i).1).2 (addRangeW ws (litS p i).1 (highS p (litS p i).2 (litS p i).1).1)
 else none
termination_by p.length - i
decreasing_by
 have h1 := litS_gt p i
 have h2 := highS_ge p (litS p i).2 (litS p i).1
 omega
theorem classS_end {neg : Bool} {first i : Nat} {ws : W64} (h : ¬ i < p.length) : classS p neg first i ws = none := by rw [classS, dif_neg h]
theorem classS_close {neg : Bool} {first i : Nat} {ws : W64} (h : i < p.length) (h2 : chr p i = 93 ∧ first < i) : classS p neg first i ws = some (if neg then invW ws else ws, i + 1) := by rw [classS, dif_pos h, if_pos h2]
theorem classS_step {neg : Bool} {first i : Nat} {ws : W64} (h : i < p.length) (h2 : ¬ (chr p i = 93 ∧ first < i)) : classS p neg first i ws = classS p neg first (highS p (litS p i).2 (litS p i).1).2 (addRangeW ws (litS p i).1 (highS p (litS p i).2 (litS p i).1).1) := by rw [classS, dif_pos h, if_neg h2]
def clsS (i : Nat) : Option (W64 × Nat) := if chr p i = 94 ∧ i < p.length then classS p true (i + 1) (i + 1) w0 else classS p false i i w0
theorem classS_le : ∀ (n : Nat) {neg : Bool} {first i : Nat} {ws : W64} {r : W64 × Nat}, p.length - i ≤ n → classS p neg first i ws = some r → i < r.2 ∧ r.2 ≤ p.length := by
 intro n
 induction n with
 | zero => intro neg first i ws r hn h; rw [classS_end p (by omega)] at h; cases h
 | succ n ih =>
  intro neg first i ws r hn h
  by_cases hi : i < p.length
  ·by_cases hc : chr p i = 93 ∧ first < i
   ·rw [classS_close p hi hc] at h; cases h; exact ⟨by simp, by simp; omega⟩
   rw [classS_step p hi hc] at h
   have h1 := litS_gt p i
   have h2 := highS_ge p (litS p i).2 (litS p i).1
   have := ih (by omega) h
   omega
  rw [classS_end p hi] at h; cases h
theorem clsS_le {i : Nat} {r : W64 × Nat} (h : clsS p i = some r) : i < r.2 ∧ r.2 ≤ p.length := by
 unfold clsS at h
 split at h
 ·have := classS_le p _ (Nat.le_refl _) h; omega
 exact classS_le p _ (Nat.le_refl _) h
def divS (ended : Bool) (i : Nat) : List Part :=
 if h : i < p.length then
  if chr p i = 42 then starP :: divS ended (i + 1)
  else if chr p i = 63 then anyP :: divS ended (i + 1)
  else if chr p i = 91 ∧ ended = true then
   match hc : clsS p (i + 1) with
   | some (ws, j) => ⟨false, ws⟩ :: divS ended j
   | none => oneP (chr p i) :: divS false (i + 1)
  else if chr p i = 92 ∧ i + 1 < p.length then oneP (chr p (i + 1)) :: divS ended (i + 2)
  else oneP (chr p i) :: divS ended (i + 1)
 else []
termination_by p.length - i
decreasing_by
 all_goals first
  | omega
  | (have := clsS_le p hc; simp at this; omega)
section
variable {p} {ended : Bool} {i : Nat}
theorem divS_end (h : ¬ i < p.length) : divS p ended i = [] := by rw [divS, dif_neg h]
theorem divS_star (h : i < p.length) (h1 : chr p i = 42) : divS p ended i = starP :: divS p ended (i + 1) := by rw [divS, dif_pos h, if_pos h1]
theorem divS_any (h : i < p.length) (h1 : chr p i = 63) : divS p ended i = anyP :: divS p ended (i + 1) := by rw [divS, dif_pos h, if_neg (by omega), if_pos h1]
theorem divS_class (h : i < p.length) (h1 : chr p i = 91) (h2 : ended = true) {ws : W64} {j : Nat} (hc : clsS p (i + 1) = some (ws, j)) : divS p ended i = ⟨false, ws⟩ :: divS p ended j := by
 rw [divS, dif_pos h, if_neg (by omega), if_neg (by omega), if_pos ⟨h1, h2⟩]
 split
 ·rename_i ws' j' h9; rw [hc] at h9; cases h9; rfl
 rename_i h9; rw [hc] at h9; cases h9
theorem divS_none (h : i < p.length) (h1 : chr p i = 91) (h2 : ended = true) (hc : clsS p (i + 1) = none) : divS p ended i = oneP (chr p i) :: divS p false (i + 1) := by
 rw [divS, dif_pos h, if_neg (by omega), if_neg (by omega), if_pos ⟨h1, h2⟩]
 split
 ·rename_i ws' j' h9; rw [hc] at h9; cases h9
 rfl
theorem divS_quote (h : i < p.length) (h1 : chr p i = 92) (h2 : i + 1 < p.length) : divS p ended i = oneP (chr p (i + 1)) :: divS p ended (i + 2) := by
 rw [divS, dif_pos h, if_neg (by omega), if_neg (by omega), if_neg (fun h => by omega), if_pos ⟨h1, h2⟩]
theorem divS_one (h : i < p.length) (h1 : chr p i ≠ 42) (h2 : chr p i ≠ 63) (h3 : ¬ (chr p i = 91 ∧ ended = true)) (h4 : ¬ (chr p i = 92 ∧ i + 1 < p.length)) : divS p ended i = oneP (chr p i) :: divS p ended (i + 1) := by
 rw [divS, dif_pos h, if_neg h1, if_neg h2, if_neg h3, if_neg h4]
end
end
theorem chr_at {p : List UInt8} {i : Nat} {c : UInt8} (h : p[i]? = some c) : chr p i = c.toNat := by
 unfold chr; rw [List.getD_eq_getElem?_getD, h]; rfl
def MatchP : List Part → List UInt8 → Prop
 | [], s => s = []
 | p :: ps, s => if p.star = true then ∃ k, k ≤ s.length ∧ MatchP ps (s.drop k) else ∃ c t, s = c :: t ∧ hasW p.ws c.toNat = true ∧ MatchP ps t
section
variable {q : List Part} {s : List UInt8}
theorem matchP_star {n : Nat} {x : Part} (hx : q[n]? = some x) (h : x.star = true) : MatchP (q.drop n) s ↔ ∃ k, k ≤ s.length ∧ MatchP (q.drop (n + 1)) (s.drop k) := by
 obtain ⟨hn, rfl⟩ := List.getElem?_eq_some_iff.1 hx
 rw [List.drop_eq_getElem_cons hn]
 show (if _ then _ else _) ↔ _
 rw [if_pos h]
theorem matchP_byte {n : Nat} {x : Part} {c : UInt8} {i : Nat} (hx : q[n]? = some x) (h : x.star = false) (hc : s[i]? = some c) : MatchP (q.drop n) (s.drop i) ↔ hasW x.ws c.toNat = true ∧ MatchP (q.drop (n + 1)) (s.drop (i + 1)) := by
 obtain ⟨hn, rfl⟩ := List.getElem?_eq_some_iff.1 hx
 obtain ⟨hi, rfl⟩ := List.getElem?_eq_some_iff.1 hc
 rw [List.drop_eq_getElem_cons hn, List.drop_eq_getElem_cons hi]
 show (if _ then _ else _) ↔ _
 rw [if_neg (by rw [h]; decide)]
 constructor
 ·rintro ⟨c, t, h1, h2, h3⟩; cases h1; exact ⟨h2, h3⟩
 rintro ⟨h2, h3⟩; exact ⟨_, _, rfl, h2, h3⟩
theorem matchP_nil {n : Nat} {x : Part} (hx : q[n]? = some x) (h : x.star = false) : ¬ MatchP (q.drop n) [] := by
 obtain ⟨hn, rfl⟩ := List.getElem?_eq_some_iff.1 hx
 rw [List.drop_eq_getElem_cons hn]
 show ¬ (if _ then _ else _)
 rw [if_neg (by rw [h]; decide)]
 rintro ⟨c, t, h1, -⟩; cases h1
theorem matchP_over {n : Nat} (h : q.length ≤ n) : MatchP (q.drop n) s ↔ s = [] := by
 rw [List.drop_eq_nil_of_le h]; exact Iff.rfl
theorem consume : ∀ (d n : Nat) {t : List UInt8}, (∀ j, j < d → ∃ x, q[n + j]? = some x ∧ x.star = false) → MatchP (q.drop n) t → d ≤ t.length ∧ MatchP (q.drop (n + d)) (t.drop d)
 | 0, n, t, _, h => ⟨Nat.zero_le _, h⟩
 | d + 1, n, t, hj, h => by
  obtain ⟨x, hx, hs⟩ := hj 0 (Nat.succ_pos _)
  cases t with
  | nil => exact absurd h (matchP_nil hx hs)
  | cons c t =>
   have h2 := (matchP_byte (s := c :: t) (i := 0) hx hs rfl).1 h
   have h3 := consume d (n + 1) (t := t) (fun j hj' => by
    have := hj (j + 1) (by omega)
    rw [show n + (j + 1) = n + 1 + j by omega] at this
    exact this) h2.2
   refine ⟨by simp; exact h3.1, ?_⟩
   rw [show n + (d + 1) = n + 1 + d by omega]
   exact h3.2
theorem absorb {x : Part} {n d : Nat} (hx : q[n]? = some x) (h : x.star = true) (hd : d ≤ s.length) (hm : MatchP (q.drop n) (s.drop d)) : MatchP (q.drop n) s := by
 rw [matchP_star hx h] at hm ⊢
 obtain ⟨k, hk, h2⟩ := hm
 rw [List.length_drop] at hk
 rw [List.drop_drop] at h2
 exact ⟨d + k, by omega, h2⟩
structure GInv (q : List Part) (s : List UInt8) (now i st fr : Nat) : Prop where
 n1 : st ≤ now
 n2 : now ≤ q.length
 n3 : i ≤ s.length
 n4 : 0 < st → fr + (now - st) = i
 n5 : 0 < st → ∀ j, j < now - st → ∃ x, q[st + j]? = some x ∧ x.star = false
 n6 : MatchP q s ↔ MatchP (q.drop now) (s.drop i) ∨ (0 < st ∧ ∃ k, fr < k ∧ k ≤ s.length ∧ MatchP (q.drop st) (s.drop k))
theorem GInv.start : GInv q s 0 0 0 0 := ⟨Nat.le_refl _, Nat.zero_le _, Nat.zero_le _, fun h => absurd h (by omega), fun h => absurd h (by omega), by simp⟩
section
variable {now i st fr : Nat} {x : Part} {c : UInt8} (h : GInv q s now i st fr)
include h
theorem GInv.star (hx : q[now]? = some x) (hs : x.star = true) : GInv q s (now + 1) i (now + 1) i := by
 have hn := (List.getElem?_eq_some_iff.1 hx).1
 refine ⟨Nat.le_refl _, hn, h.n3, fun _ => by omega, fun _ j hj => by omega, ?_⟩
 have e : MatchP q s ↔ MatchP (q.drop now) (s.drop i) := by
  rw [h.n6]
  constructor
  ·rintro (h1 | ⟨h1, k, h2, h3, h4⟩)
   ·exact h1
   have h5 := consume (now - st) st (h.n5 h1) h4
   have h6 := h.n4 h1
   have h7 := h.n1
   rw [show st + (now - st) = now by omega, List.length_drop, List.drop_drop] at h5
   refine absorb (d := k - fr) hx hs (by rw [List.length_drop]; omega) ?_
   rw [List.drop_drop, show i + (k - fr) = k + (now - st) by omega]
   exact h5.2
  exact .inl
 rw [e, matchP_star hx hs]
 constructor
 ·rintro ⟨k, hk, h1⟩
  rw [List.length_drop] at hk
  rw [List.drop_drop] at h1
  have := h.n3
  rcases Nat.eq_zero_or_pos k with rfl | hk0
  ·exact .inl h1
  exact .inr ⟨by omega, i + k, by omega, by omega, h1⟩
 have := h.n3
 rintro (h1 | ⟨-, k, h2, h3, h4⟩)
 ·exact ⟨0, Nat.zero_le _, h1⟩
 exact ⟨k - i, by rw [List.length_drop]; omega, by rw [List.drop_drop, show i + (k - i) = k by omega]; exact h4⟩
theorem GInv.byte (hx : q[now]? = some x) (hs : x.star = false) (hc : s[i]? = some c) (hb : hasW x.ws c.toNat = true) : GInv q s (now + 1) (i + 1) st fr := by
 have hn := (List.getElem?_eq_some_iff.1 hx).1
 have hi := (List.getElem?_eq_some_iff.1 hc).1
 have h1 := h.n1
 refine ⟨by omega, hn, hi, fun h0 => by have := h.n4 h0; omega, fun h0 j hj => ?_, ?_⟩
 ·rcases Nat.lt_or_ge j (now - st) with hj2 | hj2
  ·exact h.n5 h0 j hj2
  exact ⟨x, by rw [show st + j = now by omega]; exact hx, hs⟩
 rw [h.n6, matchP_byte hx hs hc]; simp only [hb, true_and]
theorem GInv.back (h0 : 0 < st) (hc : s[i]? = some c) (hb : ∀ x, q[now]? = some x → x.star = false ∧ hasW x.ws c.toNat = false) : GInv q s st (fr + 1) st (fr + 1) := by
 have hi := (List.getElem?_eq_some_iff.1 hc).1
 have h4 := h.n4 h0
 have h2 := h.n2
 have h1 := h.n1
 refine ⟨Nat.le_refl _, by omega, by omega, fun _ => by omega, fun _ j hj => by omega, ?_⟩
 have hno : ¬ MatchP (q.drop now) (s.drop i) := by
  rcases Nat.lt_or_ge now q.length with hn | hn
  ·have hx : q[now]? = some q[now] := List.getElem?_eq_getElem hn
   obtain ⟨h5, h6⟩ := hb _ hx
   rw [matchP_byte hx h5 hc, h6]; simp
  rw [matchP_over hn]
  intro e
  have := congrArg List.length e
  rw [List.length_drop] at this
  simp at this; omega
 rw [h.n6]
 constructor
 ·rintro (h5 | ⟨-, k, h5, h6, h7⟩)
  ·exact absurd h5 hno
  rcases Nat.lt_or_ge (fr + 1) k with h8 | h8
  ·exact .inr ⟨h0, k, h8, h6, h7⟩
  obtain rfl : k = fr + 1 := by omega
  exact .inl h7
 rintro (h5 | ⟨-, k, h5, h6, h7⟩)
 ·exact .inr ⟨h0, fr + 1, by omega, by omega, h5⟩
 exact .inr ⟨h0, k, by omega, h6, h7⟩
theorem GInv.fail (h0 : st = 0) (hc : s[i]? = some c) (hb : ∀ x, q[now]? = some x → x.star = false ∧ hasW x.ws c.toNat = false) : ¬ MatchP q s := by
 have hi := (List.getElem?_eq_some_iff.1 hc).1
 rw [h.n6]
 rintro (h5 | ⟨h5, -⟩)
 ·rcases Nat.lt_or_ge now q.length with hn | hn
  ·have hx : q[now]? = some q[now] := List.getElem?_eq_getElem hn
   obtain ⟨h6, h7⟩ := hb _ hx
   rw [matchP_byte hx h6 hc, h7] at h5; simp at h5
  rw [matchP_over hn] at h5
  have := congrArg List.length h5
  rw [List.length_drop] at this
  simp at this; omega
 omega
theorem GInv.over (hi : ¬ i < s.length) : MatchP q s ↔ MatchP (q.drop now) [] := by
 have h3 := h.n3
 have h1 := h.n1
 have e : s.drop i = [] := List.drop_eq_nil_of_le (by omega)
 rw [h.n6, e]
 constructor
 ·rintro (h5 | ⟨h0, k, h5, h6, h7⟩)
  ·exact h5
  have h8 := consume (now - st) st (h.n5 h0) h7
  have := h.n4 h0
  rw [List.length_drop] at h8
  omega
 exact .inl
end
theorem tail_star {x : Part} {n : Nat} (hx : q[n]? = some x) (h : x.star = true) : MatchP (q.drop n) [] ↔ MatchP (q.drop (n + 1)) [] := by
 rw [matchP_star hx h]
 constructor
 ·rintro ⟨k, hk, h1⟩; rw [List.drop_nil] at h1; exact h1
 intro h1; exact ⟨0, Nat.le_refl _, h1⟩
end
theorem lex3 {a b c a' b' c' S : Nat} (hb : b' ≤ S) (hc : c' ≤ S) (h : a' < a ∨ (a' = a ∧ (b' < b ∨ (b' = b ∧ c' < c)))) : (a' * (S + 1) + b') * (S + 1) + c' < (a * (S + 1) + b) * (S + 1) + c := by
 have h1 : ∀ x y z z' : Nat, x < y → z ≤ S → x * (S + 1) + z < y * (S + 1) + z' := fun x y z z' hxy hz => by
  have := Nat.mul_le_mul_right (S + 1) (show x + 1 ≤ y by omega)
  rw [Nat.succ_mul] at this; omega
 rcases h with h | ⟨rfl, h | ⟨rfl, h⟩⟩
 ·exact h1 _ _ _ _ (h1 _ _ _ _ h hb) hc
 ·exact h1 _ _ _ _ (by omega) hc
 omega
open Go.RowKit
def wv (x : BitVec 64) : Value := .int .u64 (x.toNat : Int)
def wordsV (s : W64) : List Value := s.map wv
theorem wordsV_len (s : W64) : (wordsV s).length = s.length := List.length_map _
theorem wordsV_get {s : W64} {k : Nat} (h : k < s.length) : (wordsV s)[k]? = some (wv (s.getD k 0#64)) := by
 unfold wordsV
 rw [List.getElem?_map, List.getElem?_eq_getElem h, List.getD_eq_getElem?_getD, List.getElem?_eq_getElem h]; rfl
theorem wordsV_set {s : W64} {k : Nat} {x : BitVec 64} : (wordsV s).set k (wv x) = wordsV (s.set k x) := by
 unfold wordsV; rw [List.map_set]
theorem run_idxAK {P : Program} {w : World} {t e : TypeId} {kd : IntKind} {b off k n size : Nat} (ht : P.underlying t = some (.array n e)) (hs : ∀ w, (sizeOf e).run P w = .ok size w) (hk : k < n) :
  (Instr.indexAt t (.pointer (some ⟨b, off, none⟩)) (.int kd (k : Int))).run P w = .ok (.pointer (some ⟨b, off + k * size, none⟩)) w := by
 simp [Instr.indexAt, run_underlying ht, Instr.sureAddr, asIntOf, hs, hk, addr_add]
theorem quo64 {c : Nat} (h : c < 256) : IntKind.u8.wrap (((c : Nat) : Int).tdiv 64) = ((c / 64 : Nat) : Int) := by
 rw [show ((c : Nat) : Int).tdiv 64 = ((c / 64 : Nat) : Int) from rfl, u8_in (by omega)]
theorem rem64 {c : Nat} : ((c : Nat) : Int).tmod 64 = ((c % 64 : Nat) : Int) := rfl
theorem shl1 {k : Nat} (h : k < 64) : IntKind.u64.wrap ((1 : Int) * 2 ^ (min ((k : Nat) : Int).toNat IntKind.u64.bits)) = ((1#64 <<< k).toNat : Int) := by
 have e1 : min ((k : Nat) : Int).toNat IntKind.u64.bits = k := by
  rw [Int.toNat_natCast]; exact Nat.min_eq_left (show k ≤ 64 by omega)
 have hp : (2 : Nat) ^ k < 2 ^ 64 := Nat.pow_lt_pow_right (by omega) h
 have e2 : (1#64 <<< k).toNat = 2 ^ k := by
  rw [BitVec.toNat_shiftLeft, BitVec.toNat_ofNat, Nat.shiftLeft_eq]
  show (1 * 2 ^ k) % 2 ^ 64 = 2 ^ k
  rw [Nat.one_mul, Nat.mod_eq_of_lt hp]
 rw [e1, e2, show ((1 : Int) * 2 ^ k) = ((2 ^ k : Nat) : Int) by rw [Int.one_mul, Int.natCast_pow]; rfl, u64_in ⟨by omega, by omega⟩]
theorem shrB {x : BitVec 64} {k : Nat} (h : k < 64) : ((x.toNat : Nat) : Int).fdiv (2 ^ (min ((k : Nat) : Int).toNat IntKind.u64.bits)) = ((x >>> k).toNat : Int) := by
 have e1 : min ((k : Nat) : Int).toNat IntKind.u64.bits = k := by
  rw [Int.toNat_natCast]; exact Nat.min_eq_left (show k ≤ 64 by omega)
 rw [e1, BitVec.toNat_ushiftRight, Nat.shiftRight_eq_div_pow]
 have hp : (2 : Int) ^ k = ((2 ^ k : Nat) : Int) := by rw [Int.natCast_pow]; rfl
 rw [hp, Int.fdiv_eq_ediv_of_nonneg _ (Int.natCast_nonneg _)]
 rfl
theorem orB {P : Program} {w : World} (x y : BitVec 64) : (Op.intBits .or .u64 (x.toNat : Int) (y.toNat : Int)).run P w = .ok (.int .u64 ((x ||| y).toNat : Int)) w := by
 have e2 : (Op.intBits .or .u64 (x.toNat : Int) (y.toNat : Int)).run P w = .ok (.int .u64 (IntKind.u64.wrap ((BitVec.ofInt 64 (x.toNat : Int) ||| BitVec.ofInt 64 (y.toNat : Int)).toNat : Int))) w := rfl
 have := (x ||| y).isLt
 rw [e2, BitVec.ofInt_natCast, BitVec.ofInt_natCast, BitVec.ofNat_toNat, BitVec.ofNat_toNat, BitVec.setWidth_eq, BitVec.setWidth_eq, u64_in ⟨by omega, by omega⟩]
theorem andB {P : Program} {w : World} (x : BitVec 64) : (Op.intBits .and .u64 (x.toNat : Int) 1).run P w = .ok (.int .u64 ((x &&& 1#64).toNat : Int)) w := by
 have e2 : (Op.intBits .and .u64 (x.toNat : Int) 1).run P w = .ok (.int .u64 (IntKind.u64.wrap ((BitVec.ofInt 64 (x.toNat : Int) &&& BitVec.ofInt 64 ((1 : Nat) : Int)).toNat : Int))) w := rfl
 have := (x &&& 1#64).isLt
 rw [e2, BitVec.ofInt_natCast, BitVec.ofInt_natCast, BitVec.ofNat_toNat, BitVec.setWidth_eq, u64_in ⟨by omega, by omega⟩]
theorem notB {P : Program} {w : World} (x : BitVec 64) : (Op.unary .xor (.int .u64 (x.toNat : Int))).run P w = .ok (.int .u64 ((~~~ x).toNat : Int)) w := by
 have e2 : (Op.unary .xor (.int .u64 (x.toNat : Int))).run P w = .ok (.int .u64 (IntKind.u64.wrap ((BitVec.ofInt 64 ((18446744073709551615 : Nat) : Int) ^^^ BitVec.ofInt 64 (x.toNat : Int)).toNat : Int))) w := rfl
 have := (~~~ x).isLt
 have e3 : BitVec.ofNat 64 18446744073709551615 ^^^ x = ~~~ x := by
  rw [show BitVec.ofNat 64 18446744073709551615 = BitVec.allOnes 64 from rfl, BitVec.allOnes_xor]
 rw [e2, BitVec.ofInt_natCast, BitVec.ofInt_natCast, BitVec.ofNat_toNat, BitVec.setWidth_eq, e3, u64_in ⟨by omega, by omega⟩]
theorem one_of {x : BitVec 64} : ((x.toNat : Int) = 1) ↔ x = 1#64 := by
 constructor
 ·intro h
  have : x.toNat = 1 := by omega
  exact BitVec.eq_of_toNat_eq this
 rintro rfl; rfl
def partF (p : Part) : List Value := .bool p.star :: wordsV p.ws
def PartsOk (q : List Part) : Prop := ∀ p ∈ q, p.ws.length = 4
def partC (p : Part) : List Value := [.bool p.star, wv (p.ws.getD 0 0#64), wv (p.ws.getD 1 0#64), wv (p.ws.getD 2 0#64), wv (p.ws.getD 3 0#64)]
theorem partF_eq {p : Part} (h : p.ws.length = 4) : partF p = partC p := by
 obtain ⟨s, ws⟩ := p
 match ws, h with
 | [a, b, c, d], _ => rfl
theorem part_reads {B : Base} {q : List Part} {ad : Option Addr} {i : Nat} {x : Part} (hr : RdV B [] ad (q.flatMap partC)) (hx : q[i]? = some x) : ∃ b off, ad = some ⟨b, off, none⟩ ∧ Reads B [] b (off + i * 5) (partC x) := rowk_reads (k := 5) (fun _ => rfl) (by decide) hr hx
theorem parts_snoc (q : List Part) (x : Part) : q.flatMap partC ++ partC x = (q ++ [x]).flatMap partC := by simp
end Go.Pm
namespace Go.Proofs.YtffnhfkkochnhaaGreatDoor
open Go.RowKit Go.Pm
theorem glea189 (w : World) : (sizeOf 187).run Tryz.prog w = .ok 1 w := by kernel_rfl
theorem glua189 : Tryz.prog.underlying 189 = some (.array 4 187) := by kernel_rfl
theorem glna187 (w : World) : (isAgg 187).run Tryz.prog w = .ok false w := by kernel_rfl
theorem glsz187 : (Tryz.prog.info? 187).map (·.size) = some 1 := by kernel_rfl
theorem setAddC (B : Base) (H : List Res) (w : World) (b : Nat) (s : Bool) (ws : W64) (hl : ws.length = 4) (c : Nat) (hc : c < 256) (hv : Inv B (Res.cell b (Value.bool s :: wordsV ws) 191 :: H) w) :
  Calls Tryz.prog 115 #[.pointer (some ⟨b, 1, none⟩), .int .u8 (c : Int)] w fun e w' => e = .returned (.tuple #[]) ∧ Inv B (Res.cell b (Value.bool s :: wordsV (addW ws c)) 191 :: H) w' := by
 refine cW Tryz.func115 rfl Tryz.ntmps115 ?_
 simp only [al]
 refine rW mixed [12] [0,1,2,3,4,5,6,7,8,9,10,11,12] 16 rfl (by kernel_rfl) hv ?_
 simp only [qm, opAt]
 refine dM (.pointer (some ⟨b, 1, none⟩)) rfl (dM (.int .u8 (c : Int)) rfl ?_)
 refine dG (.int .u8 ((c / 64 : Nat) : Int)) rfl (ex_quo (m := (c : Int)) (n := 64) rfl rfl rfl (by decide) (quo64 hc)) ?_
 simp only [zP, po]
 refine dG (.pointer (some ⟨b, 1, none⟩)) rfl (ex_nil rfl rfl) (dG (.pointer (some ⟨b, 1 + (c / 64) * 1, none⟩)) rfl (ex_index rfl rfl rfl (run_idxAK (kd := .u8) (k := c / 64) glua189 glea189 (by omega))) ?_)
 refine dL (.int .u64 ((ws.getD (c / 64) 0#64).toNat : Int)) rfl (fun hv => ex_load rfl rfl (run_load1 glna187 (hv.load 0 (1 + (c / 64) * 1) rfl (by rw [Nat.mul_one, Nat.add_comm, List.getElem?_cons_succ]; exact wordsV_get (by omega))))) ?_
 simp only [zP, po]
 refine dM (.int .u8 (c : Int)) rfl (dG (.int .u8 ((c % 64 : Nat) : Int)) rfl (ex_rem (m := (c : Int)) (n := 64) rfl rfl rfl (by decide) rem64) ?_)
 refine dG (.int .u64 ((1#64 <<< (c % 64)).toNat : Int)) rfl (ex_shl (m := 1) (n := ((c % 64 : Nat) : Int)) rfl rfl rfl (by omega) (shl1 (Nat.mod_lt _ (by decide)))) ?_
 simp only [zP, po]
 refine dG (.int .u64 ((ws.getD (c / 64) 0#64 ||| (1#64 <<< (c % 64))).toNat : Int)) rfl (ex_bits (m := ((ws.getD (c / 64) 0#64).toNat : Int)) (n := ((1#64 <<< (c % 64)).toNat : Int)) rfl rfl rfl rfl (orB _ _)) (dG (.pointer (some ⟨b, 1, none⟩)) rfl (ex_nil rfl rfl) ?_)
 refine dG (.pointer (some ⟨b, 1 + (c / 64) * 1, none⟩)) rfl (ex_index rfl rfl rfl (run_idxAK (kd := .u8) (k := c / 64) glua189 glea189 (by omega))) ?_
 simp only [zP, po]
 refine dS rfl fun w1 hv => mem_storeAt 0 (v := wv (ws.getD (c / 64) 0#64 ||| (1#64 <<< (c % 64)))) (L' := (Value.bool s :: wordsV (addW ws c))) rfl rfl rfl rfl hv rfl glsz187 (by rw [List.length_cons, wordsV_len]; omega) rfl rfl (by rw [Nat.mul_one, Nat.add_comm, List.set_cons_succ, wordsV_set]; rfl) (fun w2 hv => ?_)
 simp only [zO] at hv
 refine dW hv (dE fun w3 hv => ?_)
 simp only [zP, po]
 go_end0
 exact ⟨rfl, hv⟩
theorem glcallable115 : Callable Tryz.prog 115 := cb Tryz.func115 (by kernel_rfl)
theorem setAddRangeC (B : Base) (H : List Res) (w : World) (b : Nat) (s : Bool) (ws : W64) (hl : ws.length = 4) (a e : Nat) (ha : a < 256) (he : e < 256) (hv : Inv B (Res.cell b (Value.bool s :: wordsV ws) 191 :: H) w) :
  Calls Tryz.prog 114 #[.pointer (some ⟨b, 1, none⟩), .int .u8 (a : Int), .int .u8 (e : Int)] w fun e' w' => e' = .returned (.tuple #[]) ∧ Inv B (Res.cell b (Value.bool s :: wordsV (addRangeW ws a e)) 191 :: H) w' := by
 refine cW Tryz.func114 rfl Tryz.ntmps114 ?_
 simp only [al]
 refine sK fun _ k1 => rL (uM rfl ?_)
 refine uM rfl ?_
 refine uG (.int .u8 ((min a e : Nat) : Int)) rfl (ex_min2 (m := (a : Int)) (n := (e : Int)) rfl rfl rfl (by split <;> omega)) (uM rfl ?_)
 refine uM rfl ?_
 refine uG (.int .u8 ((max a e : Nat) : Int)) rfl (ex_max2 (m := (a : Int)) (n := (e : Int)) rfl rfl rfl (by split <;> omega)) (uA rfl ?_)
 refine uA rfl (uW k1 ?_)
 refine sK fun _ k2 => rL (uM rfl ?_)
 refine uM rfl ?_
 refine uG (.int .u8 ((max a e - min a e : Nat) : Int)) rfl (ex_sub rfl rfl rfl (by rw [u8_in (by omega)]; omega)) ?_
 refine uG (vI ((max a e - min a e : Nat) : Int)) rfl (ex_int Tryz.underlying5 Tryz.underlying3 rfl rfl (i64_in (by omega))) ?_
 refine uG (vI ((max a e - min a e + 1 : Nat) : Int)) rfl (ex_add rfl rfl rfl (by rw [i64_in (by omega)]; omega)) (uM rfl ?_)
 refine uW k2 (bB ?_)
 gi_loopw [20] (fun x20 wr => ∃ (i : Nat), x20 = vI i ∧ i ≤ max a e - min a e + 1 ∧ Inv B (Res.cell b (Value.bool s :: wordsV (addUpto ws (min a e) i)) 191 :: H) wr) (fun x20 _ => (max a e - min a e + 1) - (intOf x20).toNat)
 case atStart => exact ⟨0, rfl, Nat.zero_le _, hv⟩
 case round =>
  obtain ⟨i, rfl, hi, hv⟩ := hrel
  refine sK fun _ k4 => rL ?_
  by_cases hb5 : (i : Int) < ((max a e - min a e + 1 : Nat) : Int)
  ·refine uG (.bool true) rfl (ex_lss rfl rfl rfl (qT hb5)) (uW k4 ?_)
   refine sK fun _ k6 => cT rfl (kS ?_)
   refine tK k6 (sK fun _ k7 => ?_)
   refine bB (sK fun _ k8 => ?_)
   refine rL (uM rfl ?_)
   refine uA rfl (uW k8 ?_)
   refine rL (uM rfl ?_)
   refine uM rfl (uM rfl ?_)
   refine uG (.int .u8 (i : Int)) rfl (ex_int Tryz.underlying3 Tryz.underlying5 rfl rfl (u8_in (by omega))) ?_
   refine uG (.int .u8 ((min a e + i : Nat) : Int)) rfl (ex_add rfl rfl rfl (by rw [u8_in (by omega)]; omega)) ?_
   refine xC glcallable115 rfl ((setAddC B _ _ b s (addUpto ws (min a e) i) (by rw [addUpto_len]; exact hl) (min a e + i) (by omega) hv).mono ?_) rfl
   rintro e w9 ⟨rfl, hv⟩
   refine ⟨_, rfl, uZ ?_⟩
   refine bN (tK k7 ?_)
   refine rL (uG (vI ((i + 1 : Nat) : Int)) rfl (ex_add rfl rfl rfl (by rw [i64_in (by omega)]; omega)) ?_)
   refine uM rfl (uZ ?_)
   refine then_normal ?_
   go_roundw
   case rel => exact ⟨i + 1, rfl, by omega, by rw [addUpto_succ]; exact hv⟩
   case measure => show (max a e - min a e + 1) - (((i + 1 : Nat) : Int)).toNat < (max a e - min a e + 1) - ((i : Int)).toNat; omega
  refine uG (.bool false) rfl (ex_lss rfl rfl rfl (qF hb5)) (uW k4 ?_)
  refine sK fun _ k10 => cF rfl (xE ?_)
  refine tX (tX ?_)
  refine bH ?_
  go_end0
  obtain rfl : i = max a e - min a e + 1 := by omega
  exact ⟨rfl, hv⟩
theorem inv_get {ws : W64} {i : Nat} (h : i < ws.length) : ((ws.take i).map (fun x => ~~~ x) ++ ws.drop i).getD i 0#64 = ws.getD i 0#64 := by
 rw [List.getD_eq_getElem?_getD, List.getD_eq_getElem?_getD, List.getElem?_append_right (by simp; omega)]
 simp only [List.length_map, List.length_take, Nat.min_eq_left (Nat.le_of_lt h), Nat.sub_self, List.getElem?_drop, Nat.add_zero]
theorem inv_set {ws : W64} {i : Nat} (h : i < ws.length) : ((ws.take i).map (fun x => ~~~ x) ++ ws.drop i).set i (~~~ (ws.getD i 0#64)) = (ws.take (i + 1)).map (fun x => ~~~ x) ++ ws.drop (i + 1) := by
 have hl : ((ws.take i).map (fun x => ~~~ x)).length = i := by rw [List.length_map, List.length_take, Nat.min_eq_left (Nat.le_of_lt h)]
 rw [List.set_append_right _ _ (by omega), hl, Nat.sub_self, List.drop_eq_getElem_cons h, List.set_cons_zero, List.take_succ_eq_append_getElem h, List.map_append, List.append_assoc, List.getD_eq_getElem?_getD, List.getElem?_eq_getElem h]
 rfl
theorem inv_len {ws : W64} {i : Nat} : ((ws.take i).map (fun x => ~~~ x) ++ ws.drop i).length = ws.length := by
 rw [List.length_append, List.length_map, List.length_take, List.length_drop]; omega
theorem inv_all {ws : W64} (h : ws.length = 4) : (ws.take 4).map (fun x => ~~~ x) ++ ws.drop 4 = invW ws := by
 rw [List.take_of_length_le (by omega), List.drop_eq_nil_of_le (by omega), List.append_nil]; rfl
theorem setInvertC (B : Base) (H : List Res) (w : World) (b : Nat) (s : Bool) (ws : W64) (hl : ws.length = 4) (hv : Inv B (Res.cell b (Value.bool s :: wordsV ws) 191 :: H) w) :
  Calls Tryz.prog 112 #[.pointer (some ⟨b, 1, none⟩)] w fun e w' => e = .returned (.tuple #[]) ∧ Inv B (Res.cell b (Value.bool s :: wordsV (invW ws)) 191 :: H) w' := by
 refine cW Tryz.func112 rfl Tryz.ntmps112 ?_
 simp only [al]
 refine sK fun _ k1 => rL (uM rfl ?_)
 refine uW k1 (bB ?_)
 gi_loopw [3] (fun x3 wr => ∃ (i : Nat), x3 = vI i ∧ i ≤ 4 ∧ Inv B (Res.cell b (Value.bool s :: wordsV ((ws.take i).map (fun x => ~~~ x) ++ ws.drop i)) 191 :: H) wr) (fun x3 _ => 4 - (intOf x3).toNat)
 case atStart => exact ⟨0, rfl, Nat.zero_le _, hv⟩
 case round =>
  obtain ⟨i, rfl, hi, hv⟩ := hrel
  refine sK fun _ k3 => rL ?_
  by_cases hb4 : (i : Int) < 4
  ·refine uG (.bool true) rfl (ex_lss rfl rfl rfl (qT hb4)) (uW k3 ?_)
   refine sK fun _ k5 => cT rfl (kS ?_)
   refine tK k5 (sK fun _ k6 => ?_)
   refine bB (sK fun _ k7 => ?_)
   refine rL (uM rfl ?_)
   refine uA rfl (uW k7 ?_)
   refine rW mixed [10] [0,1,2,3,4,5,6,7,8,9,10] 17 rfl (by kernel_rfl) hv ?_
   simp only [qm, opAt]
   refine dM (.pointer (some ⟨b, 1, none⟩)) rfl (dM (vI i) rfl ?_)
   refine dM (.pointer (some ⟨b, 1, none⟩)) rfl ?_
   simp only [zP, po]
   refine dM (vI i) rfl (dG (.pointer (some ⟨b, 1, none⟩)) rfl (ex_nil rfl rfl) ?_)
   refine dG (.pointer (some ⟨b, 1 + i * 1, none⟩)) rfl (ex_index rfl rfl rfl (run_idxAK (kd := .i64) (k := i) glua189 glea189 (by omega))) ?_
   simp only [zP, po]
   refine dL (.int .u64 ((ws.getD i 0#64).toNat : Int)) rfl (fun hv => ex_load rfl rfl (run_load1 glna187 (hv.load 0 (1 + i * 1) rfl (by rw [Nat.mul_one, Nat.add_comm, List.getElem?_cons_succ, wordsV_get (by rw [inv_len]; omega), inv_get (by omega)]; rfl)))) ?_
   refine dG (.int .u64 ((~~~ (ws.getD i 0#64)).toNat : Int)) rfl (ex_un rfl rfl (notB _)) (dG (.pointer (some ⟨b, 1, none⟩)) rfl (ex_nil rfl rfl) ?_)
   simp only [zP, po]
   refine dG (.pointer (some ⟨b, 1 + i * 1, none⟩)) rfl (ex_index rfl rfl rfl (run_idxAK (kd := .i64) (k := i) glua189 glea189 (by omega))) (dS rfl fun w8 hv => ?_)
   refine mem_storeAt 0 (v := wv (~~~ (ws.getD i 0#64))) (L' := (Value.bool s :: wordsV ((ws.take (i + 1)).map (fun x => ~~~ x) ++ ws.drop (i + 1)))) rfl rfl rfl rfl hv rfl glsz187 (by rw [List.length_cons, wordsV_len, inv_len]; omega) rfl rfl (by rw [Nat.mul_one, Nat.add_comm, List.set_cons_succ, wordsV_set, inv_set (by omega)]) (fun w9 hv => ?_)
   simp only [zO] at hv
   refine dW hv (dE fun w10 hv => ?_)
   simp only [zP, po]
   refine bN (tK k6 ?_)
   refine rL (uG (vI ((i + 1 : Nat) : Int)) rfl (ex_add rfl rfl rfl (by rw [i64_in (by omega)]; omega)) ?_)
   refine uM rfl (uZ ?_)
   refine then_normal ?_
   go_roundw
   case rel => exact ⟨i + 1, rfl, by omega, hv⟩
   case measure => show 4 - (((i + 1 : Nat) : Int)).toNat < 4 - ((i : Int)).toNat; omega
  refine uG (.bool false) rfl (ex_lss rfl rfl rfl (qF hb4)) (uW k3 ?_)
  refine sK fun _ k11 => cF rfl (xE ?_)
  refine tX (tX ?_)
  refine bH ?_
  go_end0
  obtain rfl : i = 4 := by omega
  rw [inv_all hl] at hv
  exact ⟨rfl, hv⟩
theorem setHasC (B : Base) (H : List Res) (w : World) (b off : Nat) (ws : W64) (hl : ws.length = 4) (hrd : Reads B [] b off (wordsV ws)) (c : Nat) (hc : c < 256) (hv : Inv B H w) :
  Calls Tryz.prog 96 #[.pointer (some ⟨b, off, none⟩), .int .u8 (c : Int)] w fun e w' => e = .returned (.bool (hasW ws c)) ∧ Inv B H w' := by
 refine cW Tryz.func96 rfl Tryz.ntmps96 ?_
 simp only [al]
 refine sK fun _ k1 => rL (uA rfl ?_)
 refine uW k1 (sK fun _ k2 => ?_)
 refine rL (uM rfl ?_)
 refine uM rfl ?_
 refine uG (.int .u8 ((c / 64 : Nat) : Int)) rfl (ex_quo (m := (c : Int)) (n := 64) rfl rfl rfl (by decide) (quo64 hc)) ?_
 refine uG (.pointer (some ⟨b, off, none⟩)) rfl (ex_nil rfl rfl) ?_
 refine uG (.pointer (some ⟨b, off + c / 64 * 1, none⟩)) rfl (ex_index rfl rfl rfl (run_idxAK (kd := .u8) (k := c / 64) glua189 glea189 (by omega))) ?_
 refine uL (.int .u64 ((ws.getD (c / 64) 0#64).toNat : Int)) rfl (run_load1 glna187 (hrd _ _ _ (Base.Le.refl _) no_res hv _ _ (by rw [Nat.mul_one]; exact wordsV_get (by omega)))) (uM rfl ?_)
 refine uG (.int .u8 ((c % 64 : Nat) : Int)) rfl (ex_rem (m := (c : Int)) (n := 64) rfl rfl rfl (by decide) rem64) ?_
 refine uG (.int .u64 ((ws.getD (c / 64) 0#64 >>> (c % 64)).toNat : Int)) rfl (ex_shr (m := ((ws.getD (c / 64) 0#64).toNat : Int)) (n := ((c % 64 : Nat) : Int)) rfl rfl rfl (by omega) (shrB (Nat.mod_lt _ (by decide)))) ?_
 refine uG (.int .u64 ((ws.getD (c / 64) 0#64 >>> (c % 64) &&& 1#64).toNat : Int)) rfl (ex_bits (m := ((ws.getD (c / 64) 0#64 >>> (c % 64)).toNat : Int)) (n := 1) rfl rfl rfl rfl (andB _)) ?_
 refine uG (.bool (hasW ws c)) rfl (ex_eql rfl rfl rfl (by unfold hasW; exact decide_eq_decide.2 one_of)) (uA rfl ?_)
 refine uW k2 (rR ?_)
 refine bR rfl rfl (⟨rfl, hv⟩)
theorem part_cells {p : Part} (h : p.ws.length = 4) : (Value.bool p.star :: wordsV p.ws) = partC p := partF_eq h
theorem glal191 : AL Tryz.prog 191 [.bool false, .int .u64 0, .int .u64 0, .int .u64 0, .int .u64 0] := fun w => by kernel_rfl
theorem glfa191_1 : FA Tryz.prog 191 1 1 := fun w b o => by kernel_rfl
theorem glwd191 : Wide Tryz.prog 191 5 := wide_of (fun w => by kernel_rfl) (by kernel_rfl)
theorem glsz191 : (Tryz.prog.info? 191).map (·.size) = some 5 := by kernel_rfl
theorem globOne (B : Base) (H : List Res) (w : World) (c : Nat) (hc : c < 256) (hv : Inv B H w) :
  Calls Tryz.prog 104 #[.int .u8 (c : Int)] w fun e w' => e = .returned (.agg (partC (oneP c)).toArray) ∧ Inv B H w' := by
 refine cW Tryz.func104 rfl Tryz.ntmps104 ?_
 simp only [al]
 refine sK fun _ k1 => rL (sl_alloc tV (wn rfl) rfl hv glal191 (fun b2 w3 hv => ?_))
 refine uW k1 (sK fun _ k4 => ?_)
 refine rL (sl_alloc tV (wn rfl) rfl hv glal191 (fun b5 w6 hv => ?_))
 refine uW k4 (sK fun _ k7 => ?_)
 refine rL (uF (.pointer (some ⟨b5, 1, none⟩)) rfl (glfa191_1 _ _ _) ?_)
 refine uM rfl ?_
 refine xC glcallable115 rfl ((setAddC B _ _ b5 false w0 rfl c hc hv).mono ?_) rfl
 rintro e w8 ⟨rfl, hv⟩
 refine ⟨_, rfl, ?_⟩
 obtain ⟨pp, hpp⟩ : ∃ q : Part, q = oneP c := ⟨_, rfl⟩
 have hpl : pp.ws.length = 4 := by rw [hpp]; first | rfl | exact addW_len
 rw [show (Value.bool false :: wordsV (addW w0 c)) = partC pp from by rw [← part_cells hpl, hpp]; rfl] at hv
 simp only [partC] at hv
 refine uW k7 (sK fun _ k9 => ?_)
 refine rL (uL (.agg #[.bool pp.star, wv (pp.ws.getD 0 0#64), wv (pp.ws.getD 1 0#64), wv (pp.ws.getD 2 0#64), wv (pp.ws.getD 3 0#64)]) rfl (lM 0 glwd191 hv rfl rfl rfl rfl) ?_)
 refine xS 1 rfl hv glsz191 rfl (by exact ⟨rfl, rfl, rfl, rfl, rfl, trivial⟩) (fun w10 hv => ?_)
 simp only [zS, zO, sp] at hv
 refine uW k9 (rR ?_)
 refine bC 1 glwd191 hv rfl rfl rfl rfl ?_
 subst hpp
 exact ⟨rfl, (hv.kp [] 0 2)⟩
theorem glcallable112 : Callable Tryz.prog 112 := cb Tryz.func112 (by kernel_rfl)
theorem globAny (B : Base) (H : List Res) (w : World) (hv : Inv B H w) :
  Calls Tryz.prog 102 #[] w fun e w' => e = .returned (.agg (partC (anyP)).toArray) ∧ Inv B H w' := by
 refine cW Tryz.func102 rfl Tryz.ntmps102 ?_
 simp only [al]
 refine sK fun _ k1 => rL (sl_alloc tV (wn rfl) rfl hv glal191 (fun b2 w3 hv => ?_))
 refine uW k1 (sK fun _ k4 => ?_)
 refine rL (sl_alloc tV (wn rfl) rfl hv glal191 (fun b5 w6 hv => ?_))
 refine uW k4 (sK fun _ k7 => ?_)
 refine rL (uF (.pointer (some ⟨b5, 1, none⟩)) rfl (glfa191_1 _ _ _) ?_)
 refine xC glcallable112 rfl ((setInvertC B _ _ b5 false w0 rfl hv).mono ?_) rfl
 rintro e w8 ⟨rfl, hv⟩
 refine ⟨_, rfl, ?_⟩
 obtain ⟨pp, hpp⟩ : ∃ q : Part, q = anyP := ⟨_, rfl⟩
 have hpl : pp.ws.length = 4 := by rw [hpp]; first | rfl | exact addW_len
 rw [show (Value.bool false :: wordsV (invW w0)) = partC pp from by rw [← part_cells hpl, hpp]; rfl] at hv
 simp only [partC] at hv
 refine uW k7 (sK fun _ k9 => ?_)
 refine rL (uL (.agg #[.bool pp.star, wv (pp.ws.getD 0 0#64), wv (pp.ws.getD 1 0#64), wv (pp.ws.getD 2 0#64), wv (pp.ws.getD 3 0#64)]) rfl (lM 0 glwd191 hv rfl rfl rfl rfl) ?_)
 refine xS 1 rfl hv glsz191 rfl (by exact ⟨rfl, rfl, rfl, rfl, rfl, trivial⟩) (fun w10 hv => ?_)
 simp only [zS, zO, sp] at hv
 refine uW k9 (rR ?_)
 refine bC 1 glwd191 hv rfl rfl rfl rfl ?_
 subst hpp
 exact ⟨rfl, (hv.kp [] 0 2)⟩
theorem globLiteral (B : Base) (H : List Res) (w : World) (p : List UInt8) (i : Nat) (hi : i < p.length) (hp : p.length ≤ 1000000) (hv : Inv B H w) :
  Calls Tryz.prog 113 #[vS p, vI i] w fun e w' => e = .returned (.tuple #[.int .u8 ((litS p i).1 : Int), vI ((litS p i).2 : Int)]) ∧ Inv B H w' := by
 refine cW Tryz.func113 rfl Tryz.ntmps113 ?_
 simp only [al]
 refine sK fun _ k1 => rL (uA rfl ?_)
 refine uA rfl (uW k1 ?_)
 refine sK fun _ k2 => sK fun _ k3 => rL (uM rfl ?_)
 refine uM rfl ?_
 obtain ⟨y, hy⟩ : ∃ y, p[i]? = some y := ⟨_, List.getElem?_eq_getElem (show i < p.length by omega)⟩
 have hyc := chr_at hy
 refine uG (.int .u8 (chr p (i) : Int)) rfl ((by rw [hyc]; exact ex_sidx0 Tryz.underlying9 rfl rfl rfl hy)) ?_
 by_cases hb4 : (chr p (i) : Int) = 92
 ·refine uG (.bool true) rfl (ex_eql rfl rfl rfl (qT hb4)) (uM rfl ?_)
  refine uM rfl ?_
  refine uG (vI ((i + 1 : Nat) : Int)) rfl (ex_add rfl rfl rfl (by rw [i64_in (by omega)]; omega)) ?_
  refine uM rfl ?_
  refine uG (vI (p.length : Int)) rfl (ex_lenStr Tryz.underlying9 rfl rfl) ?_
  by_cases hb5 : ((i + 1 : Nat) : Int) < (p.length : Int)
  ·refine uG (.bool true) rfl (ex_lss rfl rfl rfl (qT hb5)) (uK rfl ?_)
   refine uW k3 (cT rfl ?_)
   refine rL (uM rfl ?_)
   refine uG (vI ((i + 1 : Nat) : Int)) rfl (ex_add rfl rfl rfl (by rw [i64_in (by omega)]; omega)) (uA rfl ?_)
   refine uW k2 (sK fun _ k6 => ?_)
   refine rL (uM rfl ?_)
   refine uM rfl ?_
   obtain ⟨y, hy⟩ : ∃ y, p[i + 1]? = some y := ⟨_, List.getElem?_eq_getElem (show i + 1 < p.length by omega)⟩
   have hyc := chr_at hy
   refine uG (.int .u8 (chr p (i + 1) : Int)) rfl ((by rw [hyc]; exact ex_sidx0 Tryz.underlying9 rfl rfl rfl hy)) (uM rfl ?_)
   refine uG (vI ((i + 2 : Nat) : Int)) rfl (ex_add rfl rfl rfl (by rw [i64_in (by omega)]; omega)) (uA rfl ?_)
   refine uA rfl (uW k6 ?_)
   refine rR (bodyPost_ret (results_tmp2 rfl _ _ _) rfl ?_)
   have e : litS p i = (chr p (i + 1), i + 2) := if_pos ⟨by omega, by omega⟩
   rw [e]
   exact ⟨rfl, hv⟩
  refine uG (.bool false) rfl (ex_lss rfl rfl rfl (qF hb5)) (uK rfl ?_)
  refine uW k3 (cF rfl ?_)
  refine kS (tK k2 ?_)
  refine sK fun _ k7 => rL (uM rfl ?_)
  refine uM rfl ?_
  obtain ⟨y, hy⟩ : ∃ y, p[i]? = some y := ⟨_, List.getElem?_eq_getElem (show i < p.length by omega)⟩
  have hyc := chr_at hy
  refine uG (.int .u8 (chr p (i) : Int)) rfl ((by rw [hyc]; exact ex_sidx0 Tryz.underlying9 rfl rfl rfl hy)) (uM rfl ?_)
  refine uG (vI ((i + 1 : Nat) : Int)) rfl (ex_add rfl rfl rfl (by rw [i64_in (by omega)]; omega)) (uA rfl ?_)
  refine uA rfl (uW k7 ?_)
  refine rR (bodyPost_ret (results_tmp2 rfl _ _ _) rfl ?_)
  have e : litS p i = (chr p i, i + 1) := if_neg (by omega)
  rw [e]
  exact ⟨rfl, hv⟩
 refine uG (.bool false) rfl (ex_eql rfl rfl rfl (qF hb4)) (uM rfl ?_)
 iterate 5 refine uP rfl ?_
 refine uK rfl (uW k3 ?_)
 refine cF rfl (kS ?_)
 refine tK k2 (sK fun _ k8 => ?_)
 refine rL (uM rfl ?_)
 refine uM rfl ?_
 obtain ⟨y, hy⟩ : ∃ y, p[i]? = some y := ⟨_, List.getElem?_eq_getElem (show i < p.length by omega)⟩
 have hyc := chr_at hy
 refine uG (.int .u8 (chr p (i) : Int)) rfl ((by rw [hyc]; exact ex_sidx0 Tryz.underlying9 rfl rfl rfl hy)) (uM rfl ?_)
 refine uG (vI ((i + 1 : Nat) : Int)) rfl (ex_add rfl rfl rfl (by rw [i64_in (by omega)]; omega)) (uA rfl ?_)
 refine uA rfl (uW k8 ?_)
 refine rR (bodyPost_ret (results_tmp2 rfl _ _ _) rfl ?_)
 have e : litS p i = (chr p i, i + 1) := if_neg (by omega)
 rw [e]
 exact ⟨rfl, hv⟩
end Go.Proofs.YtffnhfkkochnhaaGreatDoor
