/- ckey: keys deleted. -/
import Derived.Test.YtngpmolbphinnaaGreatDoorCkFauC
import Derived.Test.YtngpmolbphinnaaGreatDoorCkFauK
import Derived.Test.YtngpmolbphinnaaGreatDoorCkFauI
import Derived.Test.YtngpmolbphinnaaGreatDoorCkFauB
import Derived.Test.YtngpmolbphinnaaGreatDoorRows
import Derived.Test.YtngpmolbphinnaaGreatDoorCkFauG
import Derived.Test.YtngpmolbphinnaaGreatDoorCkFauE
import Derived.Shelf.Slices.ReverseS
import Derived.Ground.Names2Prog
set_option maxRecDepth 100000
set_option maxHeartbeats 16000000
set_option synthInstance.maxSize 4096
set_option synthInstance.maxHeartbeats 400000
namespace Go.Proofs.YtngpmolbphinnaaGreatDoor
open Go.RowKit Go.Pm
theorem k8al97 : AL Tryz.prog 97 [] := fun w => by kernel_rfl
theorem k8sz97 : (Tryz.prog.info? 97).map (·.size) = some 0 := by kernel_rfl
theorem k8mk9 : (Tryz.prog.info? 9).map (fun i => (i.zero, i.size, i.bytes)) = some (some (vS []), 1, 16) := by kernel_rfl
theorem k8el26 : Elem Tryz.prog 26 9 (vS []) 1 16 := elem_of Tryz.underlying26 k8mk9 (by rfl) (by decide)
theorem ckDrop (B : Base) (H : List Res) (w : World) (v t m s p wb : Nat) (va : Option Addr) (vc : Nat) (sv : Value) (clk : Int) (es : List (List UInt8 × Value)) (M : List (List UInt8 × Ver)) (hM : VM B es M) (aa : Option Addr) (an ac : Nat) (ka : Option Addr) (kc : Nat) (ks : List (List UInt8)) (hrk : RdV B [] ka (textCells ks)) (hmk : ks.length ≤ 1000000) (hv : Inv B (Res.cell v [.iface 100 (vP t)] 56 :: txR t m s p wb va vc sv clk es :: H) w) :
  Calls Tryz.prog 55 #[.agg #[vP v, .slice aa an ac], .slice ka ks.length kc] w fun e w' => ∃ C es' M' ec, B.Le C ∧ e = .returned (.tuple #[vI ((dropK M clk ks).length : Int), vI ec]) ∧ VM C es' M' ∧ DelI M (dropK M clk ks) ec M' ∧ Inv C (Res.cell v [.iface 100 (vP t)] 56 :: txR t m s p wb va vc sv clk es' :: H) w' := by
 refine cW Tryz.func55 rfl Tryz.ntmps55 ?_
 simp only [al]
 refine sK fun _ k1 => rL (sl_box (L := [vP v, .slice aa an ac]) tV (wn rfl) rfl rfl hv (fun w => by kernel_rfl) (fun b2 w3 hv => ?_))
 refine uA rfl (uA rfl ?_)
 refine uW k1 (sK fun _ k4 => ?_)
 refine rL (sl_newMapV tV (wn rfl) rfl hv (fun mp5 w6 hv => ?_))
 refine uA rfl (uW k4 ?_)
 refine sK fun _ k7 => rL (uA rfl ?_)
 refine uW k7 (sK fun _ k8 => ?_)
 refine sK fun _ k9 => rL (uM rfl ?_)
 refine uG (vI (ks.length : Int)) rfl (ex_len0 Tryz.underlying26 rfl rfl) (uM rfl ?_)
 refine uW k9 (bB ?_)
 gi_loopw [7, 15] (fun x7 x15 wr => ∃ (i : Nat) (gn : List (List UInt8)) (ga : Option Addr) (gc : Nat) (es9 : List (List UInt8 × Value)) (D : Base), x7 = .slice ga gn.length gc ∧ x15 = vI i ∧ i ≤ ks.length ∧ B.Le D ∧ gn = dropK M clk (ks.take i) ∧ SeenK es9 gn ∧ Inv D (Res.row 9 1 (.slice ga gn.length gc) gn.length (textCells gn) :: Res.vmap mp5 es9 :: Res.cell v [.iface 100 (vP t)] 56 :: txR t m s p wb va vc sv clk es :: Res.cell b2 [vP v, .slice aa an ac] 80 :: H) wr) (fun x7 x15 _ => ks.length - (intOf x15).toNat)
 case atStart => exact ⟨0, [], none, 0, [], B, rfl, rfl, Nat.zero_le _, Base.Le.refl _, rfl, SeenK.nil, (((((hv.front 1 rfl).front 3 rfl).front 3 rfl).front 3 rfl)).rowNil 9 1⟩
 case round =>
  obtain ⟨i, gn, ga, gc, es9, D, rfl, rfl, hi, hBD, hgn, hsn, hv⟩ := hrel
  have hgl : gn.length ≤ i := by rw [hgn]; exact dropK_le i hi
  refine sK fun _ k11 => rL ?_
  by_cases hb12 : (i : Int) < (ks.length : Int)
  ·refine uG (.bool true) rfl (ex_lss rfl rfl rfl (qT hb12)) (uW k11 ?_)
   refine sK fun _ k13 => cT rfl (kS ?_)
   refine tK k13 (sK fun _ k14 => ?_)
   refine bB (sK fun _ k15 => ?_)
   obtain ⟨x, hx⟩ : ∃ x, ks[i]? = some x := ⟨_, List.getElem?_eq_getElem (show i < ks.length by omega)⟩
   obtain ⟨kb, ko, had, hrdx⟩ := text_reads hrk hx
   subst had
   refine rL (uG (.pointer (some ⟨kb, ko + i, none⟩)) rfl (ex_index rfl rfl rfl (run_idx1 (k := i) Tryz.underlying26 s9es26 (by omega))) ?_)
   refine uL _ rfl (run_load1 s9na9 (hrdx _ _ _ hBD no_res hv 0 _ rfl)) (uA rfl ?_)
   refine uW k15 (sK fun _ k16 => ?_)
   refine sK fun _ k17 => rL (uM rfl ?_)
   refine uM rfl ?_
   rcases hsn x with ⟨hl, hsk⟩ | ⟨hl, hsk⟩
   ·refine uG (.tuple #[.agg #[], .bool false]) rfl (ex_lookN (z := .agg #[]) 1 rfl rfl rfl Tryz.underlying142 Tryz.underlying9 (fun w => by kernel_rfl) hv rfl hl) (uM rfl ?_)
    refine uE rfl (uE rfl ?_)
    refine sl_alloc tV (wn rfl) rfl hv k8al97 (fun b18 w19 hv => ?_)
    refine xS 0 rfl hv k8sz97 rfl (by exact trivial) (fun w20 hv => ?_)
    simp only [zO, sp] at hv
    refine uA rfl (uW k17 ?_)
    refine sK fun _ k21 => rL (uM rfl ?_)
    refine uM rfl ?_
    refine uL (.agg #[vP v, .slice aa an ac]) rfl (lM 5 k6wd80 hv rfl rfl rfl rfl) ?_
    refine uM rfl ?_
    replace hv := hv.front 4 rfl
    simp only [eS, eZ] at hv
    replace hv := hv.front 4 rfl
    simp only [eS, eZ] at hv
    refine xC k6callable76 rfl ((ckHas D _ _ v t m s p wb va vc sv clk es M (hM.more hBD) aa an ac x hv).mono ?_) rfl
    rintro e w22 ⟨P, b1, hP, rfl, hh, hv⟩
    refine ⟨_, rfl, ?_⟩
    rcases hh with ⟨rfl, hg⟩ | ⟨rfl, hg⟩
    ·refine uG (.bool false) rfl (ex_not rfl rfl rfl) (uK rfl ?_)
     refine uW k21 (cF rfl ?_)
     refine kS (tK k16 ?_)
     refine sK fun _ k23 => rL (uM rfl ?_)
     refine uM rfl ?_
     refine uG (.agg #[]) rfl (ex_buildN (vs := #[]) rfl (by simp only [List.map_toArray, List.map_nil]) (by kernel_rfl)) ?_
     replace hv := hv.front 4 rfl
     simp only [eS, eZ] at hv
     refine sl_updV (k := x) (v := .agg #[]) tV (wn rfl) rfl rfl rfl rfl Tryz.underlying142 Tryz.underlying9 hv (fun w24 hv => ?_)
     refine uW k23 (rL ?_)
     refine uM rfl (uM rfl ?_)
     refine sl_rowOne (v := vS x) tV (wn rfl) rfl rfl hv k8el26 rfl (fun b25 w26 hv => ?_)
     simp only [zP, po]
     replace hv := hv.front 5 rfl
     simp only [eS, eZ] at hv
     refine sl_append (news := [vS x]) tV (wn rfl) rfl rfl rfl k8el26 hv (ok_full (by omega)) rfl (rd_all (hv.get 1 rfl)) (by intro u hu; simp only [List.mem_cons, List.not_mem_nil, or_false] at hu; rcases hu with rfl <;> rfl) (by unfold maxLen; omega) (by omega) (fun rv27 w30 hv => ?_)
     obtain ⟨ra28, rc29, rfl⟩ := row_slice hv.head
     refine uA rfl (uZ ?_)
     refine bN (tK k14 ?_)
     refine rL (uG (vI ((i + 1 : Nat) : Int)) rfl (ex_add rfl rfl rfl (by rw [i64_in (by omega)]; omega)) ?_)
     refine uM rfl (uZ ?_)
     refine then_normal ?_
     go_roundw
     case rel => exact ⟨i + 1, gn ++ [x], _, _, _, P, by rw [List.length_append, List.length_singleton], rfl, by omega, (hBD.trans hP), by rw [dropK_next hx, ← hgn, stepK_add hsk hg], hsn.upd, by rw [List.length_append, List.length_singleton, ← text_snoc]; exact (hv.kp [6, 5, 5, 5, 4] 5 2)⟩
     case measure => show ks.length - (((i + 1 : Nat) : Int)).toNat < ks.length - ((i : Int)).toNat; omega
    refine uG (.bool true) rfl (ex_not rfl rfl rfl) (uK rfl ?_)
    refine uW k21 (cT rfl ?_)
    refine xE (tX ?_)
    refine bH (tK k14 ?_)
    refine rL (uG (vI ((i + 1 : Nat) : Int)) rfl (ex_add rfl rfl rfl (by rw [i64_in (by omega)]; omega)) ?_)
    refine uM rfl (uZ ?_)
    refine then_normal ?_
    go_roundw
    case rel => exact ⟨i + 1, gn, ga, gc, es9, P, rfl, rfl, by omega, (hBD.trans hP), by rw [dropK_next hx, ← hgn, stepK_no hg], hsn, (hv.kp [5, 2, 2, 5, 5] 5 1)⟩
    case measure => show ks.length - (((i + 1 : Nat) : Int)).toNat < ks.length - ((i : Int)).toNat; omega
   refine uG (.tuple #[.agg #[], .bool true]) rfl (ex_lookS (z := .agg #[]) 1 rfl rfl rfl Tryz.underlying142 Tryz.underlying9 (fun w => by kernel_rfl) hv rfl hl) (uM rfl ?_)
   refine uE rfl (uE rfl ?_)
   refine sl_alloc tV (wn rfl) rfl hv k8al97 (fun b31 w32 hv => ?_)
   refine xS 0 rfl hv k8sz97 rfl (by exact trivial) (fun w33 hv => ?_)
   simp only [zO, sp] at hv
   refine uA rfl (uW k17 ?_)
   refine sK fun _ k34 => rL (uM rfl ?_)
   refine uM rfl ?_
   iterate 4 refine uP rfl ?_
   refine uK rfl (uW k34 ?_)
   refine cT rfl (xE ?_)
   refine tX (bH ?_)
   refine tK k14 (rL ?_)
   refine uG (vI ((i + 1 : Nat) : Int)) rfl (ex_add rfl rfl rfl (by rw [i64_in (by omega)]; omega)) (uM rfl ?_)
   refine uZ (then_normal ?_)
   go_roundw
   case rel => exact ⟨i + 1, gn, ga, gc, es9, D, rfl, rfl, by omega, hBD, by rw [dropK_next hx, ← hgn, stepK_in hsk], hsn, (hv.kp [5, 5, 5, 5, 5] 5 1)⟩
   case measure => show ks.length - (((i + 1 : Nat) : Int)).toNat < ks.length - ((i : Int)).toNat; omega
  refine uG (.bool false) rfl (ex_lss rfl rfl rfl (qF hb12)) (uW k11 ?_)
  refine sK fun _ k35 => cF rfl (xE ?_)
  refine tX (tX ?_)
  refine bH (tK k8 ?_)
  refine sK fun _ k36 => rL (uM rfl ?_)
  refine uG (vI (gn.length : Int)) rfl (ex_len0 Tryz.underlying26 rfl rfl) ?_
  refine uF (vP b2) rfl (k1fa80_0 _ _ _) ?_
  refine uL _ rfl (run_load1 k1na24 (hv.load 4 0 rfl rfl)) ?_
  refine uG (vP v) rfl (ex_nil rfl rfl) ?_
  refine uF (vP v) rfl (v1fa56_0 _ _ _) ?_
  refine uL _ rfl (run_load1 v1na54 (hv.load 2 0 rfl rfl)) (uM rfl ?_)
  obtain ⟨E, hE, hv, hrg, -, -⟩ := hv.rowBy
  replace hv := hv.front 2 rfl
  simp only [eS, eZ] at hv
  refine wpi_callI v1callable214 tV wideC rfl (wn rfl) rfl rfl (r := vP t) (fun w => by kernel_rfl) (args := #[.slice ga gn.length gc]) (by simp only [List.map_toArray, List.map_cons, List.map_nil]; rfl) ((txnDel E _ _ t m s p wb va vc sv clk es M ga gc gn hrg (by omega) (hM.more (hBD.trans hE)) hv).mono ?_)
  rintro e w37 ⟨es2, e2, rfl, hdel, hv⟩
  refine ⟨_, rfl, ?_⟩
  obtain ⟨M2, hM2, hdl⟩ := delI_of (hM.more (hBD.trans hE)) hdel
  refine uA rfl (uA rfl ?_)
  refine uW k36 (rR ?_)
  refine bodyPost_ret (results_tmp2 rfl _ _ _) rfl ?_
  obtain rfl : i = ks.length := by omega
  rw [List.take_length] at hgn
  exact ⟨E, es2, M2, e2, (hBD.trans hE), by rw [hgn]; rfl, hM2, by rw [← hgn]; exact hdl, (hv.kp [2] 2 2)⟩
def sameB (x a : List UInt8) : Bool := decide (x.map (fun c => lowZ (c.toNat : Int)) = a.map (fun c => lowZ (c.toNat : Int)))
theorem sameB_iff {x a : List UInt8} : sameB x a = true ↔ SameC x a := by
 unfold sameB SameC
 rw [decide_eq_true_iff]
 constructor
 ·intro h
  refine ⟨by simpa using congrArg List.length h, fun k p q hp hq => ?_⟩
  have h9 := congrArg (fun l => l[k]?) h
  simpa [hp, hq] using h9
 rintro ⟨h1, h2⟩
 refine List.ext_getElem? fun k => ?_
 rw [List.getElem?_map, List.getElem?_map]
 cases hp : x[k]? with
 | none =>
  have := List.getElem?_eq_none_iff.1 hp
  rw [List.getElem?_eq_none_iff.2 (by omega)]
 | some p =>
  have := (List.getElem?_eq_some_iff.1 hp).1
  obtain ⟨q, hq⟩ : ∃ q, a[k]? = some q := ⟨_, List.getElem?_eq_getElem (by omega)⟩
  rw [hq]; exact congrArg some (h2 k p q hp hq)
abbrev wrdA : List UInt8 := [65, 76, 80, 72, 65]
abbrev wrdB : List UInt8 := [65, 83, 67]
abbrev wrdD : List UInt8 := [68, 69, 83, 67]
abbrev wrdL : List UInt8 := [76, 73, 77, 73, 84]
abbrev wrdS : List UInt8 := [83, 84, 79, 82, 69]
def idx5 (a : List UInt8) : Nat := if sameB wrdA a then 0 else if sameB wrdB a then 1 else if sameB wrdD a then 2 else if sameB wrdL a then 3 else if sameB wrdS a then 4 else 5
theorem is5 {arg : List UInt8} {r : Int} (h : IsI arg [wrdA, wrdB, wrdD, wrdL, wrdS] r) : (r = -1 ∧ idx5 arg = 5) ∨ (r = 0 ∧ idx5 arg = 0) ∨ (r = 1 ∧ idx5 arg = 1) ∨ (r = 2 ∧ idx5 arg = 2) ∨ (r = 3 ∧ idx5 arg = 3) ∨ (r = 4 ∧ idx5 arg = 4) := by
 have no : ∀ {x}, ¬ SameC x arg → sameB x arg = false := fun h => Bool.eq_false_iff.2 fun h9 => h (sameB_iff.1 h9)
 have ys : ∀ {x}, SameC x arg → sameB x arg = true := fun h => sameB_iff.2 h
 unfold idx5
 rcases h with ⟨rfl, h⟩ | ⟨i, x, rfl, hx, h1, h2⟩
 ·exact .inl ⟨rfl, by rw [no (h wrdA (by simp)), no (h wrdB (by simp)), no (h wrdD (by simp)), no (h wrdL (by simp)), no (h wrdS (by simp))]; rfl⟩
 match i, hx, h2 with
 | 0, hx, h2 => cases hx; exact .inr (.inl ⟨rfl, by rw [ys h1]; rfl⟩)
 | 1, hx, h2 => cases hx; exact .inr (.inr (.inl ⟨rfl, by rw [no (h2 0 wrdA (by omega) rfl), ys h1]; rfl⟩))
 | 2, hx, h2 => cases hx; exact .inr (.inr (.inr (.inl ⟨rfl, by rw [no (h2 0 wrdA (by omega) rfl), no (h2 1 wrdB (by omega) rfl), ys h1]; rfl⟩)))
 | 3, hx, h2 => cases hx; exact .inr (.inr (.inr (.inr (.inl ⟨rfl, by rw [no (h2 0 wrdA (by omega) rfl), no (h2 1 wrdB (by omega) rfl), no (h2 2 wrdD (by omega) rfl), ys h1]; rfl⟩))))
 | 4, hx, h2 => cases hx; exact .inr (.inr (.inr (.inr (.inr ⟨rfl, by rw [no (h2 0 wrdA (by omega) rfl), no (h2 1 wrdB (by omega) rfl), no (h2 2 wrdD (by omega) rfl), no (h2 3 wrdL (by omega) rfl), ys h1]; rfl⟩))))
structure WishS where
 g0 : Bool
 g1 : Bool
 g2 : Bool
 g3 : Bool
 g4 : Bool
 ns : List (List UInt8)
 tg : List UInt8
def wish0 : WishS := ⟨false, false, false, false, false, [], []⟩
def wishF : List (List UInt8) → WishS → Option WishS
 | [], s => some s
 | x :: rest, s =>
  if idx5 x = 0 then bif s.g0 || (s.g1 && s.g2) then none else wishF rest { s with g0 := true }
  else if idx5 x = 1 then bif s.g1 || s.g2 then none else wishF rest { s with g1 := true }
  else if idx5 x = 2 then bif s.g2 || s.g1 then none else wishF rest { s with g2 := true }
  else if idx5 x = 3 then
   match rest with
   | p :: q :: rest2 => bif s.g3 || (s.g1 && s.g2) then none else wishF rest2 { s with g3 := true, ns := [p, q] }
   | _ => none
  else if idx5 x = 4 then
   match rest with
   | t :: rest2 => bif s.g4 || (s.g1 && s.g2) then none else wishF rest2 { s with g4 := true, tg := t }
   | _ => none
  else none
theorem wf_cons (x : List UInt8) (rest : List (List UInt8)) (s : WishS) : wishF (x :: rest) s = if idx5 x = 0 then bif s.g0 || (s.g1 && s.g2) then none else wishF rest { s with g0 := true }
  else if idx5 x = 1 then bif s.g1 || s.g2 then none else wishF rest { s with g1 := true }
  else if idx5 x = 2 then bif s.g2 || s.g1 then none else wishF rest { s with g2 := true }
  else if idx5 x = 3 then
   match rest with
   | p :: q :: rest2 => bif s.g3 || (s.g1 && s.g2) then none else wishF rest2 { s with g3 := true, ns := [p, q] }
   | _ => none
  else if idx5 x = 4 then
   match rest with
   | t :: rest2 => bif s.g4 || (s.g1 && s.g2) then none else wishF rest2 { s with g4 := true, tg := t }
   | _ => none
  else none := by
 match rest with
 | [] => rfl
 | [_] => rfl
 | _ :: _ :: _ => rfl
section
variable {ws : List (List UInt8)} {i : Nat} {x p q : List UInt8} {s : WishS} {r : Option WishS}
theorem drop_at (h : ws[i]? = some x) : ws.drop i = x :: ws.drop (i + 1) := by
 obtain ⟨hi, rfl⟩ := List.getElem?_eq_some_iff.1 h
 exact List.drop_eq_getElem_cons hi
theorem wsh5 (hw : r = wishF (ws.drop i) s) (hx : ws[i]? = some x) (h : idx5 x = 5) : r = none := by rw [hw, drop_at hx, wf_cons, h]; rfl
theorem wsh0 (hw : r = wishF (ws.drop i) s) (hx : ws[i]? = some x) (h : idx5 x = 0) : r = bif s.g0 || (s.g1 && s.g2) then none else wishF (ws.drop (i + 1)) { s with g0 := true } := by rw [hw, drop_at hx, wf_cons, h]; rfl
theorem wsh1 (hw : r = wishF (ws.drop i) s) (hx : ws[i]? = some x) (h : idx5 x = 1) : r = bif s.g1 || s.g2 then none else wishF (ws.drop (i + 1)) { s with g1 := true } := by rw [hw, drop_at hx, wf_cons, h]; rfl
theorem wsh2 (hw : r = wishF (ws.drop i) s) (hx : ws[i]? = some x) (h : idx5 x = 2) : r = bif s.g2 || s.g1 then none else wishF (ws.drop (i + 1)) { s with g2 := true } := by rw [hw, drop_at hx, wf_cons, h]; rfl
theorem wsh3 (hw : r = wishF (ws.drop i) s) (hx : ws[i]? = some x) (h : idx5 x = 3) (hp : ws[i + 1]? = some p) (hq : ws[i + 2]? = some q) : r = bif s.g3 || (s.g1 && s.g2) then none else wishF (ws.drop (i + 3)) { s with g3 := true, ns := [p, q] } := by rw [hw, drop_at hx, drop_at hp, drop_at hq, wf_cons, h]; rfl
theorem wsh4 (hw : r = wishF (ws.drop i) s) (hx : ws[i]? = some x) (h : idx5 x = 4) (hp : ws[i + 1]? = some p) : r = bif s.g4 || (s.g1 && s.g2) then none else wishF (ws.drop (i + 2)) { s with g4 := true, tg := p } := by rw [hw, drop_at hx, drop_at hp, wf_cons, h]; rfl
theorem wsh3n (hw : r = wishF (ws.drop i) s) (hx : ws[i]? = some x) (h : idx5 x = 3) (hl : ws.length ≤ i + 2) : r = none := by
 rw [hw, drop_at hx]
 have : (ws.drop (i + 1)).length ≤ 1 := by rw [List.length_drop]; omega
 match hd : ws.drop (i + 1), this with
 | [], _ => rw [wf_cons, h]; rfl
 | [_], _ => rw [wf_cons, h]; rfl
theorem wsh4n (hw : r = wishF (ws.drop i) s) (hx : ws[i]? = some x) (h : idx5 x = 4) (hl : ws.length ≤ i + 1) : r = none := by
 rw [hw, drop_at hx, List.drop_eq_nil_of_le hl]
 rw [wf_cons, h]; rfl
end
def WishR (ws : List (List UInt8)) (g0 g1 g2 g3 g4 : Bool) (om mo : Int) (tg : List UInt8) (ec : Int) : Prop :=
 (ec = 42 ∧ wishF ws wish0 = none) ∨ ∃ s, wishF ws wish0 = some s ∧ ((ec = 41 ∧ ∃ t ∈ s.ns, NumP t 0 false) ∨ (ec = 0 ∧ s.g0 = g0 ∧ s.g1 = g1 ∧ s.g2 = g2 ∧ s.g3 = g3 ∧ s.g4 = g4 ∧ s.tg = tg ∧ (g3 = true → ∃ p q, s.ns = [p, q] ∧ NumP p om true ∧ NumP q mo true)))
theorem kIal157 : AL Tryz.prog 157 [.bool false, .bool false, .bool false, .bool false, .bool false, vI 0, vI 0, vS []] := fun w => by kernel_rfl
theorem kIsz157 : (Tryz.prog.info? 157).map (·.size) = some 8 := by kernel_rfl
theorem kIwd157 : Wide Tryz.prog 157 8 := wide_of (fun w => by kernel_rfl) (by kernel_rfl)
theorem kIfa157_0 : FA Tryz.prog 157 0 0 := fun w b o => by kernel_rfl
theorem kIea155 (w : World) : (sizeOf 4).run Tryz.prog w = .ok 1 w := by kernel_rfl
theorem kIua155 : Tryz.prog.underlying 155 = some (.array 5 4) := by kernel_rfl
theorem kIfa157_3 : FA Tryz.prog 157 3 7 := fun w b o => by kernel_rfl
theorem kIfa157_1 : FA Tryz.prog 157 1 5 := fun w b o => by kernel_rfl
theorem kIfa157_2 : FA Tryz.prog 157 2 6 := fun w b o => by kernel_rfl
theorem ckWishes (B : Base) (H : List Res) (w : World) (wa : Option Addr) (wc : Nat) (ws : List (List UInt8)) (hokw : SliceOk wa ws.length wc) (hrw : RdV B [] wa (textCells ws)) (hmw : ws.length ≤ 1000000) (hxl : ∀ x ∈ ws, x.length ≤ 9223372036854775807) (hN : NumB B) (hv : Inv B H w) :
  Calls Tryz.prog 90 #[.slice wa ws.length wc] w fun e w' => ∃ g0 g1 g2 g3 g4 om mo tg ec, e = .returned (.tuple #[.agg #[.bool g0, .bool g1, .bool g2, .bool g3, .bool g4, vI om, vI mo, vS tg], vI ec]) ∧ WishR ws g0 g1 g2 g3 g4 om mo tg ec ∧ Inv B H w' := by
 refine cW Tryz.func90 rfl Tryz.ntmps90 ?_
 simp only [al]
 refine sK fun _ k1 => rL (sl_alloc tV (wn rfl) rfl hv kIal157 (fun b2 w3 hv => ?_))
 refine uA rfl (uW k1 ?_)
 refine sK fun _ k4 => rL (sl_alloc tV (wn rfl) rfl hv kIal157 (fun b5 w6 hv => ?_))
 refine uW k4 (sK fun _ k7 => ?_)
 refine rL (uA rfl ?_)
 refine uW k7 (sK fun _ k8 => ?_)
 refine sK fun _ k9 => rL (uA rfl ?_)
 refine uW k9 (bB ?_)
 gi_loopw [5, 6] (fun x5 x6 wr => ∃ (i : Nat) (g0 g1 g2 g3 g4 : Bool) (ns : List (List UInt8)) (na : Option Addr) (nc : Nat) (tg : List UInt8), x5 = .slice na ns.length nc ∧ x6 = vI i ∧ i ≤ ws.length ∧ wishF ws wish0 = wishF (ws.drop i) ⟨g0, g1, g2, g3, g4, ns, tg⟩ ∧ RdV B [] na (textCells ns) ∧ (g3 = true → ∃ p q, ns = [p, q]) ∧ ns.length ≤ 2 ∧ Inv B (Res.cell b5 [.bool g0, .bool g1, .bool g2, .bool g3, .bool g4, vI 0, vI 0, vS tg] 157 :: Res.cell b2 [.bool false, .bool false, .bool false, .bool false, .bool false, vI 0, vI 0, vS []] 157 :: H) wr) (fun x5 x6 _ => ws.length - (intOf x6).toNat)
 case atStart => exact ⟨0, false, false, false, false, false, [], none, 0, [], rfl, rfl, Nat.zero_le _, rfl, rdV_nil, fun h => (by cases h), by decide, ((hv.front 1 rfl).front 1 rfl)⟩
 case round =>
  obtain ⟨i, g0, g1, g2, g3, g4, ns, na, nc, tg, rfl, rfl, hi, hwf, hrn, h3, hnl, hv⟩ := hrel
  refine sK fun _ k11 => sK fun _ k12 => rL (uM rfl ?_)
  refine uM rfl ?_
  refine uG (vI (ws.length : Int)) rfl (ex_len0 Tryz.underlying26 rfl rfl) ?_
  by_cases hb13 : (i : Int) < (ws.length : Int)
  ·refine uG (.bool true) rfl (ex_lss rfl rfl rfl (qT hb13)) (uW k12 ?_)
   refine cT rfl (kS ?_)
   refine tK k11 (sK fun _ k14 => ?_)
   refine bB (sK fun _ k15 => ?_)
   obtain ⟨x, hx⟩ : ∃ x, ws[i]? = some x := ⟨_, List.getElem?_eq_getElem (show i < ws.length by omega)⟩
   obtain ⟨kb, ko, had, hrdx⟩ := text_reads hrw hx
   subst had
   refine rL (uM rfl ?_)
   refine uM rfl ?_
   refine uG (.pointer (some ⟨kb, ko + i, none⟩)) rfl (ex_index rfl rfl rfl (run_idx1 (k := i) Tryz.underlying26 s9es26 (by omega))) ?_
   refine uL _ rfl (run_load1 s9na9 (hrdx _ _ _ (Base.Le.refl _) no_res hv 0 _ rfl)) ?_
   refine sl_rowN (pv := #[(0, vS [65, 76, 80, 72, 65]), (1, vS [65, 83, 67]), (2, vS [68, 69, 83, 67]), (3, vS [76, 73, 77, 73, 84]), (4, vS [83, 84, 79, 82, 69])]) (L := [vS [65, 76, 80, 72, 65], vS [65, 83, 67], vS [68, 69, 83, 67], vS [76, 73, 77, 73, 84], vS [83, 84, 79, 82, 69]]) (e := 9) tV (wn rfl) rfl (by simp only [List.map_toArray, List.map_cons, List.map_nil]; rfl) hv (fun w => by kernel_rfl) (fun b16 w17 hv => ?_)
   simp only [zP, po]
   obtain ⟨D1, hD1, hv, hrk, -, -⟩ := (hv.cellRow (n := 5) (c := 5) (size := 1) rfl (by decide) (by decide)).rowBy
   refine xC v8callable75 rfl ((viewIs D1 _ _ x _ 5 [wrdA, wrdB, wrdD, wrdL, wrdS] hrk (by simp) (hxl x (List.mem_of_getElem? hx)) hv).mono ?_) rfl
   rintro e w18 ⟨r, rfl, his, hv⟩
   refine ⟨_, rfl, ?_⟩
   replace hv := hv.weak hD1
   rcases is5 his with ⟨rfl, hix⟩ | ⟨rfl, hix⟩ | ⟨rfl, hix⟩ | ⟨rfl, hix⟩ | ⟨rfl, hix⟩ | ⟨rfl, hix⟩
   ·refine uA rfl (uW k15 ?_)
    refine sK fun _ k19 => sK fun _ k20 => rL (uM rfl ?_)
    refine uG (.bool true) rfl (ex_lss rfl rfl rfl (by decide)) (uM rfl ?_)
    iterate 4 refine uP rfl ?_
    refine uK rfl (uW k20 ?_)
    refine cT rfl (sK fun _ k21 => ?_)
    refine rL (uG (.agg #[.bool false, .bool false, .bool false, .bool false, .bool false, vI 0, vI 0, vS []]) rfl (ex_buildN (vs := #[]) rfl (by simp only [List.map_toArray, List.map_nil]) (by kernel_rfl)) ?_)
    refine xS 1 rfl hv kIsz157 rfl (by exact ⟨rfl, rfl, rfl, rfl, rfl, rfl, rfl, rfl, trivial⟩) (fun w22 hv => ?_)
    simp only [zS, zO, sp] at hv
    refine uA rfl (uW k21 ?_)
    refine rR (tR ?_)
    refine bZ (tR ?_)
    refine tR (bZ ?_)
    refine tR (bodyPost_ret (res_cell2 rfl rfl (lM 1 kIwd157 hv rfl rfl rfl rfl)) rfl ?_)
    exact ⟨false, false, false, false, false, 0, 0, [], 42, rfl, .inl ⟨rfl, by have h9 := wsh5 hwf hx hix; simpa [] using h9⟩, (hv.kp [] 0 2)⟩
   ·refine uA rfl (uW k15 ?_)
    refine sK fun _ k23 => sK fun _ k24 => rL (uM rfl ?_)
    refine uG (.bool false) rfl (ex_lss rfl rfl rfl (by decide)) (uM rfl ?_)
    refine uM rfl ?_
    refine uF (vP b5) rfl (kIfa157_0 _ _ _) ?_
    refine uG (vP b5) rfl (ex_index rfl rfl rfl (run_idxA1 (k := 0) kIua155 kIea155 (by omega))) ?_
    refine uL _ rfl (run_load1 s2na4 (hv.load 0 0 rfl rfl)) (uK rfl ?_)
    refine uW k24 (wpIn_cond_split (t := g0) rfl (fun hc25 => ?_) (fun hc25 => ?_))
    ·refine sK fun _ k26 => rL (uG (.agg #[.bool false, .bool false, .bool false, .bool false, .bool false, vI 0, vI 0, vS []]) rfl (ex_buildN (vs := #[]) rfl (by simp only [List.map_toArray, List.map_nil]) (by kernel_rfl)) ?_)
     refine xS 1 rfl hv kIsz157 rfl (by exact ⟨rfl, rfl, rfl, rfl, rfl, rfl, rfl, rfl, trivial⟩) (fun w27 hv => ?_)
     simp only [zS, zO, sp] at hv
     refine uA rfl (uW k26 ?_)
     refine rR (tR ?_)
     refine bZ (tR ?_)
     refine tR (bZ ?_)
     refine tR (bodyPost_ret (res_cell2 rfl rfl (lM 1 kIwd157 hv rfl rfl rfl rfl)) rfl ?_)
     exact ⟨false, false, false, false, false, 0, 0, [], 42, rfl, .inl ⟨rfl, by have h9 := wsh0 hwf hx hix; simpa [hc25] using h9⟩, (hv.kp [] 0 2)⟩
    refine kS (tK k23 ?_)
    refine sK fun _ k28 => rL (uM rfl ?_)
    refine uF (vP b5) rfl (kIfa157_0 _ _ _) ?_
    refine uG (vP b5) rfl (ex_index rfl rfl rfl (run_idxA1 (k := 0) kIua155 kIea155 (by omega))) ?_
    refine xV 0 (.bool true) rfl hv v8sz4 rfl rfl (fun w29 hv => ?_)
    simp only [zO, sp] at hv
    refine uW k28 (sK fun _ k30 => ?_)
    refine rL (uA rfl ?_)
    refine uW k30 (sK fun _ k31 => ?_)
    refine sK fun _ k32 => rL (uM rfl ?_)
    refine uW k32 (bB ?_)
    refine sK fun _ k33 => rL (uG (.bool false) rfl (ex_eql rfl rfl rfl (by decide)) ?_)
    refine uA rfl (uW k33 ?_)
    refine cF rfl (sK fun _ k34 => ?_)
    refine rL (uG (.bool false) rfl (ex_eql rfl rfl rfl (by decide)) ?_)
    refine uA rfl (uW k34 ?_)
    refine cF rfl (kS ?_)
    refine bN (tK k31 ?_)
    refine sK fun K35 k35 => ?_
    have hJ35 : ∀ (j3 j40 j41 j42 j43 j44 j45 j46 j47 j48 j49 j50 j51 j52 j53 j54 j55 j56 : Value) (w36 : World), (wishF ws wish0 = wishF (ws.drop (i + 1)) ⟨true, g1, g2, g3, g4, ns, tg⟩) → Inv B (Res.cell b5 [.bool true, .bool g1, .bool g2, .bool g3, .bool g4, vI 0, vI 0, vS tg] 157 :: Res.cell b2 [.bool false, .bool false, .bool false, .bool false, .bool false, vI 0, vI 0, vS []] 157 :: H) w36 → K35 { tmps := List.toArray (.slice (some ⟨kb, ko, none⟩) ws.length wc :: undef :: vP b2 :: j3 :: vP b5 :: .slice na ns.length nc :: vI i :: vI 0 :: vI 0 :: undef :: undef :: vI i :: .slice (some ⟨kb, ko, none⟩) ws.length wc :: vI (ws.length : Int) :: .bool true :: u15 :: u16 :: .slice (some ⟨kb, ko, none⟩) ws.length wc :: vI i :: .pointer (some ⟨kb, ko + i, none⟩) :: vS x :: .slice (some ⟨b16, 0, none⟩) 5 5 :: vI 0 :: vI 0 :: .bool false :: .bool false :: vI 0 :: vP b5 :: vP b5 :: .bool g0 :: .bool g0 :: u31 :: vI 0 :: vP b5 :: vP b5 :: vI 0 :: .bool false :: .bool false :: .bool false :: .bool false :: j40 :: j41 :: j42 :: j43 :: j44 :: j45 :: j46 :: j47 :: j48 :: j49 :: j50 :: j51 :: j52 :: j53 :: j54 :: j55 :: j56 :: u57 :: u58 :: u59 :: u60 :: u61 :: u62 :: u63 :: u64 :: u65 :: u66 :: u67 :: u68 :: u69 :: u70 :: u71 :: u72 :: u73 :: u74 :: u75 :: u76 :: undef :: undef :: undef :: undef :: undef :: undef :: undef :: undef :: undef :: undef :: undef :: undef :: undef :: undef :: undef :: undef :: undef :: undef :: undef :: undef :: undef :: []), defers := [] } w36 := by
     intro j3 j40 j41 j42 j43 j44 j45 j46 j47 j48 j49 j50 j51 j52 j53 j54 j55 j56 w36 hw9 hv
     refine k35 _ _ (sK fun _ k37 => ?_)
     refine sK fun _ k38 => rL (uM rfl ?_)
     refine uW k38 (bB ?_)
     refine sK fun _ k39 => rL (uG (.bool false) rfl (ex_eql rfl rfl rfl (by decide)) ?_)
     refine uA rfl (uW k39 ?_)
     refine cF rfl (sK fun _ k40 => ?_)
     refine rL (uG (.bool false) rfl (ex_eql rfl rfl rfl (by decide)) ?_)
     refine uA rfl (uW k40 ?_)
     refine cF rfl (kS ?_)
     refine bN (tK k37 ?_)
     refine rL (uM rfl ?_)
     refine uM rfl ?_
     refine uG (vI ((i + 0 : Nat) : Int)) rfl (ex_add rfl rfl rfl (by rw [i64_in (by omega)]; omega)) (uA rfl ?_)
     refine uZ (bN ?_)
     refine tK k14 (rL ?_)
     refine uM rfl ?_
     refine uG (vI ((i + 1 : Nat) : Int)) rfl (ex_add rfl rfl rfl (by rw [i64_in (by omega)]; omega)) (uA rfl ?_)
     refine uZ (then_normal ?_)
     simp only [vP, vI, vS]
     go_roundw
     case rel => exact ⟨i + 1, true, g1, g2, g3, g4, ns, _, _, tg, rfl, rfl, by omega, hw9, hrn, h3, hnl, ((hv.front 1 rfl).front 1 rfl)⟩
     case measure => show ws.length - (((i + 1 : Nat) : Int)).toNat < ws.length - ((i : Int)).toNat; omega
    refine sK fun _ k41 => rL (uM rfl ?_)
    refine uM rfl ?_
    refine uG (vI ((i : Int) + 0)) rfl (ex_add rfl rfl rfl (i64_in (by omega))) (uM rfl ?_)
    refine uG (vI (ws.length : Int)) rfl (ex_len0 Tryz.underlying26 rfl rfl) ?_
    refine uG (.bool false) rfl (ex_geq rfl rfl rfl (qF (by omega))) (uM rfl ?_)
    refine uF (vP b5) rfl (kIfa157_0 _ _ _) ?_
    refine uG (.pointer (some ⟨b5, 1, none⟩)) rfl (ex_index rfl rfl rfl (run_idxA1 (k := 1) kIua155 kIea155 (by omega))) ?_
    refine uL _ rfl (run_load1 s2na4 (hv.load 0 1 rfl rfl)) ?_
    refine uM rfl ?_
    cases g1
    ·iterate 3 refine uP rfl ?_
     refine uK rfl (uK rfl ?_)
     refine uW k41 (cF rfl ?_)
     refine kS (then_normal (hJ35 _ _ _ _ _ _ _ _ _ _ _ _ _ _ _ _ _ _ _ (by have h9 := wsh0 hwf hx hix; simpa [hc25] using h9) hv))
    refine uF (vP b5) rfl (kIfa157_0 _ _ _) ?_
    refine uG (.pointer (some ⟨b5, 2, none⟩)) rfl (ex_index rfl rfl rfl (run_idxA1 (k := 2) kIua155 kIea155 (by omega))) ?_
    refine uL _ rfl (run_load1 s2na4 (hv.load 0 2 rfl rfl)) ?_
    refine uK rfl (uK rfl ?_)
    refine uW k41 (wpIn_cond_split (t := g2) rfl (fun hc42 => ?_) (fun hc42 => ?_))
    ·refine sK fun _ k43 => rL (uG (.agg #[.bool false, .bool false, .bool false, .bool false, .bool false, vI 0, vI 0, vS []]) rfl (ex_buildN (vs := #[]) rfl (by simp only [List.map_toArray, List.map_nil]) (by kernel_rfl)) ?_)
     refine xS 1 rfl hv kIsz157 rfl (by exact ⟨rfl, rfl, rfl, rfl, rfl, rfl, rfl, rfl, trivial⟩) (fun w44 hv => ?_)
     simp only [zS, zO, sp] at hv
     refine uA rfl (uW k43 ?_)
     refine rR (tR ?_)
     clear hJ35
     refine bZ (tR ?_)
     refine tR (bZ ?_)
     refine tR (bodyPost_ret (res_cell2 rfl rfl (lM 1 kIwd157 hv rfl rfl rfl rfl)) rfl ?_)
     exact ⟨false, false, false, false, false, 0, 0, [], 42, rfl, .inl ⟨rfl, by have h9 := wsh0 hwf hx hix; simpa [hc25, hc42] using h9⟩, (hv.kp [] 0 2)⟩
    refine kS (then_normal (hJ35 _ _ _ _ _ _ _ _ _ _ _ _ _ _ _ _ _ _ _ (by have h9 := wsh0 hwf hx hix; simpa [hc25, hc42] using h9) hv))
   ·refine uA rfl (uW k15 ?_)
    refine sK fun _ k45 => sK fun _ k46 => rL (uM rfl ?_)
    refine uG (.bool false) rfl (ex_lss rfl rfl rfl (by decide)) (uM rfl ?_)
    refine uM rfl ?_
    refine uF (vP b5) rfl (kIfa157_0 _ _ _) ?_
    refine uG (.pointer (some ⟨b5, 1, none⟩)) rfl (ex_index rfl rfl rfl (run_idxA1 (k := 1) kIua155 kIea155 (by omega))) ?_
    refine uL _ rfl (run_load1 s2na4 (hv.load 0 1 rfl rfl)) (uK rfl ?_)
    refine uW k46 (wpIn_cond_split (t := g1) rfl (fun hc47 => ?_) (fun hc47 => ?_))
    ·refine sK fun _ k48 => rL (uG (.agg #[.bool false, .bool false, .bool false, .bool false, .bool false, vI 0, vI 0, vS []]) rfl (ex_buildN (vs := #[]) rfl (by simp only [List.map_toArray, List.map_nil]) (by kernel_rfl)) ?_)
     refine xS 1 rfl hv kIsz157 rfl (by exact ⟨rfl, rfl, rfl, rfl, rfl, rfl, rfl, rfl, trivial⟩) (fun w49 hv => ?_)
     simp only [zS, zO, sp] at hv
     refine uA rfl (uW k48 ?_)
     refine rR (tR ?_)
     refine bZ (tR ?_)
     refine tR (bZ ?_)
     refine tR (bodyPost_ret (res_cell2 rfl rfl (lM 1 kIwd157 hv rfl rfl rfl rfl)) rfl ?_)
     exact ⟨false, false, false, false, false, 0, 0, [], 42, rfl, .inl ⟨rfl, by have h9 := wsh1 hwf hx hix; simpa [hc47] using h9⟩, (hv.kp [] 0 2)⟩
    refine kS (tK k45 ?_)
    refine sK fun _ k50 => rL (uM rfl ?_)
    refine uF (vP b5) rfl (kIfa157_0 _ _ _) ?_
    refine uG (.pointer (some ⟨b5, 1, none⟩)) rfl (ex_index rfl rfl rfl (run_idxA1 (k := 1) kIua155 kIea155 (by omega))) ?_
    refine xV 0 (.bool true) rfl hv v8sz4 rfl rfl (fun w51 hv => ?_)
    simp only [zO, sp] at hv
    refine uW k50 (sK fun _ k52 => ?_)
    refine rL (uA rfl ?_)
    refine uW k52 (sK fun _ k53 => ?_)
    refine sK fun _ k54 => rL (uM rfl ?_)
    refine uW k54 (bB ?_)
    refine sK fun _ k55 => rL (uG (.bool false) rfl (ex_eql rfl rfl rfl (by decide)) ?_)
    refine uA rfl (uW k55 ?_)
    refine cF rfl (sK fun _ k56 => ?_)
    refine rL (uG (.bool false) rfl (ex_eql rfl rfl rfl (by decide)) ?_)
    refine uA rfl (uW k56 ?_)
    refine cF rfl (kS ?_)
    refine bN (tK k53 ?_)
    refine sK fun K57 k57 => ?_
    have hJ57 : ∀ (j3 j40 j41 j42 j43 j44 j45 j46 j47 j48 j49 j50 j51 j52 j53 j54 j55 j56 : Value) (w58 : World), (wishF ws wish0 = wishF (ws.drop (i + 1)) ⟨g0, true, g2, g3, g4, ns, tg⟩) → Inv B (Res.cell b5 [.bool g0, .bool true, .bool g2, .bool g3, .bool g4, vI 0, vI 0, vS tg] 157 :: Res.cell b2 [.bool false, .bool false, .bool false, .bool false, .bool false, vI 0, vI 0, vS []] 157 :: H) w58 → K57 { tmps := List.toArray (.slice (some ⟨kb, ko, none⟩) ws.length wc :: undef :: vP b2 :: j3 :: vP b5 :: .slice na ns.length nc :: vI i :: vI 1 :: vI 0 :: undef :: undef :: vI i :: .slice (some ⟨kb, ko, none⟩) ws.length wc :: vI (ws.length : Int) :: .bool true :: u15 :: u16 :: .slice (some ⟨kb, ko, none⟩) ws.length wc :: vI i :: .pointer (some ⟨kb, ko + i, none⟩) :: vS x :: .slice (some ⟨b16, 0, none⟩) 5 5 :: vI 1 :: vI 1 :: .bool false :: .bool false :: vI 1 :: vP b5 :: .pointer (some ⟨b5, 1, none⟩) :: .bool g1 :: .bool g1 :: u31 :: vI 1 :: vP b5 :: .pointer (some ⟨b5, 1, none⟩) :: vI 1 :: .bool false :: .bool false :: .bool false :: .bool false :: j40 :: j41 :: j42 :: j43 :: j44 :: j45 :: j46 :: j47 :: j48 :: j49 :: j50 :: j51 :: j52 :: j53 :: j54 :: j55 :: j56 :: u57 :: u58 :: u59 :: u60 :: u61 :: u62 :: u63 :: u64 :: u65 :: u66 :: u67 :: u68 :: u69 :: u70 :: u71 :: u72 :: u73 :: u74 :: u75 :: u76 :: undef :: undef :: undef :: undef :: undef :: undef :: undef :: undef :: undef :: undef :: undef :: undef :: undef :: undef :: undef :: undef :: undef :: undef :: undef :: undef :: undef :: []), defers := [] } w58 := by
     intro j3 j40 j41 j42 j43 j44 j45 j46 j47 j48 j49 j50 j51 j52 j53 j54 j55 j56 w58 hw9 hv
     refine k57 _ _ (sK fun _ k59 => ?_)
     refine sK fun _ k60 => rL (uM rfl ?_)
     refine uW k60 (bB ?_)
     refine sK fun _ k61 => rL (uG (.bool false) rfl (ex_eql rfl rfl rfl (by decide)) ?_)
     refine uA rfl (uW k61 ?_)
     refine cF rfl (sK fun _ k62 => ?_)
     refine rL (uG (.bool false) rfl (ex_eql rfl rfl rfl (by decide)) ?_)
     refine uA rfl (uW k62 ?_)
     refine cF rfl (kS ?_)
     refine bN (tK k59 ?_)
     refine rL (uM rfl ?_)
     refine uM rfl ?_
     refine uG (vI ((i + 0 : Nat) : Int)) rfl (ex_add rfl rfl rfl (by rw [i64_in (by omega)]; omega)) (uA rfl ?_)
     refine uZ (bN ?_)
     refine tK k14 (rL ?_)
     refine uM rfl ?_
     refine uG (vI ((i + 1 : Nat) : Int)) rfl (ex_add rfl rfl rfl (by rw [i64_in (by omega)]; omega)) (uA rfl ?_)
     refine uZ (then_normal ?_)
     simp only [vP, vI, vS]
     go_roundw
     case rel => exact ⟨i + 1, g0, true, g2, g3, g4, ns, _, _, tg, rfl, rfl, by omega, hw9, hrn, h3, hnl, ((hv.front 1 rfl).front 1 rfl)⟩
     case measure => show ws.length - (((i + 1 : Nat) : Int)).toNat < ws.length - ((i : Int)).toNat; omega
    refine sK fun _ k63 => rL (uM rfl ?_)
    refine uM rfl ?_
    refine uG (vI ((i : Int) + 0)) rfl (ex_add rfl rfl rfl (i64_in (by omega))) (uM rfl ?_)
    refine uG (vI (ws.length : Int)) rfl (ex_len0 Tryz.underlying26 rfl rfl) ?_
    refine uG (.bool false) rfl (ex_geq rfl rfl rfl (qF (by omega))) (uM rfl ?_)
    refine uF (vP b5) rfl (kIfa157_0 _ _ _) ?_
    refine uG (.pointer (some ⟨b5, 1, none⟩)) rfl (ex_index rfl rfl rfl (run_idxA1 (k := 1) kIua155 kIea155 (by omega))) ?_
    refine uL _ rfl (run_load1 s2na4 (hv.load 0 1 rfl rfl)) ?_
    refine uM rfl ?_
    refine uF (vP b5) rfl (kIfa157_0 _ _ _) ?_
    refine uG (.pointer (some ⟨b5, 2, none⟩)) rfl (ex_index rfl rfl rfl (run_idxA1 (k := 2) kIua155 kIea155 (by omega))) ?_
    refine uL _ rfl (run_load1 s2na4 (hv.load 0 2 rfl rfl)) ?_
    refine uK rfl (uK rfl ?_)
    refine uW k63 (wpIn_cond_split (t := g2) rfl (fun hc64 => ?_) (fun hc64 => ?_))
    ·refine sK fun _ k65 => rL (uG (.agg #[.bool false, .bool false, .bool false, .bool false, .bool false, vI 0, vI 0, vS []]) rfl (ex_buildN (vs := #[]) rfl (by simp only [List.map_toArray, List.map_nil]) (by kernel_rfl)) ?_)
     refine xS 1 rfl hv kIsz157 rfl (by exact ⟨rfl, rfl, rfl, rfl, rfl, rfl, rfl, rfl, trivial⟩) (fun w66 hv => ?_)
     simp only [zS, zO, sp] at hv
     refine uA rfl (uW k65 ?_)
     refine rR (tR ?_)
     clear hJ57
     refine bZ (tR ?_)
     refine tR (bZ ?_)
     refine tR (bodyPost_ret (res_cell2 rfl rfl (lM 1 kIwd157 hv rfl rfl rfl rfl)) rfl ?_)
     exact ⟨false, false, false, false, false, 0, 0, [], 42, rfl, .inl ⟨rfl, by have h9 := wsh1 hwf hx hix; simpa [hc47, hc64] using h9⟩, (hv.kp [] 0 2)⟩
    refine kS (then_normal (hJ57 _ _ _ _ _ _ _ _ _ _ _ _ _ _ _ _ _ _ _ (by have h9 := wsh1 hwf hx hix; simpa [hc47, hc64] using h9) hv))
   ·refine uA rfl (uW k15 ?_)
    refine sK fun _ k67 => sK fun _ k68 => rL (uM rfl ?_)
    refine uG (.bool false) rfl (ex_lss rfl rfl rfl (by decide)) (uM rfl ?_)
    refine uM rfl ?_
    refine uF (vP b5) rfl (kIfa157_0 _ _ _) ?_
    refine uG (.pointer (some ⟨b5, 2, none⟩)) rfl (ex_index rfl rfl rfl (run_idxA1 (k := 2) kIua155 kIea155 (by omega))) ?_
    refine uL _ rfl (run_load1 s2na4 (hv.load 0 2 rfl rfl)) (uK rfl ?_)
    refine uW k68 (wpIn_cond_split (t := g2) rfl (fun hc69 => ?_) (fun hc69 => ?_))
    ·refine sK fun _ k70 => rL (uG (.agg #[.bool false, .bool false, .bool false, .bool false, .bool false, vI 0, vI 0, vS []]) rfl (ex_buildN (vs := #[]) rfl (by simp only [List.map_toArray, List.map_nil]) (by kernel_rfl)) ?_)
     refine xS 1 rfl hv kIsz157 rfl (by exact ⟨rfl, rfl, rfl, rfl, rfl, rfl, rfl, rfl, trivial⟩) (fun w71 hv => ?_)
     simp only [zS, zO, sp] at hv
     refine uA rfl (uW k70 ?_)
     refine rR (tR ?_)
     refine bZ (tR ?_)
     refine tR (bZ ?_)
     refine tR (bodyPost_ret (res_cell2 rfl rfl (lM 1 kIwd157 hv rfl rfl rfl rfl)) rfl ?_)
     exact ⟨false, false, false, false, false, 0, 0, [], 42, rfl, .inl ⟨rfl, by have h9 := wsh2 hwf hx hix; simpa [hc69] using h9⟩, (hv.kp [] 0 2)⟩
    refine kS (tK k67 ?_)
    refine sK fun _ k72 => rL (uM rfl ?_)
    refine uF (vP b5) rfl (kIfa157_0 _ _ _) ?_
    refine uG (.pointer (some ⟨b5, 2, none⟩)) rfl (ex_index rfl rfl rfl (run_idxA1 (k := 2) kIua155 kIea155 (by omega))) ?_
    refine xV 0 (.bool true) rfl hv v8sz4 rfl rfl (fun w73 hv => ?_)
    simp only [zO, sp] at hv
    refine uW k72 (sK fun _ k74 => ?_)
    refine rL (uA rfl ?_)
    refine uW k74 (sK fun _ k75 => ?_)
    refine sK fun _ k76 => rL (uM rfl ?_)
    refine uW k76 (bB ?_)
    refine sK fun _ k77 => rL (uG (.bool false) rfl (ex_eql rfl rfl rfl (by decide)) ?_)
    refine uA rfl (uW k77 ?_)
    refine cF rfl (sK fun _ k78 => ?_)
    refine rL (uG (.bool false) rfl (ex_eql rfl rfl rfl (by decide)) ?_)
    refine uA rfl (uW k78 ?_)
    refine cF rfl (kS ?_)
    refine bN (tK k75 ?_)
    refine sK fun K79 k79 => ?_
    have hJ79 : ∀ (j3 j40 j41 j42 j43 j44 j45 j46 j47 j48 j49 j50 j51 j52 j53 j54 j55 j56 : Value) (w80 : World), (wishF ws wish0 = wishF (ws.drop (i + 1)) ⟨g0, g1, true, g3, g4, ns, tg⟩) → Inv B (Res.cell b5 [.bool g0, .bool g1, .bool true, .bool g3, .bool g4, vI 0, vI 0, vS tg] 157 :: Res.cell b2 [.bool false, .bool false, .bool false, .bool false, .bool false, vI 0, vI 0, vS []] 157 :: H) w80 → K79 { tmps := List.toArray (.slice (some ⟨kb, ko, none⟩) ws.length wc :: undef :: vP b2 :: j3 :: vP b5 :: .slice na ns.length nc :: vI i :: vI 2 :: vI 0 :: undef :: undef :: vI i :: .slice (some ⟨kb, ko, none⟩) ws.length wc :: vI (ws.length : Int) :: .bool true :: u15 :: u16 :: .slice (some ⟨kb, ko, none⟩) ws.length wc :: vI i :: .pointer (some ⟨kb, ko + i, none⟩) :: vS x :: .slice (some ⟨b16, 0, none⟩) 5 5 :: vI 2 :: vI 2 :: .bool false :: .bool false :: vI 2 :: vP b5 :: .pointer (some ⟨b5, 2, none⟩) :: .bool g2 :: .bool g2 :: u31 :: vI 2 :: vP b5 :: .pointer (some ⟨b5, 2, none⟩) :: vI 2 :: .bool false :: .bool false :: .bool false :: .bool false :: j40 :: j41 :: j42 :: j43 :: j44 :: j45 :: j46 :: j47 :: j48 :: j49 :: j50 :: j51 :: j52 :: j53 :: j54 :: j55 :: j56 :: u57 :: u58 :: u59 :: u60 :: u61 :: u62 :: u63 :: u64 :: u65 :: u66 :: u67 :: u68 :: u69 :: u70 :: u71 :: u72 :: u73 :: u74 :: u75 :: u76 :: undef :: undef :: undef :: undef :: undef :: undef :: undef :: undef :: undef :: undef :: undef :: undef :: undef :: undef :: undef :: undef :: undef :: undef :: undef :: undef :: undef :: []), defers := [] } w80 := by
     intro j3 j40 j41 j42 j43 j44 j45 j46 j47 j48 j49 j50 j51 j52 j53 j54 j55 j56 w80 hw9 hv
     refine k79 _ _ (sK fun _ k81 => ?_)
     refine sK fun _ k82 => rL (uM rfl ?_)
     refine uW k82 (bB ?_)
     refine sK fun _ k83 => rL (uG (.bool false) rfl (ex_eql rfl rfl rfl (by decide)) ?_)
     refine uA rfl (uW k83 ?_)
     refine cF rfl (sK fun _ k84 => ?_)
     refine rL (uG (.bool false) rfl (ex_eql rfl rfl rfl (by decide)) ?_)
     refine uA rfl (uW k84 ?_)
     refine cF rfl (kS ?_)
     refine bN (tK k81 ?_)
     refine rL (uM rfl ?_)
     refine uM rfl ?_
     refine uG (vI ((i + 0 : Nat) : Int)) rfl (ex_add rfl rfl rfl (by rw [i64_in (by omega)]; omega)) (uA rfl ?_)
     refine uZ (bN ?_)
     refine tK k14 (rL ?_)
     refine uM rfl ?_
     refine uG (vI ((i + 1 : Nat) : Int)) rfl (ex_add rfl rfl rfl (by rw [i64_in (by omega)]; omega)) (uA rfl ?_)
     refine uZ (then_normal ?_)
     simp only [vP, vI, vS]
     go_roundw
     case rel => exact ⟨i + 1, g0, g1, true, g3, g4, ns, _, _, tg, rfl, rfl, by omega, hw9, hrn, h3, hnl, ((hv.front 1 rfl).front 1 rfl)⟩
     case measure => show ws.length - (((i + 1 : Nat) : Int)).toNat < ws.length - ((i : Int)).toNat; omega
    refine sK fun _ k85 => rL (uM rfl ?_)
    refine uM rfl ?_
    refine uG (vI ((i : Int) + 0)) rfl (ex_add rfl rfl rfl (i64_in (by omega))) (uM rfl ?_)
    refine uG (vI (ws.length : Int)) rfl (ex_len0 Tryz.underlying26 rfl rfl) ?_
    refine uG (.bool false) rfl (ex_geq rfl rfl rfl (qF (by omega))) (uM rfl ?_)
    refine uF (vP b5) rfl (kIfa157_0 _ _ _) ?_
    refine uG (.pointer (some ⟨b5, 1, none⟩)) rfl (ex_index rfl rfl rfl (run_idxA1 (k := 1) kIua155 kIea155 (by omega))) ?_
    refine uL _ rfl (run_load1 s2na4 (hv.load 0 1 rfl rfl)) ?_
    refine uM rfl ?_
    cases g1
    ·iterate 3 refine uP rfl ?_
     refine uK rfl (uK rfl ?_)
     refine uW k85 (cF rfl ?_)
     refine kS (then_normal (hJ79 _ _ _ _ _ _ _ _ _ _ _ _ _ _ _ _ _ _ _ (by have h9 := wsh2 hwf hx hix; simpa [hc69] using h9) hv))
    refine uF (vP b5) rfl (kIfa157_0 _ _ _) ?_
    refine uG (.pointer (some ⟨b5, 2, none⟩)) rfl (ex_index rfl rfl rfl (run_idxA1 (k := 2) kIua155 kIea155 (by omega))) ?_
    refine uL _ rfl (run_load1 s2na4 (hv.load 0 2 rfl rfl)) ?_
    refine uK rfl (uK rfl ?_)
    refine uW k85 (cT rfl ?_)
    refine sK fun _ k86 => rL (uG (.agg #[.bool false, .bool false, .bool false, .bool false, .bool false, vI 0, vI 0, vS []]) rfl (ex_buildN (vs := #[]) rfl (by simp only [List.map_toArray, List.map_nil]) (by kernel_rfl)) ?_)
    refine xS 1 rfl hv kIsz157 rfl (by exact ⟨rfl, rfl, rfl, rfl, rfl, rfl, rfl, rfl, trivial⟩) (fun w87 hv => ?_)
    simp only [zS, zO, sp] at hv
    refine uA rfl (uW k86 ?_)
    refine rR (tR ?_)
    clear hJ79
    refine bZ (tR ?_)
    refine tR (bZ ?_)
    refine tR (bodyPost_ret (res_cell2 rfl rfl (lM 1 kIwd157 hv rfl rfl rfl rfl)) rfl ?_)
    exact ⟨false, false, false, false, false, 0, 0, [], 42, rfl, .inl ⟨rfl, by have h9 := wsh2 hwf hx hix; simpa [hc69] using h9⟩, (hv.kp [] 0 2)⟩
   ·refine uA rfl (uW k15 ?_)
    refine sK fun _ k88 => sK fun _ k89 => rL (uM rfl ?_)
    refine uG (.bool false) rfl (ex_lss rfl rfl rfl (by decide)) (uM rfl ?_)
    refine uM rfl ?_
    refine uF (vP b5) rfl (kIfa157_0 _ _ _) ?_
    refine uG (.pointer (some ⟨b5, 3, none⟩)) rfl (ex_index rfl rfl rfl (run_idxA1 (k := 3) kIua155 kIea155 (by omega))) ?_
    refine uL _ rfl (run_load1 s2na4 (hv.load 0 3 rfl rfl)) (uK rfl ?_)
    refine uW k89 (wpIn_cond_split (t := g3) rfl (fun hc90 => ?_) (fun hc90 => ?_))
    ·refine sK fun _ k91 => rL (uG (.agg #[.bool false, .bool false, .bool false, .bool false, .bool false, vI 0, vI 0, vS []]) rfl (ex_buildN (vs := #[]) rfl (by simp only [List.map_toArray, List.map_nil]) (by kernel_rfl)) ?_)
     refine xS 1 rfl hv kIsz157 rfl (by exact ⟨rfl, rfl, rfl, rfl, rfl, rfl, rfl, rfl, trivial⟩) (fun w92 hv => ?_)
     simp only [zS, zO, sp] at hv
     refine uA rfl (uW k91 ?_)
     refine rR (tR ?_)
     refine bZ (tR ?_)
     refine tR (bZ ?_)
     refine tR (bodyPost_ret (res_cell2 rfl rfl (lM 1 kIwd157 hv rfl rfl rfl rfl)) rfl ?_)
     by_cases hfw : i + 2 < ws.length
     ·obtain ⟨p, hp⟩ : ∃ x, ws[i + 1]? = some x := ⟨_, List.getElem?_eq_getElem (by omega)⟩
      obtain ⟨q, hq⟩ : ∃ x, ws[i + 2]? = some x := ⟨_, List.getElem?_eq_getElem (by omega)⟩
      exact ⟨false, false, false, false, false, 0, 0, [], 42, rfl, .inl ⟨rfl, by have h9 := wsh3 hwf hx hix hp hq; simpa [hc90] using h9⟩, (hv.kp [] 0 2)⟩
     exact ⟨false, false, false, false, false, 0, 0, [], 42, rfl, .inl ⟨rfl, wsh3n hwf hx hix (by omega)⟩, (hv.kp [] 0 2)⟩
    refine kS (tK k88 ?_)
    refine sK fun _ k93 => rL (uM rfl ?_)
    refine uF (vP b5) rfl (kIfa157_0 _ _ _) ?_
    refine uG (.pointer (some ⟨b5, 3, none⟩)) rfl (ex_index rfl rfl rfl (run_idxA1 (k := 3) kIua155 kIea155 (by omega))) ?_
    refine xV 0 (.bool true) rfl hv v8sz4 rfl rfl (fun w94 hv => ?_)
    simp only [zO, sp] at hv
    refine uW k93 (sK fun _ k95 => ?_)
    refine rL (uA rfl ?_)
    refine uW k95 (sK fun _ k96 => ?_)
    refine sK fun _ k97 => rL (uM rfl ?_)
    refine uW k97 (bB ?_)
    refine sK fun _ k98 => rL (uG (.bool true) rfl (ex_eql rfl rfl rfl (by decide)) ?_)
    refine uA rfl (uW k98 ?_)
    refine cT rfl (rL ?_)
    refine uA rfl (uZ ?_)
    refine bN (tK k96 ?_)
    refine sK fun K99 k99 => ?_
    have hJ99 : ∀ (p q : List UInt8) (j3 j40 j41 j42 j43 j44 j45 j46 j47 j48 j49 j50 j51 j52 j53 j54 j55 j56 : Value) (w100 : World), (ws[i + 1]? = some p) → (ws[i + 2]? = some q) → (wishF ws wish0 = wishF (ws.drop (i + 3)) ⟨g0, g1, g2, true, g4, [p, q], tg⟩) → Inv B (Res.cell b5 [.bool g0, .bool g1, .bool g2, .bool true, .bool g4, vI 0, vI 0, vS tg] 157 :: Res.cell b2 [.bool false, .bool false, .bool false, .bool false, .bool false, vI 0, vI 0, vS []] 157 :: H) w100 → K99 { tmps := List.toArray (.slice (some ⟨kb, ko, none⟩) ws.length wc :: undef :: vP b2 :: j3 :: vP b5 :: .slice na ns.length nc :: vI i :: vI 3 :: vI 2 :: undef :: undef :: vI i :: .slice (some ⟨kb, ko, none⟩) ws.length wc :: vI (ws.length : Int) :: .bool true :: u15 :: u16 :: .slice (some ⟨kb, ko, none⟩) ws.length wc :: vI i :: .pointer (some ⟨kb, ko + i, none⟩) :: vS x :: .slice (some ⟨b16, 0, none⟩) 5 5 :: vI 3 :: vI 3 :: .bool false :: .bool false :: vI 3 :: vP b5 :: .pointer (some ⟨b5, 3, none⟩) :: .bool g3 :: .bool g3 :: u31 :: vI 3 :: vP b5 :: .pointer (some ⟨b5, 3, none⟩) :: vI 3 :: .bool true :: .bool true :: u38 :: u39 :: j40 :: j41 :: j42 :: j43 :: j44 :: j45 :: j46 :: j47 :: j48 :: j49 :: j50 :: j51 :: j52 :: j53 :: j54 :: j55 :: j56 :: u57 :: u58 :: u59 :: u60 :: u61 :: u62 :: u63 :: u64 :: u65 :: u66 :: u67 :: u68 :: u69 :: u70 :: u71 :: u72 :: u73 :: u74 :: u75 :: u76 :: undef :: undef :: undef :: undef :: undef :: undef :: undef :: undef :: undef :: undef :: undef :: undef :: undef :: undef :: undef :: undef :: undef :: undef :: undef :: undef :: undef :: []), defers := [] } w100 := by
     intro p q j3 j40 j41 j42 j43 j44 j45 j46 j47 j48 j49 j50 j51 j52 j53 j54 j55 j56 w100 hp hq hw9 hv
     refine k99 _ _ ?_
     have hpl := (List.getElem?_eq_some_iff.1 hp).1
     have hql := (List.getElem?_eq_some_iff.1 hq).1
     refine sK fun _ k101 => sK fun _ k102 => rL (uM rfl ?_)
     refine uW k102 (bB ?_)
     refine sK fun _ k103 => rL (uG (.bool true) rfl (ex_eql rfl rfl rfl (by decide)) ?_)
     refine uA rfl (uW k103 ?_)
     refine cT rfl ?_
     have hokn := sliced_midV 1 hokw hrw (textCells_len _) (show i + 1 ≤ i + 3 by omega) (show i + 3 ≤ ws.length by omega) (by decide)
     obtain ⟨a3, c3, ha3, -, hrn3⟩ := hokn
     have e3 : (((textCells ws).drop ((i + 1) * 1)).take ((i + 3 - (i + 1)) * 1)) = textCells [p, q] := by
      rw [Nat.mul_one, Nat.mul_one, tx_drop, tx_take, drop_at hp, drop_at hq, show i + 3 - (i + 1) = 2 by omega]; rfl
     rw [e3] at hrn3
     refine rL (uM rfl ?_)
     refine uM rfl ?_
     refine uG (vI ((i + 1 : Nat) : Int)) rfl (ex_add rfl rfl rfl (by rw [i64_in (by omega)]; omega)) (uM rfl ?_)
     refine uG (vI ((i + 3 : Nat) : Int)) rfl (ex_add rfl rfl rfl (by rw [i64_in (by omega)]; omega)) ?_
     refine uG (.slice a3 2 c3) rfl (ex_slice (lo' := some (vI ((i + 1 : Nat) : Int))) (hi' := some (vI ((i + 3 : Nat) : Int))) rfl rfl (congrArg some rfl) (congrArg some rfl) rfl ((run_lhAny (l := i + 1) (h := i + 3) Tryz.underlying26 s9es26 (by omega) (by have := hokw.le; omega)).trans (by rw [ha3, show i + 3 - (i + 1) = 2 by omega]))) (uA rfl ?_)
     refine uZ (bN ?_)
     refine tK k101 (rL ?_)
     refine uM rfl (uM rfl ?_)
     refine uG (vI ((i + 2 : Nat) : Int)) rfl (ex_add rfl rfl rfl (by rw [i64_in (by omega)]; omega)) (uA rfl ?_)
     refine uZ (bN ?_)
     refine tK k14 (rL ?_)
     refine uM rfl ?_
     refine uG (vI ((i + 3 : Nat) : Int)) rfl (ex_add rfl rfl rfl (by rw [i64_in (by omega)]; omega)) (uA rfl ?_)
     refine uZ (then_normal ?_)
     simp only [vP, vI, vS]
     go_roundw
     case rel => exact ⟨i + 3, g0, g1, g2, true, g4, [p, q], _, _, tg, rfl, rfl, by omega, hw9, hrn3, fun _ => ⟨p, q, rfl⟩, Nat.le_refl _, ((hv.front 1 rfl).front 1 rfl)⟩
     case measure => show ws.length - (((i + 3 : Nat) : Int)).toNat < ws.length - ((i : Int)).toNat; omega
    refine sK fun _ k104 => rL (uM rfl ?_)
    refine uM rfl ?_
    refine uG (vI ((i : Int) + 2)) rfl (ex_add rfl rfl rfl (i64_in (by omega))) (uM rfl ?_)
    refine uG (vI (ws.length : Int)) rfl (ex_len0 Tryz.underlying26 rfl rfl) ?_
    by_cases hb105 : ((i : Int) + 2) ≥ (ws.length : Int)
    ·refine uG (.bool true) rfl (ex_geq rfl rfl rfl (qT hb105)) (uM rfl ?_)
     iterate 8 refine uP rfl ?_
     refine uK rfl (uW k104 ?_)
     refine cT rfl (sK fun _ k106 => ?_)
     refine rL (uG (.agg #[.bool false, .bool false, .bool false, .bool false, .bool false, vI 0, vI 0, vS []]) rfl (ex_buildN (vs := #[]) rfl (by simp only [List.map_toArray, List.map_nil]) (by kernel_rfl)) ?_)
     refine xS 1 rfl hv kIsz157 rfl (by exact ⟨rfl, rfl, rfl, rfl, rfl, rfl, rfl, rfl, trivial⟩) (fun w107 hv => ?_)
     simp only [zS, zO, sp] at hv
     refine uA rfl (uW k106 ?_)
     refine rR (tR ?_)
     clear hJ99
     refine bZ (tR ?_)
     refine tR (bZ ?_)
     refine tR (bodyPost_ret (res_cell2 rfl rfl (lM 1 kIwd157 hv rfl rfl rfl rfl)) rfl ?_)
     exact ⟨false, false, false, false, false, 0, 0, [], 42, rfl, .inl ⟨rfl, wsh3n hwf hx hix (by omega)⟩, (hv.kp [] 0 2)⟩
    obtain ⟨p, hp⟩ : ∃ x, ws[i + 1]? = some x := ⟨_, List.getElem?_eq_getElem (by omega)⟩
    obtain ⟨q, hq⟩ : ∃ x, ws[i + 2]? = some x := ⟨_, List.getElem?_eq_getElem (by omega)⟩
    refine uG (.bool false) rfl (ex_geq rfl rfl rfl (qF hb105)) (uM rfl ?_)
    refine uF (vP b5) rfl (kIfa157_0 _ _ _) ?_
    refine uG (.pointer (some ⟨b5, 1, none⟩)) rfl (ex_index rfl rfl rfl (run_idxA1 (k := 1) kIua155 kIea155 (by omega))) ?_
    refine uL _ rfl (run_load1 s2na4 (hv.load 0 1 rfl rfl)) ?_
    refine uM rfl ?_
    cases g1
    ·iterate 3 refine uP rfl ?_
     refine uK rfl (uK rfl ?_)
     refine uW k104 (cF rfl ?_)
     refine kS (then_normal (hJ99 p q _ _ _ _ _ _ _ _ _ _ _ _ _ _ _ _ _ _ _ hp hq (by have h9 := wsh3 hwf hx hix hp hq; simpa [hc90] using h9) hv))
    refine uF (vP b5) rfl (kIfa157_0 _ _ _) ?_
    refine uG (.pointer (some ⟨b5, 2, none⟩)) rfl (ex_index rfl rfl rfl (run_idxA1 (k := 2) kIua155 kIea155 (by omega))) ?_
    refine uL _ rfl (run_load1 s2na4 (hv.load 0 2 rfl rfl)) ?_
    refine uK rfl (uK rfl ?_)
    refine uW k104 (wpIn_cond_split (t := g2) rfl (fun hc108 => ?_) (fun hc108 => ?_))
    ·refine sK fun _ k109 => rL (uG (.agg #[.bool false, .bool false, .bool false, .bool false, .bool false, vI 0, vI 0, vS []]) rfl (ex_buildN (vs := #[]) rfl (by simp only [List.map_toArray, List.map_nil]) (by kernel_rfl)) ?_)
     refine xS 1 rfl hv kIsz157 rfl (by exact ⟨rfl, rfl, rfl, rfl, rfl, rfl, rfl, rfl, trivial⟩) (fun w110 hv => ?_)
     simp only [zS, zO, sp] at hv
     refine uA rfl (uW k109 ?_)
     refine rR (tR ?_)
     clear hJ99
     refine bZ (tR ?_)
     refine tR (bZ ?_)
     refine tR (bodyPost_ret (res_cell2 rfl rfl (lM 1 kIwd157 hv rfl rfl rfl rfl)) rfl ?_)
     exact ⟨false, false, false, false, false, 0, 0, [], 42, rfl, .inl ⟨rfl, by have h9 := wsh3 hwf hx hix hp hq; simpa [hc90, hc108] using h9⟩, (hv.kp [] 0 2)⟩
    refine kS (then_normal (hJ99 p q _ _ _ _ _ _ _ _ _ _ _ _ _ _ _ _ _ _ _ hp hq (by have h9 := wsh3 hwf hx hix hp hq; simpa [hc90, hc108] using h9) hv))
   refine uA rfl (uW k15 ?_)
   refine sK fun _ k111 => sK fun _ k112 => rL (uM rfl ?_)
   refine uG (.bool false) rfl (ex_lss rfl rfl rfl (by decide)) (uM rfl ?_)
   refine uM rfl ?_
   refine uF (vP b5) rfl (kIfa157_0 _ _ _) ?_
   refine uG (.pointer (some ⟨b5, 4, none⟩)) rfl (ex_index rfl rfl rfl (run_idxA1 (k := 4) kIua155 kIea155 (by omega))) ?_
   refine uL _ rfl (run_load1 s2na4 (hv.load 0 4 rfl rfl)) (uK rfl ?_)
   refine uW k112 (wpIn_cond_split (t := g4) rfl (fun hc113 => ?_) (fun hc113 => ?_))
   ·refine sK fun _ k114 => rL (uG (.agg #[.bool false, .bool false, .bool false, .bool false, .bool false, vI 0, vI 0, vS []]) rfl (ex_buildN (vs := #[]) rfl (by simp only [List.map_toArray, List.map_nil]) (by kernel_rfl)) ?_)
    refine xS 1 rfl hv kIsz157 rfl (by exact ⟨rfl, rfl, rfl, rfl, rfl, rfl, rfl, rfl, trivial⟩) (fun w115 hv => ?_)
    simp only [zS, zO, sp] at hv
    refine uA rfl (uW k114 ?_)
    refine rR (tR ?_)
    refine bZ (tR ?_)
    refine tR (bZ ?_)
    refine tR (bodyPost_ret (res_cell2 rfl rfl (lM 1 kIwd157 hv rfl rfl rfl rfl)) rfl ?_)
    by_cases hfw : i + 1 < ws.length
    ·obtain ⟨p, hp⟩ : ∃ x, ws[i + 1]? = some x := ⟨_, List.getElem?_eq_getElem (by omega)⟩
     exact ⟨false, false, false, false, false, 0, 0, [], 42, rfl, .inl ⟨rfl, by have h9 := wsh4 hwf hx hix hp; simpa [hc113] using h9⟩, (hv.kp [] 0 2)⟩
    exact ⟨false, false, false, false, false, 0, 0, [], 42, rfl, .inl ⟨rfl, wsh4n hwf hx hix (by omega)⟩, (hv.kp [] 0 2)⟩
   refine kS (tK k111 ?_)
   refine sK fun _ k116 => rL (uM rfl ?_)
   refine uF (vP b5) rfl (kIfa157_0 _ _ _) ?_
   refine uG (.pointer (some ⟨b5, 4, none⟩)) rfl (ex_index rfl rfl rfl (run_idxA1 (k := 4) kIua155 kIea155 (by omega))) ?_
   refine xV 0 (.bool true) rfl hv v8sz4 rfl rfl (fun w117 hv => ?_)
   simp only [zO, sp] at hv
   refine uW k116 (sK fun _ k118 => ?_)
   refine rL (uA rfl ?_)
   refine uW k118 (sK fun _ k119 => ?_)
   refine sK fun _ k120 => rL (uM rfl ?_)
   refine uW k120 (bB ?_)
   refine sK fun _ k121 => rL (uG (.bool false) rfl (ex_eql rfl rfl rfl (by decide)) ?_)
   refine uA rfl (uW k121 ?_)
   refine cF rfl (sK fun _ k122 => ?_)
   refine rL (uG (.bool true) rfl (ex_eql rfl rfl rfl (by decide)) ?_)
   refine uA rfl (uW k122 ?_)
   refine cT rfl (rL ?_)
   refine uA rfl (uZ ?_)
   refine bN (tK k119 ?_)
   refine sK fun K123 k123 => ?_
   have hJ123 : ∀ (p : List UInt8) (j3 j40 j41 j42 j43 j44 j45 j46 j47 j48 j49 j50 j51 j52 j53 j54 j55 j56 : Value) (w124 : World), (ws[i + 1]? = some p) → (wishF ws wish0 = wishF (ws.drop (i + 2)) ⟨g0, g1, g2, g3, true, ns, p⟩) → Inv B (Res.cell b5 [.bool g0, .bool g1, .bool g2, .bool g3, .bool true, vI 0, vI 0, vS tg] 157 :: Res.cell b2 [.bool false, .bool false, .bool false, .bool false, .bool false, vI 0, vI 0, vS []] 157 :: H) w124 → K123 { tmps := List.toArray (.slice (some ⟨kb, ko, none⟩) ws.length wc :: undef :: vP b2 :: j3 :: vP b5 :: .slice na ns.length nc :: vI i :: vI 4 :: vI 1 :: undef :: undef :: vI i :: .slice (some ⟨kb, ko, none⟩) ws.length wc :: vI (ws.length : Int) :: .bool true :: u15 :: u16 :: .slice (some ⟨kb, ko, none⟩) ws.length wc :: vI i :: .pointer (some ⟨kb, ko + i, none⟩) :: vS x :: .slice (some ⟨b16, 0, none⟩) 5 5 :: vI 4 :: vI 4 :: .bool false :: .bool false :: vI 4 :: vP b5 :: .pointer (some ⟨b5, 4, none⟩) :: .bool g4 :: .bool g4 :: u31 :: vI 4 :: vP b5 :: .pointer (some ⟨b5, 4, none⟩) :: vI 4 :: .bool false :: .bool false :: .bool true :: .bool true :: j40 :: j41 :: j42 :: j43 :: j44 :: j45 :: j46 :: j47 :: j48 :: j49 :: j50 :: j51 :: j52 :: j53 :: j54 :: j55 :: j56 :: u57 :: u58 :: u59 :: u60 :: u61 :: u62 :: u63 :: u64 :: u65 :: u66 :: u67 :: u68 :: u69 :: u70 :: u71 :: u72 :: u73 :: u74 :: u75 :: u76 :: undef :: undef :: undef :: undef :: undef :: undef :: undef :: undef :: undef :: undef :: undef :: undef :: undef :: undef :: undef :: undef :: undef :: undef :: undef :: undef :: undef :: []), defers := [] } w124 := by
    intro p j3 j40 j41 j42 j43 j44 j45 j46 j47 j48 j49 j50 j51 j52 j53 j54 j55 j56 w124 hp hw9 hv
    refine k123 _ _ ?_
    have hpl := (List.getElem?_eq_some_iff.1 hp).1
    refine sK fun _ k125 => sK fun _ k126 => rL (uM rfl ?_)
    refine uW k126 (bB ?_)
    refine sK fun _ k127 => rL (uG (.bool false) rfl (ex_eql rfl rfl rfl (by decide)) ?_)
    refine uA rfl (uW k127 ?_)
    refine cF rfl (sK fun _ k128 => ?_)
    refine rL (uG (.bool true) rfl (ex_eql rfl rfl rfl (by decide)) ?_)
    refine uA rfl (uW k128 ?_)
    refine cT rfl ?_
    obtain ⟨b9, o9, had9, hrdp⟩ := text_reads hrw hp
    cases had9
    refine rL (uM rfl ?_)
    refine uM rfl ?_
    refine uG (vI ((i + 1 : Nat) : Int)) rfl (ex_add rfl rfl rfl (by rw [i64_in (by omega)]; omega)) ?_
    refine uG (.pointer (some ⟨kb, ko + (i + 1 : Nat), none⟩)) rfl (ex_index rfl rfl rfl (run_idx1 (k := (i + 1 : Nat)) Tryz.underlying26 s9es26 (by omega))) ?_
    refine uL _ rfl (run_load1 s9na9 (hrdp _ _ _ (Base.Le.refl _) no_res hv 0 _ rfl)) ?_
    refine uF (.pointer (some ⟨b5, 7, none⟩)) rfl (kIfa157_3 _ _ _) ?_
    refine xV 0 (vS p) rfl hv s12sz9 rfl rfl (fun w129 hv => ?_)
    simp only [zO, sp] at hv
    refine uZ (bN ?_)
    refine tK k125 (rL ?_)
    refine uM rfl (uM rfl ?_)
    refine uG (vI ((i + 1 : Nat) : Int)) rfl (ex_add rfl rfl rfl (by rw [i64_in (by omega)]; omega)) (uA rfl ?_)
    refine uZ (bN ?_)
    refine tK k14 (rL ?_)
    refine uM rfl ?_
    refine uG (vI ((i + 2 : Nat) : Int)) rfl (ex_add rfl rfl rfl (by rw [i64_in (by omega)]; omega)) (uA rfl ?_)
    refine uZ (then_normal ?_)
    simp only [vP, vI, vS]
    go_roundw
    case rel => exact ⟨i + 2, g0, g1, g2, g3, true, ns, _, _, p, rfl, rfl, by omega, hw9, hrn, h3, hnl, ((hv.front 1 rfl).front 1 rfl)⟩
    case measure => show ws.length - (((i + 2 : Nat) : Int)).toNat < ws.length - ((i : Int)).toNat; omega
   refine sK fun _ k130 => rL (uM rfl ?_)
   refine uM rfl ?_
   refine uG (vI ((i : Int) + 1)) rfl (ex_add rfl rfl rfl (i64_in (by omega))) (uM rfl ?_)
   refine uG (vI (ws.length : Int)) rfl (ex_len0 Tryz.underlying26 rfl rfl) ?_
   by_cases hb131 : ((i : Int) + 1) ≥ (ws.length : Int)
   ·refine uG (.bool true) rfl (ex_geq rfl rfl rfl (qT hb131)) (uM rfl ?_)
    iterate 8 refine uP rfl ?_
    refine uK rfl (uW k130 ?_)
    refine cT rfl (sK fun _ k132 => ?_)
    refine rL (uG (.agg #[.bool false, .bool false, .bool false, .bool false, .bool false, vI 0, vI 0, vS []]) rfl (ex_buildN (vs := #[]) rfl (by simp only [List.map_toArray, List.map_nil]) (by kernel_rfl)) ?_)
    refine xS 1 rfl hv kIsz157 rfl (by exact ⟨rfl, rfl, rfl, rfl, rfl, rfl, rfl, rfl, trivial⟩) (fun w133 hv => ?_)
    simp only [zS, zO, sp] at hv
    refine uA rfl (uW k132 ?_)
    refine rR (tR ?_)
    clear hJ123
    refine bZ (tR ?_)
    refine tR (bZ ?_)
    refine tR (bodyPost_ret (res_cell2 rfl rfl (lM 1 kIwd157 hv rfl rfl rfl rfl)) rfl ?_)
    exact ⟨false, false, false, false, false, 0, 0, [], 42, rfl, .inl ⟨rfl, wsh4n hwf hx hix (by omega)⟩, (hv.kp [] 0 2)⟩
   obtain ⟨p, hp⟩ : ∃ x, ws[i + 1]? = some x := ⟨_, List.getElem?_eq_getElem (by omega)⟩
   refine uG (.bool false) rfl (ex_geq rfl rfl rfl (qF hb131)) (uM rfl ?_)
   refine uF (vP b5) rfl (kIfa157_0 _ _ _) ?_
   refine uG (.pointer (some ⟨b5, 1, none⟩)) rfl (ex_index rfl rfl rfl (run_idxA1 (k := 1) kIua155 kIea155 (by omega))) ?_
   refine uL _ rfl (run_load1 s2na4 (hv.load 0 1 rfl rfl)) ?_
   refine uM rfl ?_
   cases g1
   ·iterate 3 refine uP rfl ?_
    refine uK rfl (uK rfl ?_)
    refine uW k130 (cF rfl ?_)
    refine kS (then_normal (hJ123 p _ _ _ _ _ _ _ _ _ _ _ _ _ _ _ _ _ _ _ hp (by have h9 := wsh4 hwf hx hix hp; simpa [hc113] using h9) hv))
   refine uF (vP b5) rfl (kIfa157_0 _ _ _) ?_
   refine uG (.pointer (some ⟨b5, 2, none⟩)) rfl (ex_index rfl rfl rfl (run_idxA1 (k := 2) kIua155 kIea155 (by omega))) ?_
   refine uL _ rfl (run_load1 s2na4 (hv.load 0 2 rfl rfl)) ?_
   refine uK rfl (uK rfl ?_)
   refine uW k130 (wpIn_cond_split (t := g2) rfl (fun hc134 => ?_) (fun hc134 => ?_))
   ·refine sK fun _ k135 => rL (uG (.agg #[.bool false, .bool false, .bool false, .bool false, .bool false, vI 0, vI 0, vS []]) rfl (ex_buildN (vs := #[]) rfl (by simp only [List.map_toArray, List.map_nil]) (by kernel_rfl)) ?_)
    refine xS 1 rfl hv kIsz157 rfl (by exact ⟨rfl, rfl, rfl, rfl, rfl, rfl, rfl, rfl, trivial⟩) (fun w136 hv => ?_)
    simp only [zS, zO, sp] at hv
    refine uA rfl (uW k135 ?_)
    refine rR (tR ?_)
    clear hJ123
    refine bZ (tR ?_)
    refine tR (bZ ?_)
    refine tR (bodyPost_ret (res_cell2 rfl rfl (lM 1 kIwd157 hv rfl rfl rfl rfl)) rfl ?_)
    exact ⟨false, false, false, false, false, 0, 0, [], 42, rfl, .inl ⟨rfl, by have h9 := wsh4 hwf hx hix hp; simpa [hc113, hc134] using h9⟩, (hv.kp [] 0 2)⟩
   refine kS (then_normal (hJ123 p _ _ _ _ _ _ _ _ _ _ _ _ _ _ _ _ _ _ _ hp (by have h9 := wsh4 hwf hx hix hp; simpa [hc113, hc134] using h9) hv))
  refine uG (.bool false) rfl (ex_lss rfl rfl rfl (qF hb13)) (uW k12 ?_)
  refine cF rfl (xE ?_)
  refine tX (tX ?_)
  refine bH (tK k8 ?_)
  refine sK fun _ k137 => rL (uM rfl ?_)
  obtain rfl : i = ws.length := by omega
  rw [List.drop_length] at hwf
  replace hwf : wishF ws wish0 = some _ := hwf
  refine xC v8callable82 rfl ((viewInts B _ _ na nc ns hrn (by omega) hN hv).mono ?_) rfl
  rintro e w138 ⟨C, oa, oc, xs, ec, hC, rfl, hro, hir, hv⟩
  refine ⟨_, rfl, uM rfl ?_⟩
  refine uE rfl (uE rfl ?_)
  refine uA rfl (uA rfl ?_)
  refine uW k137 (sK fun _ k139 => ?_)
  refine sK fun _ k140 => rL (uM rfl ?_)
  by_cases hb141 : ec ≠ 0
  ·refine uG (.bool true) rfl (ex_neq rfl rfl rfl (qT hb141)) (uW k140 ?_)
   refine cT rfl (sK fun _ k142 => ?_)
   refine rL (uG (.agg #[.bool false, .bool false, .bool false, .bool false, .bool false, vI 0, vI 0, vS []]) rfl (ex_buildN (vs := #[]) rfl (by simp only [List.map_toArray, List.map_nil]) (by kernel_rfl)) ?_)
   refine uM rfl ?_
   refine xS 1 rfl hv kIsz157 rfl (by exact ⟨rfl, rfl, rfl, rfl, rfl, rfl, rfl, rfl, trivial⟩) (fun w143 hv => ?_)
   simp only [zS, zO, sp] at hv
   refine uA rfl (uW k142 ?_)
   refine rR (tR ?_)
   refine bodyPost_ret (res_cell2 rfl rfl (lM 1 kIwd157 hv rfl rfl rfl rfl)) rfl (⟨false, false, false, false, false, 0, 0, [], ec, rfl, .inr ⟨_, hwf, .inl (hir.elim (fun h => absurd h.1 (fun h9 => hb141 h9)) fun h => ⟨h.1, h.2.2⟩)⟩, ((hv.kp [] 0 2)).weak hC⟩)
  refine uG (.bool false) rfl (ex_neq rfl rfl rfl (qF hb141)) (uW k140 ?_)
  refine cF rfl (kS ?_)
  refine tK k139 (sK fun _ k144 => ?_)
  refine sK fun _ k145 => rL (uF (vP b5) rfl (kIfa157_0 _ _ _) ?_)
  refine uG (.pointer (some ⟨b5, 3, none⟩)) rfl (ex_index rfl rfl rfl (run_idxA1 (k := 3) kIua155 kIea155 (by omega))) ?_
  refine uL _ rfl (run_load1 s2na4 (hv.load 0 3 rfl rfl)) (uW k145 ?_)
  refine wpIn_cond_split (t := g3) rfl (fun hc146 => ?_) (fun hc146 => ?_)
  ·obtain ⟨p, q, rfl⟩ := h3 hc146
   obtain ⟨hxl2, hnum⟩ : xs.length = 2 ∧ ∀ (i : Nat) t n, [p, q][i]? = some t → xs[i]? = some n → NumP t n true := hir.elim (fun h => ⟨h.2.1, h.2.2⟩) fun h => absurd h.1 (by omega)
   obtain ⟨n0, n1, rfl⟩ : ∃ n0 n1, xs = [n0, n1] := by
    match xs, hxl2 with
    | [n0, n1], _ => exact ⟨n0, n1, rfl⟩
   have hnp := hnum 0 p n0 rfl rfl
   have hnq := hnum 1 q n1 rfl rfl
   obtain ⟨ib, io, had, hrd0⟩ := int_reads hro (show [n0, n1][0]? = some n0 from rfl)
   obtain ⟨ib9, io9, had9, hrd1⟩ := int_reads hro (show [n0, n1][1]? = some n1 from rfl)
   subst had
   cases had9
   refine rW mixed [7, 9] [0,1,2,3,4,5,6,7,8,9] 98 rfl (by kernel_rfl) hv ?_
   simp only [qm, opAt]
   refine dM (.slice (some ⟨ib, io, none⟩) ([n0, n1].length) oc) rfl (dG (.pointer (some ⟨ib, io + 0, none⟩)) rfl (ex_index rfl rfl rfl (run_idx1 (k := 0) Tryz.underlying145 s11es145 (by omega))) ?_)
   refine dL _ rfl (fun hv => ex_load rfl rfl (run_load1 s2na3 (hrd0 _ _ _ (Base.Le.refl _) no_res hv 0 _ rfl))) ?_
   simp only [zP, po]
   refine dM (.slice (some ⟨ib, io, none⟩) ([n0, n1].length) oc) rfl (dG (.pointer (some ⟨ib, io + 1, none⟩)) rfl (ex_index rfl rfl rfl (run_idx1 (k := 1) Tryz.underlying145 s11es145 (by omega))) ?_)
   refine dF _ rfl (fun hv => ex_load rfl rfl (run_load1 s2na3 (hrd1 _ _ _ (Base.Le.refl _) no_res hv 0 _ rfl))) fun f147 hf147 => ?_
   simp only [zP, po]
   refine dG (.pointer (some ⟨b5, 5, none⟩)) rfl (ex_field rfl rfl (kIfa157_1 _ _ _)) (dS rfl fun w148 hv => ?_)
   refine mV 0 (vI n0) rfl hv x3sz3 rfl rfl (fun w149 hv => ?_)
   simp only [zO, sp] at hv
   refine dV hv (fC (fun ww hv => hf147 ww (ex_load rfl rfl (run_load1 s2na3 (hrd1 _ _ _ (Base.Le.refl _) no_res hv 0 _ rfl)))) fN) (dG (.pointer (some ⟨b5, 6, none⟩)) rfl (ex_field rfl rfl (kIfa157_2 _ _ _)) ?_)
   simp only [zP, po]
   refine dS rfl fun w150 hv => mV 0 (vI n1) rfl hv x3sz3 rfl rfl (fun w151 hv => ?_)
   simp only [zO, sp] at hv
   refine dV hv (fK rfl fN) (dE fun w152 hv => ?_)
   simp only [zP, po]
   refine tK k144 (sK fun _ k153 => ?_)
   refine rL (uL (.agg #[.bool g0, .bool g1, .bool g2, .bool g3, .bool g4, vI n0, vI n1, vS tg]) rfl (lM 0 kIwd157 hv rfl rfl rfl rfl) ?_)
   refine xS 1 rfl hv kIsz157 rfl (by exact ⟨rfl, rfl, rfl, rfl, rfl, rfl, rfl, rfl, trivial⟩) (fun w154 hv => ?_)
   simp only [zS, zO, sp] at hv
   refine uA rfl (uW k153 ?_)
   refine rR (bodyPost_ret (res_cell2 rfl rfl (lM 1 kIwd157 hv rfl rfl rfl rfl)) rfl ?_)
   exact ⟨g0, g1, g2, g3, g4, n0, n1, tg, 0, rfl, .inr ⟨_, hwf, .inr ⟨rfl, rfl, rfl, rfl, rfl, rfl, rfl, fun _ => ⟨p, q, rfl, hnp, hnq⟩⟩⟩, ((hv.kp [] 0 2)).weak hC⟩
  refine kS (tK k144 ?_)
  refine sK fun _ k155 => rL (uL (.agg #[.bool g0, .bool g1, .bool g2, .bool g3, .bool g4, vI 0, vI 0, vS tg]) rfl (lM 0 kIwd157 hv rfl rfl rfl rfl) ?_)
  refine xS 1 rfl hv kIsz157 rfl (by exact ⟨rfl, rfl, rfl, rfl, rfl, rfl, rfl, rfl, trivial⟩) (fun w156 hv => ?_)
  simp only [zS, zO, sp] at hv
  refine uA rfl (uW k155 ?_)
  refine rR (bodyPost_ret (res_cell2 rfl rfl (lM 1 kIwd157 hv rfl rfl rfl rfl)) rfl ?_)
  exact ⟨g0, g1, g2, g3, g4, 0, 0, tg, 0, rfl, .inr ⟨_, hwf, .inr ⟨rfl, rfl, rfl, rfl, rfl, rfl, rfl, fun h9 => (by rw [hc146] at h9; cases h9)⟩⟩, ((hv.kp [] 0 2)).weak hC⟩
def thingsV (v : Val) : List (List UInt8) := if v.kind = 3 ∨ v.kind = 4 then v.texts else v.zset.map (·.2)
def ThingsR (M : List (List UInt8 × Ver)) (clk : Int) (k : List UInt8) (out : List (List UInt8)) (ec : Int) : Prop := (gotM M clk k = none ∧ out = [] ∧ ec = 0) ∨ ∃ y, gotM M clk k = some y ∧ (((y.val.kind = 3 ∨ y.val.kind = 4 ∨ y.val.kind = 5) ∧ ec = 0 ∧ out = thingsV y.val) ∨ (y.val.kind ≠ 3 ∧ y.val.kind ≠ 4 ∧ y.val.kind ≠ 5 ∧ ec = 40 ∧ out = []))
theorem kFal50 : AL Tryz.prog 50 [vI 0, .bool false, vI 0, vI 0, vS [], vN, vN, vN] := fun w => by kernel_rfl
theorem kFmk9 : (Tryz.prog.info? 9).map (fun i => (i.zero, i.size, i.bytes)) = some (some (vS []), 1, 16) := by kernel_rfl
theorem kFel26 : Elem Tryz.prog 26 9 (vS []) 1 16 := elem_of Tryz.underlying26 kFmk9 (by rfl) (by decide)
theorem kFal88 : AL Tryz.prog 88 [vI 0, vS []] := fun w => by kernel_rfl
theorem ckThings (B : Base) (H : List Res) (w : World) (v t m s p wb : Nat) (va : Option Addr) (vc : Nat) (sv : Value) (clk : Int) (es : List (List UInt8 × Value)) (M : List (List UInt8 × Ver)) (hM : VM B es M) (aa : Option Addr) (an ac : Nat) (k : List UInt8) (hv : Inv B (Res.cell v [.iface 100 (vP t)] 56 :: txR t m s p wb va vc sv clk es :: H) w) :
  Calls Tryz.prog 91 #[.agg #[vP v, .slice aa an ac], vS k] w fun e w' => ∃ C oa oc out ec, B.Le C ∧ e = .returned (.tuple #[.slice oa out.length oc, vI ec]) ∧ ThingsR M clk k out ec ∧ out.length ≤ 1000000 ∧ SliceOk oa out.length oc ∧ RdV C [] oa (textCells out) ∧ Inv C (Res.cell v [.iface 100 (vP t)] 56 :: txR t m s p wb va vc sv clk es :: H) w' := by
 refine cW Tryz.func91 rfl Tryz.ntmps91 ?_
 simp only [al]
 refine sK fun _ k1 => rL (sl_box (L := [vP v, .slice aa an ac]) tV (wn rfl) rfl rfl hv (fun w => by kernel_rfl) (fun b2 w3 hv => ?_))
 refine uA rfl (uA rfl ?_)
 refine uW k1 (sK fun _ k4 => ?_)
 refine rL (uF (vP b2) rfl (k1fa80_0 _ _ _) ?_)
 refine uL _ rfl (run_load1 k1na24 (hv.load 0 0 rfl rfl)) ?_
 refine uG (vP v) rfl (ex_nil rfl rfl) ?_
 refine uF (vP v) rfl (v1fa56_0 _ _ _) ?_
 refine uL _ rfl (run_load1 v1na54 (hv.load 1 0 rfl rfl)) (uM rfl ?_)
 replace hv := hv.front 2 rfl
 simp only [eS, eZ] at hv
 refine wpi_callI v1callable215 tV wideC rfl (wn rfl) rfl rfl (r := vP t) (fun w => by kernel_rfl) (args := #[vS k]) (by simp only [List.map_toArray, List.map_cons, List.map_nil]; rfl) ((txnGet B _ _ t m s p wb va vc sv clk es M k (hM.more (Base.Le.refl _)) hv).mono ?_)
 rintro e w5 ⟨G, y, yp, yt, yz, ok, hG, rfl, hgot, hyv, hv⟩
 refine ⟨_, rfl, ?_⟩
 obtain ⟨pa, pc, sa, sc, za, zc, rfl, rfl, rfl, hokp, hrp, hoks, hrs, hokz, hrz⟩ := valAt_open hyv
 rcases got_of hgot with ⟨rfl, hg⟩ | ⟨rfl, rfl, hg⟩
 ·refine uM rfl (uE rfl ?_)
  refine uE rfl ?_
  refine sl_alloc tV (wn rfl) rfl hv kFal50 (fun b6 w7 hv => ?_)
  refine xS 0 rfl hv x0sz50 rfl (by exact ⟨rfl, rfl, rfl, rfl, rfl, rfl, rfl, rfl, trivial⟩) (fun w8 hv => ?_)
  simp only [zO, sp] at hv
  refine uA rfl (uW k4 ?_)
  refine sK fun _ k9 => sK fun _ k10 => rL (uM rfl ?_)
  refine uG (.bool false) rfl (ex_not rfl rfl rfl) (uW k10 ?_)
  refine cF rfl (kS ?_)
  refine tK k9 (sK fun _ k11 => ?_)
  refine rL (uA rfl ?_)
  refine uW k11 (sK fun _ k12 => ?_)
  refine sK fun _ k13 => rL (uF (.pointer (some ⟨b6, 3, none⟩)) rfl (x2fa50_3 _ _ _) ?_)
  refine uF (.pointer (some ⟨b6, 3, none⟩)) rfl (s12fa43_0 _ _ _) ?_
  refine uL _ rfl (run_load1 s2na3 (hv.load 0 3 rfl rfl)) (uW k13 ?_)
  refine bB (sK fun _ k14 => ?_)
  refine sK fun _ k15 => rL ?_
  by_cases hb16 : y.val.kind = 3
  ·refine uG (.bool true) rfl (ex_eql rfl rfl rfl (qT hb16)) (uA rfl ?_)
   refine uW k15 (cT rfl ?_)
   refine kS (tK k14 ?_)
   refine cT rfl ?_
   replace hv := hv.rowNil 9 1
   refine rL (uM rfl ?_)
   refine uF (.pointer (some ⟨b6, 3, none⟩)) rfl (x2fa50_3 _ _ _) ?_
   refine uF (.pointer (some ⟨b6, 6, none⟩)) rfl (s1fa43_3 _ _ _) ?_
   refine uL _ rfl (run_load1 s1na26 (hv.load 1 6 rfl rfl)) ?_
   refine sl_append (news := textCells y.val.texts) tV (wn rfl) rfl rfl rfl kFel26 hv hoks (textCells_len _) ((hrs.more (Base.Le.refl _) (fun _ h => by cases h) : RdV G _ _ _).src hv) ((textCells_one _)) (by have := hyv.tm; unfold maxLen; omega) (by have := hyv.tm; omega) (fun rv17 w20 hv => ?_)
   obtain ⟨ra18, rc19, rfl⟩ := row_slice hv.head
   refine uA rfl (uZ ?_)
   refine bN (tK k12 ?_)
   refine sK fun _ k21 => rL (uM rfl ?_)
   refine uA rfl (uA rfl ?_)
   refine uW k21 (rR ?_)
   refine bodyPost_ret (results_tmp2 rfl _ _ _) rfl ?_
   obtain ⟨E, hE, hv, hro, hoko, -⟩ := (((((hv.front 2 rfl).front 4 rfl).front 2 rfl).sub (sC _ (sC _ (sC _ (sD _ (sD _ (sR _)))))))).rowBy
   exact ⟨E, _, _, y.val.texts, 0, hG.trans hE, by rw [Nat.zero_add]; rfl, .inr ⟨y, hg, .inl ⟨.inl hb16, rfl, (if_pos (.inl hb16)).symm⟩⟩, hyv.tm, by rw [Nat.zero_add] at hoko; exact hoko, hro, hv⟩
  refine uG (.bool false) rfl (ex_eql rfl rfl rfl (qF hb16)) (uA rfl ?_)
  refine uW k15 (cF rfl ?_)
  refine rL ?_
  by_cases hb22 : y.val.kind = 4
  ·refine uG (.bool true) rfl (ex_eql rfl rfl rfl (qT hb22)) (uA rfl ?_)
   refine uW k14 (cT rfl ?_)
   replace hv := hv.rowNil 9 1
   refine rL (uM rfl ?_)
   refine uF (.pointer (some ⟨b6, 3, none⟩)) rfl (x2fa50_3 _ _ _) ?_
   refine uF (.pointer (some ⟨b6, 6, none⟩)) rfl (s1fa43_3 _ _ _) ?_
   refine uL _ rfl (run_load1 s1na26 (hv.load 1 6 rfl rfl)) ?_
   refine sl_append (news := textCells y.val.texts) tV (wn rfl) rfl rfl rfl kFel26 hv hoks (textCells_len _) ((hrs.more (Base.Le.refl _) (fun _ h => by cases h) : RdV G _ _ _).src hv) ((textCells_one _)) (by have := hyv.tm; unfold maxLen; omega) (by have := hyv.tm; omega) (fun rv23 w26 hv => ?_)
   obtain ⟨ra24, rc25, rfl⟩ := row_slice hv.head
   refine uA rfl (uZ ?_)
   refine bN (tK k12 ?_)
   refine sK fun _ k27 => rL (uM rfl ?_)
   refine uA rfl (uA rfl ?_)
   refine uW k27 (rR ?_)
   refine bodyPost_ret (results_tmp2 rfl _ _ _) rfl ?_
   obtain ⟨E, hE, hv, hro, hoko, -⟩ := (((((hv.front 2 rfl).front 4 rfl).front 2 rfl).sub (sC _ (sC _ (sC _ (sD _ (sD _ (sR _)))))))).rowBy
   exact ⟨E, _, _, y.val.texts, 0, hG.trans hE, by rw [Nat.zero_add]; rfl, .inr ⟨y, hg, .inl ⟨.inr (.inl hb22), rfl, (if_pos (.inr hb22)).symm⟩⟩, hyv.tm, by rw [Nat.zero_add] at hoko; exact hoko, hro, hv⟩
  refine uG (.bool false) rfl (ex_eql rfl rfl rfl (qF hb22)) (uA rfl ?_)
  refine uW k14 (cF rfl ?_)
  refine sK fun _ k28 => rL ?_
  by_cases hb29 : y.val.kind = 5
  ·refine uG (.bool true) rfl (ex_eql rfl rfl rfl (qT hb29)) (uA rfl ?_)
   refine uW k28 (cT rfl ?_)
   refine sK fun _ k30 => ?_
   replace hv := hv.rowNil 9 1
   refine rL (uF (.pointer (some ⟨b6, 3, none⟩)) rfl (x2fa50_3 _ _ _) ?_)
   refine uF (.pointer (some ⟨b6, 7, none⟩)) rfl (s1fa43_4 _ _ _) ?_
   refine uL _ rfl (run_load1 s1na41 (hv.load 1 7 rfl rfl)) ?_
   refine uG (vI (y.val.zset.length : Int)) rfl (ex_len0 Tryz.underlying41 rfl rfl) (uM rfl ?_)
   refine uW k30 (bB ?_)
   gi_loopw [8, 40] (fun x8 x40 wr => ∃ (i : Nat) (fa : Option Addr) (fc : Nat), x8 = .slice fa i fc ∧ x40 = vI i ∧ i ≤ y.val.zset.length ∧ Inv G (Res.row 9 1 (.slice fa i fc) i (textCells ((y.val.zset.take i).map (·.2))) :: Res.cell b6 [vI y.stamp, .bool y.gone, vI y.expire, vI y.val.kind, vS y.val.text, .slice pa y.val.pairs.length pc, .slice sa y.val.texts.length sc, .slice za y.val.zset.length zc] 50 :: txR t m s p wb va vc sv clk es :: Res.cell b2 [vP v, .slice aa an ac] 80 :: Res.cell v [.iface 100 (vP t)] 56 :: H) wr) (fun x8 x40 _ => y.val.zset.length - (intOf x40).toNat)
   case atStart => exact ⟨0, _, _, rfl, rfl, Nat.zero_le _, (((((hv.front 4 rfl).front 4 rfl).front 4 rfl).front 4 rfl).front 4 rfl)⟩
   case round =>
    obtain ⟨i, fa, fc, rfl, rfl, hi, hv⟩ := hrel
    have hzm := hyv.zm
    refine sK fun _ k32 => rL ?_
    by_cases hb33 : (i : Int) < (y.val.zset.length : Int)
    ·refine uG (.bool true) rfl (ex_lss rfl rfl rfl (qT hb33)) (uW k32 ?_)
     refine sK fun _ k34 => cT rfl (kS ?_)
     refine tK k34 (sK fun _ k35 => ?_)
     refine bB (sK fun _ k36 => ?_)
     obtain ⟨x, hx⟩ : ∃ x, y.val.zset[i]? = some x := ⟨_, List.getElem?_eq_getElem (show i < y.val.zset.length by omega)⟩
     obtain ⟨zb, zo, had, hrdx⟩ := mem_reads hrz hx
     subst had
     refine rL (uG (.pointer (some ⟨zb, zo + i * 2, none⟩)) rfl (ex_index rfl rfl rfl (run_idx (k := i) Tryz.underlying41 s9es41 (by omega))) ?_)
     refine uL (.agg #[vI x.1, vS x.2]) rfl (run_loadR (cs := [vI x.1, vS x.2]) s9wd88 (Reads.mid (pre := []) (mid := [vI x.1, vS x.2]) (post := []) hrdx _ _ _ (Base.Le.refl _) no_res hv)) ?_
     refine sl_alloc tV (wn rfl) rfl hv kFal88 (fun b37 w38 hv => ?_)
     simp only [zP, po]
     refine xS 0 rfl hv s11sz88 rfl (by exact ⟨rfl, rfl, trivial⟩) (fun w39 hv => ?_)
     simp only [zO, sp] at hv
     refine uW k36 (rL ?_)
     refine uM rfl ?_
     refine uF (.pointer (some ⟨b37, 1, none⟩)) rfl (s9fa88_1 _ _ _) ?_
     refine uL _ rfl (run_load1 s9na9 (hv.load 0 1 rfl rfl)) ?_
     refine sl_rowOne (v := vS x.2) tV (wn rfl) rfl rfl hv kFel26 rfl (fun b40 w41 hv => ?_)
     replace hv := hv.front 2 rfl
     simp only [eS, eZ] at hv
     refine sl_append (news := [vS x.2]) tV (wn rfl) rfl rfl rfl kFel26 hv (ok_full (by omega)) rfl (rd_all (hv.get 1 rfl)) (by intro u hu; simp only [List.mem_cons, List.not_mem_nil, or_false] at hu; rcases hu with rfl <;> rfl) (by unfold maxLen; omega) (by omega) (fun rv42 w45 hv => ?_)
     obtain ⟨ra43, rc44, rfl⟩ := row_slice hv.head
     refine uA rfl (uZ ?_)
     refine bN (tK k35 ?_)
     refine rL (uG (vI ((i + 1 : Nat) : Int)) rfl (ex_add rfl rfl rfl (by rw [i64_in (by omega)]; omega)) ?_)
     refine uM rfl (uZ ?_)
     refine then_normal ?_
     go_roundw
     case rel => exact ⟨i + 1, _, _, rfl, rfl, by omega, by rw [take_next hx, List.map_append, List.map_cons, List.map_nil, ← text_snoc]; exact (hv.kp [6, 6, 6, 6, 4] 5 2)⟩
     case measure => show y.val.zset.length - (((i + 1 : Nat) : Int)).toNat < y.val.zset.length - ((i : Int)).toNat; omega
    refine uG (.bool false) rfl (ex_lss rfl rfl rfl (qF hb33)) (uW k32 ?_)
    refine sK fun _ k46 => cF rfl (xE ?_)
    refine tX (tX ?_)
    refine bH (bN ?_)
    refine tK k12 (sK fun _ k47 => ?_)
    refine rL (uM rfl ?_)
    refine uA rfl (uA rfl ?_)
    refine uW k47 (rR ?_)
    refine bodyPost_ret (results_tmp2 rfl _ _ _) rfl ?_
    obtain rfl : i = y.val.zset.length := by omega
    rw [List.take_length] at hv
    obtain ⟨E, hE, hv, hro, hoko, -⟩ := (((((hv.front 2 rfl).front 4 rfl).front 2 rfl).sub (sC _ (sC _ (sC _ (sD _ (sD _ (sR _)))))))).rowBy
    exact ⟨E, fa, fc, y.val.zset.map (·.2), 0, hG.trans hE, by rw [List.length_map]; rfl, .inr ⟨y, hg, .inl ⟨.inr (.inr hb29), rfl, by unfold thingsV; rw [if_neg (fun h9 => h9.elim hb16 hb22)]⟩⟩, by rw [List.length_map]; exact hyv.zm, by rw [List.length_map]; exact hoko, hro, hv⟩
  refine uG (.bool false) rfl (ex_eql rfl rfl rfl (qF hb29)) (uA rfl ?_)
  refine uW k28 (cF rfl ?_)
  refine sK fun _ k48 => rL (uA rfl ?_)
  refine uA rfl (uW k48 ?_)
  refine rR (bZ ?_)
  refine tR (bodyPost_ret (results_tmp2 rfl _ _ _) rfl ?_)
  exact ⟨G, none, 0, [], 40, hG, rfl, .inr ⟨y, hg, .inr ⟨hb16, hb22, hb29, rfl, rfl⟩⟩, Nat.zero_le _, ⟨Nat.le_refl _, Nat.zero_le _, fun _ => rfl⟩, rdV_nil, (hv.kp [1, 3] 2 2)⟩
 refine uM rfl (uE rfl ?_)
 refine uE rfl ?_
 refine sl_alloc tV (wn rfl) rfl hv kFal50 (fun b49 w50 hv => ?_)
 refine xS 0 rfl hv x0sz50 rfl (by exact ⟨rfl, rfl, rfl, rfl, rfl, rfl, rfl, rfl, trivial⟩) (fun w51 hv => ?_)
 simp only [zO, sp] at hv
 refine uA rfl (uW k4 ?_)
 refine sK fun _ k52 => sK fun _ k53 => rL (uM rfl ?_)
 refine uG (.bool true) rfl (ex_not rfl rfl rfl) (uW k53 ?_)
 refine cT rfl (sK fun _ k54 => ?_)
 refine rL (uA rfl ?_)
 refine uA rfl (uW k54 ?_)
 refine rR (tR ?_)
 refine bodyPost_ret (results_tmp2 rfl _ _ _) rfl (⟨G, none, 0, [], 0, hG, rfl, .inl ⟨hg, rfl, rfl⟩, Nat.zero_le _, ⟨Nat.le_refl _, Nat.zero_le _, fun _ => rfl⟩, rdV_nil, (hv.kp [1, 3] 2 2)⟩)
def LimR (gl : Bool) (om mo : Int) (xs out : List (List UInt8)) : Prop := (gl = false ∧ out = xs) ∨ (gl = true ∧ om < 0 ∧ out = []) ∨ (gl = true ∧ 0 ≤ om ∧ ∃ j : Nat, (if (xs.length : Int) < om then (xs.length : Int) else om) = (j : Int) ∧ ((mo < 0 ∧ out = xs.drop j) ∨ (0 ≤ mo ∧ ∃ q : Nat, (if ((xs.drop j).length : Int) < mo then ((xs.drop j).length : Int) else mo) = (q : Int) ∧ out = (xs.drop j).take q)))
theorem kGfa157_0 : FA Tryz.prog 157 0 0 := fun w b o => by kernel_rfl
theorem kGea155 (w : World) : (sizeOf 4).run Tryz.prog w = .ok 1 w := by kernel_rfl
theorem kGua155 : Tryz.prog.underlying 155 = some (.array 5 4) := by kernel_rfl
theorem kGfa157_1 : FA Tryz.prog 157 1 5 := fun w b o => by kernel_rfl
theorem kGfa157_2 : FA Tryz.prog 157 2 6 := fun w b o => by kernel_rfl
theorem ckLimited (B : Base) (H : List Res) (w : World) (g0 g1 g2 g3 g4 : Bool) (om mo : Int) (tg : List UInt8) (xa : Option Addr) (xc : Nat) (xs : List (List UInt8)) (hokx : SliceOk xa xs.length xc) (hrx : RdV B [] xa (textCells xs)) (hmx : xs.length ≤ 1000000) (hv : Inv B H w) :
  Calls Tryz.prog 94 #[.agg #[.bool g0, .bool g1, .bool g2, .bool g3, .bool g4, vI om, vI mo, vS tg], .slice xa xs.length xc] w fun e w' => ∃ oa oc out, e = .returned (.slice oa out.length oc) ∧ LimR g3 om mo xs out ∧ out.length ≤ 1000000 ∧ SliceOk oa out.length oc ∧ RdV B [] oa (textCells out) ∧ Inv B H w' := by
 refine cW Tryz.func94 rfl Tryz.ntmps94 ?_
 simp only [al]
 refine sK fun _ k1 => rL (sl_box (L := [.bool g0, .bool g1, .bool g2, .bool g3, .bool g4, vI om, vI mo, vS tg]) tV (wn rfl) rfl rfl hv (fun w => by kernel_rfl) (fun b2 w3 hv => ?_))
 refine uA rfl (uW k1 ?_)
 refine sK fun _ k4 => sK fun _ k5 => rL (uF (vP b2) rfl (kGfa157_0 _ _ _) ?_)
 refine uG (.pointer (some ⟨b2, 3, none⟩)) rfl (ex_index rfl rfl rfl (run_idxA1 (k := 3) kGua155 kGea155 (by omega))) ?_
 refine uL _ rfl (run_load1 s2na4 (hv.load 0 3 rfl rfl)) ?_
 refine uG (.bool (!g3)) rfl (ex_not rfl rfl rfl) (uW k5 ?_)
 refine wpIn_cond_split (t := !g3) rfl (fun hc6 => ?_) (fun hc6 => ?_)
 ·refine sK fun _ k7 => rL (uM rfl ?_)
  refine uA rfl (uW k7 ?_)
  refine rR (tR ?_)
  refine bR rfl rfl (⟨_, _, xs, rfl, .inl ⟨(by cases g3 <;> simp_all), rfl⟩, by omega, hokx, hrx, (hv.kp [] 0 1)⟩)
 refine kS (tK k4 ?_)
 refine sK fun _ k8 => sK fun _ k9 => rL (uF (.pointer (some ⟨b2, 5, none⟩)) rfl (kGfa157_1 _ _ _) ?_)
 refine uL _ rfl (run_load1 s2na3 (hv.load 0 5 rfl rfl)) ?_
 by_cases hb10 : om < 0
 ·refine uG (.bool true) rfl (ex_lss rfl rfl rfl (qT hb10)) (uW k9 ?_)
  refine cT rfl (sK fun _ k11 => ?_)
  refine rL (uA rfl ?_)
  refine uW k11 (rR ?_)
  refine tR (bR rfl rfl ?_)
  exact ⟨none, 0, [], rfl, .inr (.inl ⟨(by cases g3 <;> simp_all), by omega, rfl⟩), Nat.zero_le _, ⟨Nat.le_refl _, Nat.zero_le _, fun _ => rfl⟩, rdV_nil, (hv.kp [] 0 1)⟩
 refine uG (.bool false) rfl (ex_lss rfl rfl rfl (qF hb10)) (uW k9 ?_)
 refine cF rfl (kS ?_)
 refine tK k8 (sK fun _ k12 => ?_)
 obtain ⟨j, hj⟩ : ∃ j : Nat, (if (xs.length : Int) < om then (xs.length : Int) else om) = (j : Int) := ⟨_, (Int.toNat_of_nonneg (by split <;> omega)).symm⟩
 have hjl : j ≤ xs.length := by split at hj <;> omega
 obtain ⟨a4, c4, ha4, ok4, hr4⟩ := sliced_fromV 1 hokx hrx (textCells_len _) hjl (by decide)
 rw [Nat.mul_one, tx_drop] at hr4
 have hdl : (xs.drop j).length = xs.length - j := List.length_drop
 rw [← hdl] at ok4
 refine rL (uM rfl ?_)
 refine uF (.pointer (some ⟨b2, 5, none⟩)) rfl (kGfa157_1 _ _ _) ?_
 refine uL _ rfl (run_load1 s2na3 (hv.load 0 5 rfl rfl)) (uM rfl ?_)
 refine uG (vI (xs.length : Int)) rfl (ex_len0 Tryz.underlying26 rfl rfl) ?_
 refine uG (vI j) rfl (ex_min2 (m := om) (n := (xs.length : Int)) rfl rfl rfl hj) ?_
 refine uG (.slice a4 ((xs.drop j).length) c4) rfl (ex_slice (lo' := some (vI j)) rfl rfl (congrArg some rfl) rfl rfl ((run_fromAny Tryz.underlying26 s9es26 hjl).trans (by rw [ha4, hdl]))) (uA rfl ?_)
 refine uW k12 (sK fun _ k13 => ?_)
 refine sK fun _ k14 => rL (uF (.pointer (some ⟨b2, 6, none⟩)) rfl (kGfa157_2 _ _ _) ?_)
 refine uL _ rfl (run_load1 s2na3 (hv.load 0 6 rfl rfl)) ?_
 by_cases hb15 : mo ≥ 0
 ·refine uG (.bool true) rfl (ex_geq rfl rfl rfl (qT hb15)) (uW k14 ?_)
  refine cT rfl ?_
  obtain ⟨q, hq⟩ : ∃ q : Nat, (if ((xs.drop j).length : Int) < mo then ((xs.drop j).length : Int) else mo) = (q : Int) := ⟨_, (Int.toNat_of_nonneg (by split <;> omega)).symm⟩
  have hql : q ≤ (xs.drop j).length := by split at hq <;> omega
  obtain ⟨a3, ha3, ok3, hr3⟩ := sliced_hiV 1 ok4 hr4 (textCells_len _) hql
  rw [Nat.mul_one, tx_take] at hr3
  have htl : ((xs.drop j).take q).length = q := by rw [List.length_take]; omega
  rw [← htl] at ok3
  refine rL (uM rfl ?_)
  refine uF (.pointer (some ⟨b2, 6, none⟩)) rfl (kGfa157_2 _ _ _) ?_
  refine uL _ rfl (run_load1 s2na3 (hv.load 0 6 rfl rfl)) (uM rfl ?_)
  refine uG (vI (((xs.drop j).length) : Int)) rfl (ex_len0 Tryz.underlying26 rfl rfl) ?_
  refine uG (vI q) rfl (ex_min2 (m := mo) (n := ((xs.drop j).length : Int)) rfl rfl rfl hq) ?_
  refine uG (.slice a3 (((xs.drop j).take q).length) c4) rfl (ex_slice (hi' := some (vI q)) rfl rfl rfl (congrArg some rfl) rfl ((run_hiAny (h := q) Tryz.underlying26 s9es26 (by have := ok4.le; omega)).trans (by rw [ha3, htl]))) (uA rfl ?_)
  refine uW k13 (sK fun _ k16 => ?_)
  refine rL (uM rfl ?_)
  refine uA rfl (uW k16 ?_)
  refine rR (bR rfl rfl ?_)
  exact ⟨_, _, (xs.drop j).take q, rfl, .inr (.inr ⟨(by cases g3 <;> simp_all), by omega, j, hj, .inr ⟨by omega, q, hq, rfl⟩⟩), by omega, ok3, hr3, (hv.kp [] 0 1)⟩
 refine uG (.bool false) rfl (ex_geq rfl rfl rfl (qF hb15)) (uW k14 ?_)
 refine cF rfl (kS ?_)
 refine tK k13 (sK fun _ k17 => ?_)
 refine rL (uM rfl ?_)
 refine uA rfl (uW k17 ?_)
 refine rR (bR rfl rfl ?_)
 exact ⟨_, _, xs.drop j, rfl, .inr (.inr ⟨(by cases g3 <;> simp_all), by omega, j, hj, .inl ⟨by omega, rfl⟩⟩), by omega, ok4, hr4, (hv.kp [] 0 1)⟩
open Go.Sort
def SortR (bw : Bool) (xs out : List (List UInt8)) (ec : Int) : Prop := (bw = true → ec = 0 ∧ out = xs.mergeSort leB) ∧ out.length ≤ xs.length
def SortedOk (bw : Bool) : Prop := ∀ (B : Base) (H : List Res) (w : World) (xa : Option Addr) (xc : Nat) (xs : List (List UInt8)), SliceOk xa xs.length xc → RdV B [] xa (textCells xs) → xs.length ≤ 1000000 → NumB B → Pm.Inv B H w →
 Calls Tryz.prog 92 #[.bool bw, .slice xa xs.length xc] w fun e w' => ∃ C oa oc out ec, B.Le C ∧ e = .returned (.tuple #[.slice oa out.length oc, vI ec]) ∧ SortR bw xs out ec ∧ Pm.Inv C (Res.row keyT 1 (.slice oa out.length oc) out.length (textCells out) :: H) w'
def SrtR (M : List (List UInt8 × Ver)) (clk : Int) (k : List UInt8) (ws : List (List UInt8)) (M' : List (List UInt8 × Ver)) (r : Rp) : Prop :=
 (wishF ws wish0 = none ∧ M' = M ∧ IsF r) ∨ ∃ s, wishF ws wish0 = some s ∧ (((∃ t ∈ s.ns, NumP t 0 false) ∧ M' = M ∧ IsF r) ∨ ∃ xs ex, ThingsR M clk k xs ex ∧ ((ex ≠ 0 ∧ M' = M ∧ IsF r) ∨ (ex = 0 ∧ ∃ ys ey, SortR s.g0 xs ys ey ∧ ((ey ≠ 0 ∧ M' = M ∧ IsF r) ∨ (ey = 0 ∧ ∃ om mo out, (s.g3 = true → ∃ p q, s.ns = [p, q] ∧ NumP p om true ∧ NumP q mo true) ∧ LimR s.g3 om mo (if s.g2 = true then ys.reverse else ys) out ∧
  ((s.g4 = false ∧ M' = M ∧ r = rStrs out) ∨ (s.g4 = true ∧ ∃ e1, KeepI M clk s.tg ⟨3, [], [], out, []⟩ 0 e1 M' ∧ DoneR e1 (rInt (out.length : Int)) r)))))))
end Go.Proofs.YtngpmolbphinnaaGreatDoor
namespace Go.Proofs
open Go.Shelf
def Tryz.laysRev_ren : Go.Shelf.Ren := ⟨fun | 17 => 93 | n => n, fun | 24 => 26 | 9 => 9 | 3 => 3 | 4 => 4 | 0 => 0 | n => n, fun | n => n⟩
theorem Tryz.laysRev : Go.Proofs.Lays2.n17 Tryz.prog Tryz.laysRev_ren := {
 mixed := by kernel_rfl
 f17 := Tryz.func93.trans (congrArg some (by kernel_rfl))
 t0 := Tryz.underlying0
 a0 := Tryz.isAgg0
 z0 := Tryz.sizeOf0
 v0 := Tryz.zeroValue0
 t3 := Tryz.underlying3
 a3 := Tryz.isAgg3
 z3 := Tryz.sizeOf3
 v3 := Tryz.zeroValue3
 t4 := Tryz.underlying4
 a4 := Tryz.isAgg4
 z4 := Tryz.sizeOf4
 v4 := Tryz.zeroValue4
 t9 := Tryz.underlying9
 a9 := Tryz.isAgg9
 z9 := Tryz.sizeOf9
 v9 := Tryz.zeroValue9
 t24 := Tryz.underlying26
 a24 := Tryz.isAgg26
 z24 := Tryz.sizeOf26
 v24 := Tryz.zeroValue26 }
end Go.Proofs
namespace Go.Proofs.YtngpmolbphinnaaGreatDoor
open Go.RowKit Go.Pm Go.Sort Go.Shelf
theorem reverseTexts (B : Base) (H : List Res) (w : World) (v : Value) (l : List (List UInt8)) (hm : l.length ≤ 1000000) (hv : Pm.Inv B (Res.row keyT 1 v l.length (textCells l) :: H) w) :
  Calls Tryz.prog 93 #[v] w fun e w' => e = .returned (.tuple #[]) ∧ Pm.Inv B (Res.row keyT 1 v l.length (textCells l.reverse) :: H) w' := by
 rcases (hv.head : w.ownsRow 0 keyT 1 v l.length (textCells l)).2 with ⟨rfl, hz⟩ | ⟨g, cap, cur, rfl, h0, hgb, r1, r2, r3, r4⟩
 ·have hl : l = [] := List.eq_nil_of_length_eq_zero hz
  subst hl
  refine (Any.slices_Reverse_string_empty Tryz.laysRev none 0 w).mono ?_
  rintro e w' ⟨rfl, rfl⟩
  exact ⟨rfl, by simpa using hv⟩
 have hH : Holds encStr w g 0 l.toArray := holds_of_block hgb (by rw [Nat.mul_one] at r4; exact r4)
 have hc := Any.slices_Reverse_string_arr Tryz.laysRev g 0 cap l.toArray w hH (by simp; omega)
 rw [show l.toArray.size = l.length by simp, show l.toArray.reverse = l.reverse.toArray by simp] at hc
 refine hc.mono ?_
 rintro e w' ⟨rfl, n, rfl⟩
 rw [← grow_empty (putRow encStr (Sort.ahead w n) g 0 l.reverse.toArray)]
 have hgr := grownBy_sorted (w := w) (g := g) (n := n) (os := #[]) l.reverse.toArray
 have hr := ownsRow_sorted (n := n) (os := #[]) (ss := l) (ts := l.reverse) (by simp) h0 hgb r1 r2 r3
 refine ⟨rfl, hv.upd _ ⟨hgr.os, hgr.tape, hgr.output, hgr.size, fun k hk hn => hgr.block k hk (fun e => hn (by cases e; simp [Value.ownBlock]))⟩ hr (fun b hb => .inl hb) (fun b hb => Nat.lt_of_lt_of_le (hv.headLt b hb) hgr.size) (by simp [Value.ownBlock])⟩
theorem kJal34 : AL Tryz.prog 34 [vI 0, vS [], vI 0, vN] := fun w => by kernel_rfl
theorem kJcallable90 : Callable Tryz.prog 90 := cb Tryz.func90 (by kernel_rfl)
theorem kJal157 : AL Tryz.prog 157 [.bool false, .bool false, .bool false, .bool false, .bool false, vI 0, vI 0, vS []] := fun w => by kernel_rfl
theorem kJcallable91 : Callable Tryz.prog 91 := cb Tryz.func91 (by kernel_rfl)
theorem kJea155 (w : World) : (sizeOf 4).run Tryz.prog w = .ok 1 w := by kernel_rfl
theorem kJua155 : Tryz.prog.underlying 155 = some (.array 5 4) := by kernel_rfl
theorem kJcallable92 : Callable Tryz.prog 92 := cb Tryz.func92 (by kernel_rfl)
theorem kJcallable94 : Callable Tryz.prog 94 := cb Tryz.func94 (by kernel_rfl)
theorem kJcallable93 : Callable Tryz.prog 93 := cb Tryz.func93 (by kernel_rfl)
theorem ckSort (B : Base) (H : List Res) (w : World) (v t m s p wb : Nat) (va : Option Addr) (vc : Nat) (sv : Value) (clk : Int) (es : List (List UInt8 × Value)) (M : List (List UInt8 × Ver)) (hM : VM B es M) (aa : Option Addr) (an ac : Nat) (k : List UInt8) (wa : Option Addr) (wc : Nat) (ws : List (List UInt8)) (hokw : SliceOk wa ws.length wc) (hrw : RdV B [] wa (textCells ws)) (hmw : ws.length ≤ 1000000) (hxl : ∀ x ∈ ws, x.length ≤ 9223372036854775807) (hN : NumB B) (hsrt : ∀ s, wishF ws wish0 = some s → SortedOk s.g0) (hv : Inv B (Res.cell v [.iface 100 (vP t)] 56 :: txR t m s p wb va vc sv clk es :: H) w) :
  Calls Tryz.prog 64 #[.agg #[vP v, .slice aa an ac], vS k, .slice wa ws.length wc] w fun e w' => ∃ C es' M' r cs, B.Le C ∧ e = .returned (.agg cs.toArray) ∧ RpAt C r cs ∧ VM C es' M' ∧ SrtR M clk k ws M' r ∧ Inv C (Res.cell v [.iface 100 (vP t)] 56 :: txR t m s p wb va vc sv clk es' :: H) w' := by
 refine cW Tryz.func64 rfl Tryz.ntmps64 ?_
 simp only [al]
 refine sK fun _ k1 => rL (sl_box (L := [vP v, .slice aa an ac]) tV (wn rfl) rfl rfl hv (fun w => by kernel_rfl) (fun b2 w3 hv => ?_))
 refine sl_alloc tV (wn rfl) rfl hv kJal34 (fun b4 w5 hv => ?_)
 refine uW k1 (sK fun _ k6 => ?_)
 refine rL (uM rfl ?_)
 refine xC kJcallable90 rfl ((ckWishes B _ _ wa wc ws hokw hrw hmw hxl hN hv).mono ?_) rfl
 rintro e w7 ⟨g0, g1, g2, g3, g4, om, mo, tg, ec, rfl, hws, hv⟩
 refine ⟨_, rfl, uM rfl ?_⟩
 refine uE rfl (uE rfl ?_)
 refine sl_alloc tV (wn rfl) rfl hv kJal157 (fun b8 w9 hv => ?_)
 simp only [zP, po]
 refine xS 0 rfl hv kIsz157 rfl (by exact ⟨rfl, rfl, rfl, rfl, rfl, rfl, rfl, rfl, trivial⟩) (fun w10 hv => ?_)
 simp only [zO, sp] at hv
 refine uA rfl (uW k6 ?_)
 refine sK fun _ k11 => sK fun _ k12 => rL (uM rfl ?_)
 by_cases hb13 : ec ≠ 0
 ·refine uG (.bool true) rfl (ex_neq rfl rfl rfl (qT hb13)) (uW k12 ?_)
  refine cT rfl (sK fun _ k14 => ?_)
  refine rL (uM rfl ?_)
  refine xC rscallable29 rfl ((viewWrong B _ _ ec hv).mono ?_) rfl
  rintro e w16 ⟨s15, rfl, hv⟩
  refine ⟨_, rfl, ?_⟩
  refine xS 1 rfl hv rssz34 rfl (by exact ⟨rfl, rfl, rfl, rfl, trivial⟩) (fun w17 hv => ?_)
  simp only [zS, zO, sp] at hv
  refine uW k14 (rR ?_)
  refine tR (bC 1 rswd34 hv rfl rfl rfl rfl ?_)
  exact ⟨B, es, M, (.mk 1 s15 0 []), _, (Base.Le.refl _), rfl, rpAt_leaf, hM.more (Base.Le.refl _), (hws.elim (fun h => .inl ⟨h.2, rfl, rfl⟩) fun ⟨s, hs, h⟩ => .inr ⟨s, hs, h.elim (fun h => .inl ⟨h.2, rfl, rfl⟩) fun h => absurd h.1 hb13⟩), (hv.kp [4, 4] 2 3)⟩
 refine uG (.bool false) rfl (ex_neq rfl rfl rfl (qF hb13)) (uW k12 ?_)
 refine cF rfl (kS ?_)
 refine tK k11 (sK fun _ k18 => ?_)
 obtain ⟨s9, hw9, rfl, rfl, rfl, rfl, rfl, rfl, hnum⟩ : ∃ s, wishF ws wish0 = some s ∧ s.g0 = g0 ∧ s.g1 = g1 ∧ s.g2 = g2 ∧ s.g3 = g3 ∧ s.g4 = g4 ∧ s.tg = tg ∧ (g3 = true → ∃ p q, s.ns = [p, q] ∧ NumP p om true ∧ NumP q mo true) := by
  rcases hws with ⟨h, -⟩ | ⟨s, hs, ⟨h, -⟩ | ⟨-, h1, h2, h3, h4, h5, h6, h7⟩⟩
  ·omega
  ·omega
  exact ⟨s, hs, h1, h2, h3, h4, h5, h6, h7⟩
 refine rL (uL (.agg #[vP v, .slice aa an ac]) rfl (lM 2 k6wd80 hv rfl rfl rfl rfl) ?_)
 refine uM rfl ?_
 replace hv := hv.front 4 rfl
 simp only [eS, eZ] at hv
 replace hv := hv.front 4 rfl
 simp only [eS, eZ] at hv
 refine xC kJcallable91 rfl ((ckThings B _ _ v t m s p wb va vc sv clk es M hM aa an ac k hv).mono ?_) rfl
 rintro e w19 ⟨T, ta, tc, xs, ex, hT, rfl, hth, htl, hot, hrt, hv⟩
 refine ⟨_, rfl, uM rfl ?_⟩
 refine uE rfl (uE rfl ?_)
 refine uA rfl (uA rfl ?_)
 refine uW k18 (sK fun _ k20 => ?_)
 refine sK fun _ k21 => rL (uM rfl ?_)
 by_cases hb22 : ex ≠ 0
 ·refine uG (.bool true) rfl (ex_neq rfl rfl rfl (qT hb22)) (uW k21 ?_)
  refine cT rfl (sK fun _ k23 => ?_)
  refine rL (uM rfl ?_)
  refine xC rscallable29 rfl ((viewWrong T _ _ ex hv).mono ?_) rfl
  rintro e w25 ⟨s24, rfl, hv⟩
  refine ⟨_, rfl, ?_⟩
  refine xS 3 rfl hv rssz34 rfl (by exact ⟨rfl, rfl, rfl, rfl, trivial⟩) (fun w26 hv => ?_)
  simp only [zS, zO, sp] at hv
  refine uW k23 (rR ?_)
  refine tR (bC 3 rswd34 hv rfl rfl rfl rfl ?_)
  exact ⟨T, es, M, (.mk 1 s24 0 []), _, hT, rfl, rpAt_leaf, hM.more hT, .inr ⟨s9, hw9, .inr ⟨xs, ex, hth, .inl ⟨hb22, rfl, rfl⟩⟩⟩, (hv.kp [1, 1] 2 3)⟩
 refine uG (.bool false) rfl (ex_neq rfl rfl rfl (qF hb22)) (uW k21 ?_)
 refine cF rfl (kS ?_)
 refine tK k20 (sK fun _ k27 => ?_)
 refine rL (uF (vP b8) rfl (kIfa157_0 _ _ _) ?_)
 refine uG (vP b8) rfl (ex_index rfl rfl rfl (run_idxA1 (k := 0) kJua155 kJea155 (by omega))) ?_
 refine uL _ rfl (run_load1 s2na4 (hv.load 2 0 rfl rfl)) (uM rfl ?_)
 refine xC kJcallable92 rfl ((hsrt s9 hw9 T _ _ ta tc xs hot hrt htl (hN.more hT) hv).mono ?_) rfl
 rintro e w28 ⟨S, oa, oc, ys, ey, hS, rfl, hsr, hv⟩
 refine ⟨_, rfl, ?_⟩
 have hyl : ys.length ≤ 1000000 := Nat.le_trans hsr.2 htl
 refine uM rfl (uE rfl ?_)
 refine uE rfl (uA rfl ?_)
 refine uA rfl (uW k27 ?_)
 refine sK fun _ k29 => sK fun _ k30 => rL (uM rfl ?_)
 by_cases hb31 : ey ≠ 0
 ·refine uG (.bool true) rfl (ex_neq rfl rfl rfl (qT hb31)) (uW k30 ?_)
  refine cT rfl (sK fun _ k32 => ?_)
  refine rL (uM rfl ?_)
  refine xC rscallable29 rfl ((viewWrong S _ _ ey hv).mono ?_) rfl
  rintro e w34 ⟨s33, rfl, hv⟩
  refine ⟨_, rfl, ?_⟩
  refine xS 4 rfl hv rssz34 rfl (by exact ⟨rfl, rfl, rfl, rfl, trivial⟩) (fun w35 hv => ?_)
  simp only [zS, zO, sp] at hv
  refine uW k32 (rR ?_)
  refine tR (bC 4 rswd34 hv rfl rfl rfl rfl ?_)
  exact ⟨S, es, M, (.mk 1 s33 0 []), _, (hT.trans hS), rfl, rpAt_leaf, hM.more (hT.trans hS), .inr ⟨s9, hw9, .inr ⟨xs, ex, hth, .inr ⟨by omega, ys, ey, hsr, .inl ⟨hb31, rfl, rfl⟩⟩⟩⟩, (hv.kp [2, 2] 2 4)⟩
 refine uG (.bool false) rfl (ex_neq rfl rfl rfl (qF hb31)) (uW k30 ?_)
 refine cF rfl (kS ?_)
 refine tK k29 (sK fun K36 k36 => ?_)
 have hJ36 : ∀ (zs : List (List UInt8)) (j41 j42 j43 j44 j45 : Value) (w37 : World), (zs = if s9.g2 = true then ys.reverse else ys) → (zs.length = ys.length) → Inv S (Res.row 9 1 (.slice oa ys.length oc) ys.length (textCells zs) :: Res.cell v [.iface 100 (vP t)] 56 :: txR t m s p wb va vc sv clk es :: Res.cell b8 [.bool s9.g0, .bool s9.g1, .bool s9.g2, .bool s9.g3, .bool s9.g4, vI om, vI mo, vS s9.tg] 157 :: Res.cell b4 [vI 0, vS [], vI 0, vN] 34 :: Res.cell b2 [vP v, .slice aa an ac] 80 :: H) w37 → K36 { tmps := List.toArray (.agg #[vP v, .slice aa an ac] :: vS k :: .slice wa ws.length wc :: vP b2 :: undef :: undef :: vP b4 :: vP b8 :: vI ey :: .slice oa ys.length oc :: .tuple #[.agg #[.bool s9.g0, .bool s9.g1, .bool s9.g2, .bool s9.g3, .bool s9.g4, vI om, vI mo, vS s9.tg], vI ec] :: .slice wa ws.length wc :: .tuple #[.agg #[.bool s9.g0, .bool s9.g1, .bool s9.g2, .bool s9.g3, .bool s9.g4, vI om, vI mo, vS s9.tg], vI ec] :: .agg #[.bool s9.g0, .bool s9.g1, .bool s9.g2, .bool s9.g3, .bool s9.g4, vI om, vI mo, vS s9.tg] :: vI ec :: vI ec :: .bool false :: undef :: undef :: .tuple #[.slice ta xs.length tc, vI ex] :: .agg #[vP v, .slice aa an ac] :: vS k :: .tuple #[.slice ta xs.length tc, vI ex] :: .slice ta xs.length tc :: vI ex :: vI ex :: .bool false :: undef :: undef :: .tuple #[.slice oa ys.length oc, vI ey] :: vP b8 :: vP b8 :: .bool s9.g0 :: .slice ta xs.length tc :: .tuple #[.slice oa ys.length oc, vI ey] :: .slice oa ys.length oc :: vI ey :: vI ey :: .bool false :: undef :: undef :: j41 :: j42 :: j43 :: j44 :: j45 :: undef :: undef :: undef :: undef :: undef :: undef :: undef :: undef :: undef :: undef :: undef :: undef :: undef :: undef :: undef :: undef :: undef :: undef :: undef :: undef :: undef :: []), defers := [] } w37 := by
  intro zs j41 j42 j43 j44 j45 w37 hzs hzl hv
  refine k36 _ _ ?_
  rw [← hzl] at hv ⊢
  refine sK fun _ k38 => ?_
  obtain ⟨E, hE, hv, hrz, hoz, -⟩ := hv.rowBy
  refine rL (uL (.agg #[.bool s9.g0, .bool s9.g1, .bool s9.g2, .bool s9.g3, .bool s9.g4, vI om, vI mo, vS s9.tg]) rfl (lM 2 kIwd157 hv rfl rfl rfl rfl) ?_)
  refine uM rfl ?_
  refine xC kJcallable94 rfl ((ckLimited E _ _ s9.g0 s9.g1 s9.g2 s9.g3 s9.g4 om mo s9.tg oa oc zs hoz hrz (by omega) hv).mono ?_) rfl
  rintro e w39 ⟨la, lc, out, rfl, hlim, hol, hoo, hro, hv⟩
  refine ⟨_, rfl, uA rfl ?_⟩
  refine uW k38 (sK fun _ k40 => ?_)
  refine sK fun _ k41 => rL (uF (vP b8) rfl (kIfa157_0 _ _ _) ?_)
  refine uG (.pointer (some ⟨b8, 4, none⟩)) rfl (ex_index rfl rfl rfl (run_idxA1 (k := 4) kJua155 kJea155 (by omega))) ?_
  refine uL _ rfl (run_load1 s2na4 (hv.load 2 4 rfl rfl)) ?_
  refine uG (.bool (!s9.g4)) rfl (ex_not rfl rfl rfl) (uW k41 ?_)
  refine wpIn_cond_split (t := !s9.g4) rfl (fun hc42 => ?_) (fun hc42 => ?_)
  ·refine sK fun _ k43 => rL (uM rfl ?_)
   refine xC k1callable59 rfl ((respStrsR E _ _ la lc out (hro.more (Base.Le.refl _) (fun _ h => h)) (hol) hv).mono ?_) rfl
   rintro e w48 ⟨D44, da45, dc46, hD44, rfl, hrp47o, hrp47, hv⟩
   refine ⟨_, rfl, ?_⟩
   refine xS 3 rfl hv rssz34 rfl (by exact ⟨rfl, rfl, rfl, rfl, trivial⟩) (fun w49 hv => ?_)
   simp only [zS, zO, sp] at hv
   refine uW k43 (rR ?_)
   refine tR (bC 3 rswd34 hv rfl rfl rfl rfl ?_)
   exact ⟨D44, es, M, (rStrs out), _, (((hT.trans hS).trans hE).trans hD44), rfl, (rpAt_strs hrp47o (hrp47.more (Base.Le.refl _) (fun _ h => h))), hM.more (((hT.trans hS).trans hE).trans hD44), .inr ⟨s9, hw9, .inr ⟨xs, ex, hth, .inr ⟨by omega, ys, ey, hsr, .inr ⟨by omega, om, mo, out, hnum, hzs ▸ hlim, .inl ⟨by simpa using hc42, rfl, rfl⟩⟩⟩⟩⟩, (hv.kp [1, 1] 2 3)⟩
  refine kS (tK k40 ?_)
  refine sK fun _ k50 => rL (uF (vP b2) rfl (k1fa80_0 _ _ _) ?_)
  refine uL _ rfl (run_load1 k1na24 (hv.load 4 0 rfl rfl)) ?_
  refine uF (.pointer (some ⟨b8, 7, none⟩)) rfl (kIfa157_3 _ _ _) ?_
  refine uL _ rfl (run_load1 s9na9 (hv.load 2 7 rfl rfl)) (uM rfl ?_)
  refine uG (.agg #[vI 3, vS [], vN, .slice la out.length lc, vN]) rfl (ex_buildN (vs := #[(0, vI 3), (3, .slice la out.length lc)]) rfl (by simp only [List.map_toArray, List.map_cons, List.map_nil]; rfl) (by kernel_rfl)) ?_
  replace hv := hv.front 1 rfl
  simp only [eS, eZ] at hv
  replace hv := hv.front 1 rfl
  simp only [eS, eZ] at hv
  refine xC k6callable16 rfl ((viewKeep E _ _ v t m s p wb va vc sv clk es M s9.tg ⟨3, [], [], out, []⟩ (vN) (.slice la out.length lc) (vN) 0 (hM.more ((hT.trans hS).trans hE)) ⟨⟨none, 0, rfl, ⟨Nat.le_refl _, Nat.zero_le _, fun _ => rfl⟩, rdV_nil⟩, ⟨la, lc, rfl, hoo, hro⟩, ⟨none, 0, rfl, ⟨Nat.le_refl _, Nat.zero_le _, fun _ => rfl⟩, rdV_nil⟩, Nat.zero_le _, hol, Nat.zero_le _⟩ hv).mono ?_) rfl
  rintro e w51 ⟨D, es1, M1, e1, hD, rfl, hM1, hkp, hv⟩
  refine ⟨_, rfl, uA rfl ?_⟩
  refine uW k50 (sK fun _ k52 => ?_)
  refine rL (uM rfl ?_)
  refine uM rfl ?_
  refine uG (vI (out.length : Int)) rfl (ex_len0 Tryz.underlying26 rfl rfl) ?_
  refine xC k6callable54 rfl ((respInt D _ _ (out.length : Int) hv).mono ?_) rfl
  rintro e w53 ⟨rfl, hv⟩
  refine ⟨_, rfl, ?_⟩
  refine xC k6callable56 rfl ((viewDone D _ _ e1 2 (out.length : Int) ([] : List UInt8) (vN) rfl rfl hv).mono ?_) rfl
  rintro e w54 ⟨xr, hxr, rfl, hv⟩
  refine ⟨_, rfl, ?_⟩
  rcases hxr with ⟨hec0, rfl⟩ | ⟨hec0, s55, rfl⟩
  ·refine xS 3 rfl hv rssz34 rfl (by exact ⟨rfl, rfl, rfl, rfl, trivial⟩) (fun w56 hv => ?_)
   simp only [zS, zO, sp] at hv
   refine uW k52 (rR ?_)
   refine bC 3 rswd34 hv rfl rfl rfl rfl (⟨D, es1, M1, (.mk 2 ([] : List UInt8) (out.length : Int) []), _, (((hT.trans hS).trans hE).trans hD), rfl, rpAt_leaf, hM1.more (Base.Le.refl _), .inr ⟨s9, hw9, .inr ⟨xs, ex, hth, .inr ⟨by omega, ys, ey, hsr, .inr ⟨by omega, om, mo, out, hnum, hzs ▸ hlim, .inr ⟨by simpa using hc42, e1, hkp, .inl ⟨by omega, rfl⟩⟩⟩⟩⟩⟩, (hv.kp [1, 1] 2 3)⟩)
  refine xS 3 rfl hv rssz34 rfl (by exact ⟨rfl, rfl, rfl, rfl, trivial⟩) (fun w57 hv => ?_)
  simp only [zS, zO, sp] at hv
  refine uW k52 (rR ?_)
  refine bC 3 rswd34 hv rfl rfl rfl rfl (⟨D, es1, M1, (.mk 1 s55 0 []), _, (((hT.trans hS).trans hE).trans hD), rfl, rpAt_leaf, hM1.more (Base.Le.refl _), .inr ⟨s9, hw9, .inr ⟨xs, ex, hth, .inr ⟨by omega, ys, ey, hsr, .inr ⟨by omega, om, mo, out, hnum, hzs ▸ hlim, .inr ⟨by simpa using hc42, e1, hkp, .inr ⟨by omega, rfl⟩⟩⟩⟩⟩⟩, (hv.kp [1, 1] 2 3)⟩)
 refine sK fun _ k58 => rL (uF (vP b8) rfl (kIfa157_0 _ _ _) ?_)
 refine uG (.pointer (some ⟨b8, 2, none⟩)) rfl (ex_index rfl rfl rfl (run_idxA1 (k := 2) kJua155 kJea155 (by omega))) ?_
 refine uL _ rfl (run_load1 s2na4 (hv.load 3 2 rfl rfl)) (uW k58 ?_)
 refine wpIn_cond_split (t := s9.g2) rfl (fun hc59 => ?_) (fun hc59 => ?_)
 ·refine rL (uM rfl ?_)
  refine xC kJcallable93 rfl ((reverseTexts S _ _ _ ys hyl hv).mono ?_) rfl
  rintro e w60 ⟨rfl, hv⟩
  refine ⟨_, rfl, uZ ?_⟩
  exact then_normal (hJ36 ys.reverse _ _ _ _ _ _ ((if_pos hc59).symm) (by simp) ((((((hv.front 5 rfl).front 5 rfl).front 5 rfl).front 5 rfl).front 5 rfl).front 5 rfl))
 refine kS (then_normal (hJ36 ys _ _ _ _ _ _ ((if_neg (by rw [hc59]; decide)).symm) rfl ((((((hv.front 5 rfl).front 5 rfl).front 5 rfl).front 5 rfl).front 5 rfl).front 5 rfl)))
def fitsI (n : Int) : Prop := -9223372036854775808 ≤ n ∧ n ≤ 9223372036854775807
instance (n : Int) : Decidable (fitsI n) := inferInstanceAs (Decidable (_ ∧ _))
def addF (a : Int) : List Int → Option Int
 | [] => some a
 | b :: bs => if fitsI (a + b) then addF (a + b) bs else none
theorem addF_at {bs : List Int} {i : Nat} {b s : Int} {r : Option Int} (h : r = addF s (bs.drop i)) (hb : bs[i]? = some b) : r = if fitsI (s + b) then addF (s + b) (bs.drop (i + 1)) else none := by
 obtain ⟨hi, rfl⟩ := List.getElem?_eq_some_iff.1 hb
 rw [h, List.drop_eq_getElem_cons hi]; rfl
theorem ndes145 (w : World) : (sizeOf (Tryz.prog.elem 145)).run Tryz.prog w = .ok 1 w := by kernel_rfl
theorem ndna3 (w : World) : (isAgg 3).run Tryz.prog w = .ok false w := by kernel_rfl
theorem numAdd (B : Base) (H : List Res) (w : World) (a : Int) (ha : -9223372036854775808 ≤ a ∧ a ≤ 9223372036854775807) (ba : Option Addr) (bc : Nat) (bs : List Int) (hrb : RdV B [] ba (intCells bs)) (hm : bs.length ≤ 1000000) (hbs : ∀ b ∈ bs, -9223372036854775808 ≤ b ∧ b ≤ 9223372036854775807) (hv : Inv B H w) :
  Calls Tryz.prog 83 #[vI a, .slice ba bs.length bc] w fun e w' => ∃ r ok, e = .returned (.tuple #[vI r, .bool ok]) ∧ ((ok = true ∧ (-9223372036854775808 ≤ r ∧ r ≤ 9223372036854775807) ∧ addF a bs = some r) ∨ (ok = false ∧ addF a bs = none)) ∧ Inv B H w' := by
 refine cW Tryz.func83 rfl Tryz.ntmps83 ?_
 simp only [al]
 refine sK fun _ k1 => rL (uA rfl ?_)
 refine uA rfl (uW k1 ?_)
 refine sK fun _ k2 => rL (uM rfl ?_)
 refine uA rfl (uW k2 ?_)
 refine sK fun _ k3 => sK fun _ k4 => rL (uM rfl ?_)
 refine uG (vI (bs.length : Int)) rfl (ex_len0 Tryz.underlying145 rfl rfl) (uM rfl ?_)
 refine uW k4 (bB ?_)
 gi_loopw [6, 12] (fun x6 x12 wr => ∃ (i : Nat) (s : Int), x6 = vI s ∧ x12 = vI i ∧ i ≤ bs.length ∧ (-9223372036854775808 ≤ s ∧ s ≤ 9223372036854775807) ∧ addF a bs = addF s (bs.drop i) ∧ Inv B H wr) (fun x6 x12 _ => bs.length - (intOf x12).toNat)
 case atStart => exact ⟨0, a, rfl, rfl, Nat.zero_le _, ha, rfl, hv⟩
 case round =>
  obtain ⟨i, s, rfl, rfl, hi, hs, hsum, hv⟩ := hrel
  refine sK fun _ k6 => rL ?_
  by_cases hb7 : (i : Int) < (bs.length : Int)
  ·refine uG (.bool true) rfl (ex_lss rfl rfl rfl (qT hb7)) (uW k6 ?_)
   refine sK fun _ k8 => cT rfl (kS ?_)
   refine tK k8 (sK fun _ k9 => ?_)
   refine bB (sK fun _ k10 => ?_)
   obtain ⟨b, hb⟩ : ∃ x, bs[i]? = some x := ⟨_, List.getElem?_eq_getElem (show i < bs.length by omega)⟩
   have hbf : -9223372036854775808 ≤ b ∧ b ≤ 9223372036854775807 := hbs b (List.mem_of_getElem? hb)
   obtain ⟨ib, io, had, hrdb⟩ := int_reads hrb hb
   subst had
   refine rL (uG (.pointer (some ⟨ib, io + i, none⟩)) rfl (ex_index rfl rfl rfl (run_idx1 (k := i) Tryz.underlying145 ndes145 (by omega))) ?_)
   refine uL _ rfl (run_load1 ndna3 (hrdb _ _ _ (Base.Le.refl _) no_res hv 0 _ rfl)) (uA rfl ?_)
   refine uW k10 (sK fun _ k11 => ?_)
   refine sK fun _ k12 => rL (uM rfl ?_)
   by_cases hb13 : b > 0
   ·refine uG (.bool true) rfl (ex_gtr rfl rfl rfl (qT hb13)) (uM rfl ?_)
    refine uM rfl ?_
    refine uM rfl ?_
    refine uG (vI (9223372036854775807 - b)) rfl (ex_sub rfl rfl rfl (i64_in (by omega))) ?_
    by_cases hb14 : s > (9223372036854775807 - b)
    ·refine uG (.bool true) rfl (ex_gtr rfl rfl rfl (qT hb14)) (uK rfl ?_)
     refine uW k12 (cT rfl ?_)
     refine sK fun _ k15 => rL (uA rfl ?_)
     refine uA rfl (uW k15 ?_)
     refine rR (tR ?_)
     refine bZ (tR ?_)
     refine tR (bZ ?_)
     refine tR (bodyPost_ret (results_tmp2 rfl _ _ _) rfl ?_)
     exact ⟨0, false, rfl, .inr ⟨rfl, by rw [addF_at hsum hb, if_neg (fun h9 : fitsI (s + b) => by have h8 := h9.1; have h7 := h9.2; omega)]⟩, hv⟩
    refine uG (.bool false) rfl (ex_gtr rfl rfl rfl (qF hb14)) (uK rfl ?_)
    refine uW k12 (cF rfl ?_)
    refine kS (tK k11 ?_)
    refine sK fun _ k16 => sK fun _ k17 => rL (uM rfl ?_)
    by_cases hb18 : b < 0
    ·refine uG (.bool true) rfl (ex_lss rfl rfl rfl (qT hb18)) (uM rfl ?_)
     refine uM rfl ?_
     refine uM rfl ?_
     refine uG (vI ((-9223372036854775808) - b)) rfl (ex_sub rfl rfl rfl (i64_in (by omega))) ?_
     by_cases hb19 : s < ((-9223372036854775808) - b)
     ·refine uG (.bool true) rfl (ex_lss rfl rfl rfl (qT hb19)) (uK rfl ?_)
      refine uW k17 (cT rfl ?_)
      refine sK fun _ k20 => rL (uA rfl ?_)
      refine uA rfl (uW k20 ?_)
      refine rR (tR ?_)
      refine bZ (tR ?_)
      refine tR (bZ ?_)
      refine tR (bodyPost_ret (results_tmp2 rfl _ _ _) rfl ?_)
      exact ⟨0, false, rfl, .inr ⟨rfl, by rw [addF_at hsum hb, if_neg (fun h9 : fitsI (s + b) => by have h8 := h9.1; have h7 := h9.2; omega)]⟩, hv⟩
     refine uG (.bool false) rfl (ex_lss rfl rfl rfl (qF hb19)) (uK rfl ?_)
     refine uW k17 (cF rfl ?_)
     refine kS (tK k16 ?_)
     refine rL (uM rfl ?_)
     refine uM rfl ?_
     refine uG (vI (s + b)) rfl (ex_add rfl rfl rfl (i64_in (by omega))) (uA rfl ?_)
     refine uZ (bN ?_)
     refine tK k9 (rL ?_)
     refine uG (vI ((i + 1 : Nat) : Int)) rfl (ex_add rfl rfl rfl (by rw [i64_in (by omega)]; omega)) (uM rfl ?_)
     refine uZ (then_normal ?_)
     go_roundw
     case rel => exact ⟨i + 1, s + b, rfl, rfl, by omega, by omega, by rw [addF_at hsum hb, if_pos (show fitsI (s + b) from ⟨by omega, by omega⟩)], hv⟩
     case measure => show bs.length - (((i + 1 : Nat) : Int)).toNat < bs.length - ((i : Int)).toNat; omega
    refine uG (.bool false) rfl (ex_lss rfl rfl rfl (qF hb18)) (uM rfl ?_)
    iterate 4 refine uP rfl ?_
    refine uK rfl (uW k17 ?_)
    refine cF rfl (kS ?_)
    refine tK k16 (rL ?_)
    refine uM rfl (uM rfl ?_)
    refine uG (vI (s + b)) rfl (ex_add rfl rfl rfl (i64_in (by omega))) (uA rfl ?_)
    refine uZ (bN ?_)
    refine tK k9 (rL ?_)
    refine uG (vI ((i + 1 : Nat) : Int)) rfl (ex_add rfl rfl rfl (by rw [i64_in (by omega)]; omega)) (uM rfl ?_)
    refine uZ (then_normal ?_)
    go_roundw
    case rel => exact ⟨i + 1, s + b, rfl, rfl, by omega, by omega, by rw [addF_at hsum hb, if_pos (show fitsI (s + b) from ⟨by omega, by omega⟩)], hv⟩
    case measure => show bs.length - (((i + 1 : Nat) : Int)).toNat < bs.length - ((i : Int)).toNat; omega
   refine uG (.bool false) rfl (ex_gtr rfl rfl rfl (qF hb13)) (uM rfl ?_)
   iterate 4 refine uP rfl ?_
   refine uK rfl (uW k12 ?_)
   refine cF rfl (kS ?_)
   refine tK k11 (sK fun _ k21 => ?_)
   refine sK fun _ k22 => rL (uM rfl ?_)
   by_cases hb23 : b < 0
   ·refine uG (.bool true) rfl (ex_lss rfl rfl rfl (qT hb23)) (uM rfl ?_)
    refine uM rfl ?_
    refine uM rfl ?_
    refine uG (vI ((-9223372036854775808) - b)) rfl (ex_sub rfl rfl rfl (i64_in (by omega))) ?_
    by_cases hb24 : s < ((-9223372036854775808) - b)
    ·refine uG (.bool true) rfl (ex_lss rfl rfl rfl (qT hb24)) (uK rfl ?_)
     refine uW k22 (cT rfl ?_)
     refine sK fun _ k25 => rL (uA rfl ?_)
     refine uA rfl (uW k25 ?_)
     refine rR (tR ?_)
     refine bZ (tR ?_)
     refine tR (bZ ?_)
     refine tR (bodyPost_ret (results_tmp2 rfl _ _ _) rfl ?_)
     exact ⟨0, false, rfl, .inr ⟨rfl, by rw [addF_at hsum hb, if_neg (fun h9 : fitsI (s + b) => by have h8 := h9.1; have h7 := h9.2; omega)]⟩, hv⟩
    refine uG (.bool false) rfl (ex_lss rfl rfl rfl (qF hb24)) (uK rfl ?_)
    refine uW k22 (cF rfl ?_)
    refine kS (tK k21 ?_)
    refine rL (uM rfl ?_)
    refine uM rfl ?_
    refine uG (vI (s + b)) rfl (ex_add rfl rfl rfl (i64_in (by omega))) (uA rfl ?_)
    refine uZ (bN ?_)
    refine tK k9 (rL ?_)
    refine uG (vI ((i + 1 : Nat) : Int)) rfl (ex_add rfl rfl rfl (by rw [i64_in (by omega)]; omega)) (uM rfl ?_)
    refine uZ (then_normal ?_)
    go_roundw
    case rel => exact ⟨i + 1, s + b, rfl, rfl, by omega, by omega, by rw [addF_at hsum hb, if_pos (show fitsI (s + b) from ⟨by omega, by omega⟩)], hv⟩
    case measure => show bs.length - (((i + 1 : Nat) : Int)).toNat < bs.length - ((i : Int)).toNat; omega
   refine uG (.bool false) rfl (ex_lss rfl rfl rfl (qF hb23)) (uM rfl ?_)
   iterate 4 refine uP rfl ?_
   refine uK rfl (uW k22 ?_)
   refine cF rfl (kS ?_)
   refine tK k21 (rL ?_)
   refine uM rfl (uM rfl ?_)
   refine uG (vI (s + b)) rfl (ex_add rfl rfl rfl (i64_in (by omega))) (uA rfl ?_)
   refine uZ (bN ?_)
   refine tK k9 (rL ?_)
   refine uG (vI ((i + 1 : Nat) : Int)) rfl (ex_add rfl rfl rfl (by rw [i64_in (by omega)]; omega)) (uM rfl ?_)
   refine uZ (then_normal ?_)
   go_roundw
   case rel => exact ⟨i + 1, s + b, rfl, rfl, by omega, by omega, by rw [addF_at hsum hb, if_pos (show fitsI (s + b) from ⟨by omega, by omega⟩)], hv⟩
   case measure => show bs.length - (((i + 1 : Nat) : Int)).toNat < bs.length - ((i : Int)).toNat; omega
  refine uG (.bool false) rfl (ex_lss rfl rfl rfl (qF hb7)) (uW k6 ?_)
  refine sK fun _ k26 => cF rfl (xE ?_)
  refine tX (tX ?_)
  refine bH (tK k3 ?_)
  refine sK fun _ k27 => rL (uM rfl ?_)
  refine uA rfl (uA rfl ?_)
  refine uW k27 (rR ?_)
  refine bodyPost_ret (results_tmp2 rfl _ _ _) rfl ?_
  obtain rfl : i = bs.length := by omega
  rw [List.drop_length] at hsum
  exact ⟨s, true, rfl, .inl ⟨rfl, hs, hsum⟩, hv⟩
end Go.Proofs.YtngpmolbphinnaaGreatDoor
