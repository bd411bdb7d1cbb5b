/- slices.Insert into none; hash.Set. -/
import Derived.Test.YtffnhfkkochnhaaGreatDoorChBakB
import Derived.Test.YtffnhfkkochnhaaGreatDoorChBakE
import Derived.Test.YtffnhfkkochnhaaGreatDoorChBakC
import Derived.Test.YtffnhfkkochnhaaGreatDoorRows
import Derived.Shelf.SlIter.Collect
import Derived.Shelf.Sort.Plain
import Derived.Shelf.Slices.In.CompactS
import Derived.Shelf.Slices.In.SortNone
import Derived.Ground.NamesProg
import Derived.Ground.GgzProg
import Derived.Sort.KeysCollected
import Derived.Sort.OwnSorted
set_option maxRecDepth 100000
set_option maxHeartbeats 16000000
set_option synthInstance.maxSize 4096
set_option synthInstance.maxHeartbeats 400000
namespace Go.Proofs.YtffnhfkkochnhaaGreatDoor
open Go.RowKit Go.Pm
theorem h6mk121 : (Tryz.prog.info? 121).map (fun i => (i.zero, i.size, i.bytes)) = some (some (.agg #[vS [], vS []]), 2, 32) := by kernel_rfl
theorem h6el76 : Elem Tryz.prog 76 121 (.agg #[vS [], vS []]) 2 32 := elem_of Tryz.underlying76 h6mk121 (by rfl) (by decide)
theorem insPr0 (B : Base) (H : List Res) (w : World) (sa : Option Addr) (c q : Nat) (new : List Value) (hnew : new.length = 2) (h1n : ∀ u ∈ new, u.oneCell' = true) (hv : Inv B (Res.row 121 2 (.slice sa 0 c) 0 [] :: Res.cell q new 121 :: H) w) :
  Calls Tryz.prog 90 #[.slice sa 0 c, vI 0, .slice (some ⟨q, 0, none⟩) 1 1] w fun e w' => ∃ ra rc, e = .returned (.slice ra (0 + 1) rc) ∧ Inv B (Res.row 121 2 (.slice ra (0 + 1) rc) (0 + 1) new :: H) w' := by
 refine cW Tryz.func90 rfl Tryz.ntmps90 ?_
 simp only [al]
 refine sK fun _ k1 => rL (uA rfl ?_)
 refine uW k1 (sK fun _ k2 => ?_)
 refine rL (uM rfl ?_)
 refine uM rfl ?_
 refine uG (sliced sa 0 0 c 2) rfl (ex_slice (lo' := some (vI 0)) rfl rfl (congrArg some rfl) rfl rfl (run_fromAny (l := 0) Tryz.underlying76 h1es76 (by omega))) (uW k2 ?_)
 refine sK fun _ k3 => rL (uG (.slice (some ⟨q, 0, none⟩) 1 1) rfl (ex_move rfl rfl) ?_)
 refine uG (vI 1) rfl (ex_len0 Tryz.underlying76 rfl rfl) (uA rfl ?_)
 refine uW k3 (sK fun _ k4 => ?_)
 refine sK fun _ k5 => rL (uM rfl ?_)
 refine uG (.bool false) rfl (ex_eql rfl rfl rfl (by decide)) (uW k5 ?_)
 refine cF rfl (kS ?_)
 refine tK k4 (sK fun _ k6 => ?_)
 refine rL (uM rfl ?_)
 refine uG (vI 0) rfl (ex_len0 Tryz.underlying76 rfl rfl) (uA rfl ?_)
 refine uW k6 (sK fun _ k7 => ?_)
 refine sK fun _ k8 => rL (uM rfl ?_)
 refine uM rfl ?_
 refine uG (.bool true) rfl (ex_eql rfl rfl rfl (by decide)) (uW k8 ?_)
 refine cT rfl (sK fun _ k9 => ?_)
 refine rL (uM rfl ?_)
 refine uG (.slice (some ⟨q, 0, none⟩) 1 1) rfl (ex_move rfl rfl) ?_
 refine sl_append (news := new) tV (wn rfl) rfl rfl rfl h6el76 hv (ok_full (by omega)) (by rw [hnew]) (rd_all (hv.get 1 rfl)) (h1n) (by unfold maxLen; omega) (by omega) (fun rv10 w13 hv => ?_)
 obtain ⟨ra11, rc12, rfl⟩ := row_slice hv.head
 refine uA rfl (uW k9 ?_)
 refine rR (tR ?_)
 refine bR rfl rfl ?_
 have h9 := (hv.sub (sC _ (sD _ (sR _))))
 rw [List.nil_append] at h9
 exact ⟨_, _, rfl, h9⟩
theorem ok_nilH : SliceOk none 0 0 := ⟨Nat.le_refl _, Nat.zero_le _, fun _ => rfl⟩
theorem insPrs (B : Base) (H : List Res) (w : World) (sa : Option Addr) (c n i k q : Nat) (p d new : List Value) (hnk : n = i + k) (hm : n ≤ 1000000) (hp : p.length = i * 2) (hd : d.length = k * 2) (hnew : new.length = 2) (h1p : ∀ u ∈ p, u.oneCell' = true) (h1d : ∀ u ∈ d, u.oneCell' = true) (h1n : ∀ u ∈ new, u.oneCell' = true) (hv : Inv B (Res.row 121 2 (.slice sa n c) n (p ++ d) :: Res.cell q new 121 :: H) w) :
  Calls Tryz.prog 90 #[.slice sa n c, vI i, .slice (some ⟨q, 0, none⟩) 1 1] w fun e w' => ∃ ra rc, e = .returned (.slice ra (n + 1) rc) ∧ Inv B (Res.row 121 2 (.slice ra (n + 1) rc) (n + 1) (p ++ new ++ d) :: H) w' := by
 rcases Nat.eq_zero_or_pos n with h0 | h0
 ·obtain rfl : i = 0 := by omega
  obtain rfl : k = 0 := by omega
  subst h0
  obtain rfl : p = [] := List.eq_nil_of_length_eq_zero (by omega)
  obtain rfl : d = [] := List.eq_nil_of_length_eq_zero (by omega)
  rw [List.append_nil, List.nil_append]
  exact insPr0 B H w sa c q new hnew h1n hv
 obtain ⟨b, rfl⟩ := row_some hv.head h0
 refine (insPr B H w b c n i k q p d new h0 hnk hm hp hd hnew h1p h1d h1n hv).mono ?_
 rintro e w' ⟨b', c', rfl, h9⟩
 exact ⟨_, _, rfl, h9⟩
theorem rdW_any {B : Base} {e : TypeId} {size n c : Nat} {ad : Option Addr} {xs : List Value} {H : List Res} {w : World} (hv : Inv B (Res.row e size (.slice ad n c) n xs :: H) w) : RdW B [Res.row e size (.slice ad n c) n xs] ad xs := by
 have hl := (hv.rowOk).2.2
 rcases Nat.eq_zero_or_pos n with h0 | h0
 ·intro i hi
  rw [hl, h0, Nat.zero_mul] at hi
  exact absurd hi (Nat.not_lt_zero _)
 obtain ⟨b, rfl⟩ := row_some hv.head h0
 exact rdW_row
theorem h6al121 : AL Tryz.prog 121 [vS [], vS []] := fun w => by kernel_rfl
theorem h6callable90 : Callable Tryz.prog 90 := cb Tryz.func90 (by kernel_rfl)
theorem hashSet (B : Base) (H : List Res) (w : World) (ad : Option Addr) (c : Nat) (h : List Pr) (hok : SliceOk ad h.length c) (hr : RdV B [] ad (pairCells h)) (hm : h.length ≤ 1000000) (hs : SortedH h) (pa : Option Addr) (pc : Nat) (ps : List Pr) (hrp : RdV B [] pa (pairCells ps)) (hmp : ps.length ≤ 1000000) (hv : Inv B H w) :
  Calls Tryz.prog 73 #[.slice ad h.length c, .slice pa ps.length pc] w fun e w' => ∃ C oa oc out n ec, B.Le C ∧ e = .returned (.tuple #[.slice oa out.length oc, vI n, vI ec]) ∧ SliceOk oa out.length oc ∧ RdV C [] oa (pairCells out) ∧ SetHI h ps out n ec ∧ Inv C H w' := by
 refine cW Tryz.func73 rfl Tryz.ntmps73 ?_
 simp only [al]
 refine sK fun _ k1 => rL (uA rfl ?_)
 refine uA rfl (uA rfl ?_)
 refine uW k1 (sK fun _ k2 => ?_)
 refine sK fun _ k3 => rL (uM rfl ?_)
 refine uG (vI (ps.length : Int)) rfl (ex_len0 Tryz.underlying76 rfl rfl) (uM rfl ?_)
 refine uW k3 (bB ?_)
 gi_loopw [17] (fun x17 wr => ∃ (k : Nat), x17 = vI k ∧ k ≤ ps.length ∧ (∀ p ∈ ps.take k, FitP p) ∧ Inv B H wr) (fun x17 _ => ps.length - (intOf x17).toNat)
 case atStart => exact ⟨0, rfl, Nat.zero_le _, fun p h => (by cases h), hv⟩
 case round =>
  obtain ⟨k, rfl, hk, hfit, hv⟩ := hrel
  refine sK fun _ k5 => rL ?_
  by_cases hb6 : (k : Int) < (ps.length : Int)
  ·refine uG (.bool true) rfl (ex_lss rfl rfl rfl (qT hb6)) (uW k5 ?_)
   refine sK fun _ k7 => cT rfl (kS ?_)
   refine tK k7 (sK fun _ k8 => ?_)
   refine bB (sK fun _ k9 => ?_)
   obtain ⟨x, hx⟩ : ∃ x, ps[k]? = some x := ⟨_, List.getElem?_eq_getElem (show k < ps.length by omega)⟩
   obtain ⟨pb9, po9, had, hrdx⟩ := pair_reads hrp hx
   subst had
   refine rL (uG (.pointer (some ⟨pb9, po9 + k * 2, none⟩)) rfl (ex_index rfl rfl rfl (run_idx (k := k) Tryz.underlying76 h1es76 (by omega))) ?_)
   refine uL (.agg #[vS x.1, vS x.2]) rfl (run_loadR (cs := [vS x.1, vS x.2]) s10wd121 (Reads.mid (pre := []) (mid := [vS x.1, vS x.2]) (post := []) hrdx _ _ _ (Base.Le.refl _) no_res hv)) ?_
   refine sl_alloc tV (wn rfl) rfl hv h6al121 (fun b10 w11 hv => ?_)
   simp only [zP, po]
   refine xS 0 rfl hv s10sz121 rfl (by exact ⟨rfl, rfl, trivial⟩) (fun w12 hv => ?_)
   simp only [zO, sp] at hv
   refine uW k9 (sK fun _ k13 => ?_)
   refine rL (uL (.agg #[vS x.1, vS x.2]) rfl (lM 0 s10wd121 hv rfl rfl rfl rfl) ?_)
   by_cases hq14 : x.1.length ≤ 4096 ∧ x.2.length ≤ 4096
   ·refine xC s10callable89 rfl ((calls_bool (hashFits B _ _ x hv) (qT hq14)).mono ?_) rfl
    rintro e w15 ⟨rfl, hv⟩
    refine ⟨_, rfl, uG (.bool false) rfl (ex_not rfl rfl rfl) ?_⟩
    refine uW k13 (cF rfl ?_)
    refine kS (bN ?_)
    refine tK k8 (rL ?_)
    refine uG (vI ((k + 1 : Nat) : Int)) rfl (ex_add rfl rfl rfl (by rw [i64_in (by omega)]; omega)) (uM rfl ?_)
    refine uZ (then_normal ?_)
    go_roundw
    case rel => exact ⟨k + 1, rfl, by omega, fun y hy => (by rw [take_next hx] at hy; rcases List.mem_append.1 hy with h9 | h9; exact hfit y h9; rw [List.mem_singleton.1 h9]; exact hq14), (hv.kp [] 0 1)⟩
    case measure => show ps.length - (((k + 1 : Nat) : Int)).toNat < ps.length - ((k : Int)).toNat; omega
   refine xC s10callable89 rfl ((calls_bool (hashFits B _ _ x hv) (qF hq14)).mono ?_) rfl
   rintro e w16 ⟨rfl, hv⟩
   refine ⟨_, rfl, uG (.bool true) rfl (ex_not rfl rfl rfl) ?_⟩
   refine uW k13 (cT rfl ?_)
   refine sK fun _ k17 => rL (uA rfl ?_)
   refine uA rfl (uA rfl ?_)
   refine uW k17 (rR ?_)
   refine bZ (tR ?_)
   refine tR (bZ ?_)
   refine tR (bodyPost_ret (results_tmp3 rfl _ _ _) rfl ?_)
   exact ⟨B, none, 0, [], 0, 12, Base.Le.refl _, rfl, ok_nilH, rdV_nil, .inl ⟨by decide, rfl, rfl, .inl ⟨x, List.mem_of_getElem? hx, hq14⟩⟩, (hv.kp [] 0 1)⟩
  refine uG (.bool false) rfl (ex_lss rfl rfl rfl (qF hb6)) (uW k5 ?_)
  refine sK fun _ k18 => cF rfl (xE ?_)
  refine tX (tX ?_)
  refine bH (tK k2 ?_)
  refine sK fun _ k19 => rL (uM rfl ?_)
  obtain rfl : k = ps.length := by omega
  rw [List.take_length] at hfit
  refine xC s1callable81 rfl ((clonePrs B _ _ ad h.length c (pairCells h) [] (fun r9 h9 => absurd h9 List.not_mem_nil) hok (pairCells_len _) (pairCells_one _) (by omega) (hr.rdW []) hv).mono ?_) rfl
  rintro e w20 ⟨sa, sc, rfl, hv⟩
  refine ⟨_, rfl, uA rfl ?_⟩
  refine uW k19 (sK fun _ k21 => ?_)
  refine rL (uA rfl ?_)
  refine uW k21 (sK fun _ k22 => ?_)
  refine sK fun _ k23 => rL (uM rfl ?_)
  refine uG (vI (ps.length : Int)) rfl (ex_len0 Tryz.underlying76 rfl rfl) (uM rfl ?_)
  refine uW k23 (bB ?_)
  gi_loopw [9, 10, 29] (fun x9 x10 x29 wr => ∃ (i : Nat) (ra : Option Addr) (rc : Nat) (cur : List Pr), x9 = .slice ra cur.length rc ∧ x10 = vI ((cur.length : Int) - (h.length : Int)) ∧ x29 = vI i ∧ i ≤ ps.length ∧ cur = setsH h (ps.take i) ∧ SortedH cur ∧ Inv B (Res.row 121 2 (.slice ra cur.length rc) cur.length (pairCells cur) :: H) wr) (fun x9 x10 x29 _ => ps.length - (intOf x29).toNat)
  case atStart => exact ⟨0, sa, sc, h, rfl, by rw [Int.sub_self], rfl, Nat.zero_le _, rfl, hs, hv⟩
  case round =>
   obtain ⟨i, ra, rc, cur, rfl, rfl, rfl, hi, hcur, hso, hv⟩ := hrel
   refine sK fun _ k25 => rL ?_
   by_cases hb26 : (i : Int) < (ps.length : Int)
   ·refine uG (.bool true) rfl (ex_lss rfl rfl rfl (qT hb26)) (uW k25 ?_)
    refine sK fun _ k27 => cT rfl (kS ?_)
    refine tK k27 (sK fun _ k28 => ?_)
    refine bB (sK fun _ k29 => ?_)
    obtain ⟨x, hx⟩ : ∃ x, ps[i]? = some x := ⟨_, List.getElem?_eq_getElem (show i < ps.length by omega)⟩
    obtain ⟨pb9, po9, had, hrdx⟩ := pair_reads hrp hx
    subst had
    refine rL (uG (.pointer (some ⟨pb9, po9 + i * 2, none⟩)) rfl (ex_index rfl rfl rfl (run_idx (k := i) Tryz.underlying76 h1es76 (by omega))) ?_)
    refine uL (.agg #[vS x.1, vS x.2]) rfl (run_loadR (cs := [vS x.1, vS x.2]) s10wd121 (Reads.mid (pre := []) (mid := [vS x.1, vS x.2]) (post := []) hrdx _ _ _ (Base.Le.refl _) no_res hv)) ?_
    refine sl_alloc tV (wn rfl) rfl hv h6al121 (fun b30 w31 hv => ?_)
    simp only [zP, po]
    refine xS 0 rfl hv s10sz121 rfl (by exact ⟨rfl, rfl, trivial⟩) (fun w32 hv => ?_)
    simp only [zO, sp] at hv
    refine uW k29 (sK fun _ k33 => ?_)
    refine sK fun _ k34 => rL (uM rfl ?_)
    refine uG (vI (cur.length : Int)) rfl (ex_len0 Tryz.underlying76 rfl rfl) ?_
    by_cases hb35 : (cur.length : Int) > 512
    ·refine uG (.bool true) rfl (ex_gtr rfl rfl rfl (qT hb35)) (uW k34 ?_)
     refine cT rfl (xE ?_)
     refine tX (bM rfl ?_)
     refine tX (tX ?_)
     refine bH (tK k22 ?_)
     refine sK fun _ k36 => sK fun _ k37 => rL (uM rfl ?_)
     refine uG (vI (cur.length : Int)) rfl (ex_len0 Tryz.underlying76 rfl rfl) ?_
     refine uG (.bool true) rfl (ex_gtr rfl rfl rfl (qT hb35)) (uW k37 ?_)
     refine cT rfl (sK fun _ k38 => ?_)
     refine rL (uA rfl ?_)
     refine uA rfl (uA rfl ?_)
     refine uW k38 (rR ?_)
     refine tR (bodyPost_ret (results_tmp3 rfl _ _ _) rfl ?_)
     exact ⟨B, none, 0, [], 0, 22, Base.Le.refl _, rfl, ok_nilH, rdV_nil, .inl ⟨by decide, rfl, rfl, .inr (by have h9 := setsH_more h ps i; rw [← hcur] at h9; omega)⟩, (hv.kp [] 0 2)⟩
    refine uG (.bool false) rfl (ex_gtr rfl rfl rfl (qF hb35)) (uW k34 ?_)
    refine cF rfl (kS ?_)
    refine tK k33 (sK fun _ k39 => ?_)
    refine rL (uM rfl ?_)
    refine uF (vP b30) rfl (h1fa121_0 _ _ _) ?_
    refine uL _ rfl (run_load1 h1na9 (hv.load 0 0 rfl rfl)) ?_
    replace hv := hv.front 1 rfl
    simp only [eS, eZ] at hv
    refine xC h1callable75 rfl ((hashFind B _ _ ra rc cur x.1 _ (fun r9 h9 => by rw [List.mem_singleton.1 h9]; exact List.mem_cons_self) (rdW_any hv) (by omega) hv).mono ?_) rfl
    rintro e w40 ⟨j, b, hu, rfl, hb, hv⟩
    refine ⟨_, rfl, ?_⟩
    cases b
    ·have hn : ∀ p, cur[j]? = some p → p.1 ≠ x.1 := fun p hp he => by have h9 := hb.2 ⟨p, hp, he⟩; cases h9
     have hinl : (insH cur x.1 x.2).length = cur.length + 1 := hu.ins_len hso hn
     have hjl := hu.1
     refine uM rfl (uE rfl ?_)
     refine uE rfl (uA rfl ?_)
     refine uA rfl (uW k39 ?_)
     refine sK fun _ k41 => sK fun _ k42 => rL (uM rfl ?_)
     refine uW k42 (cF rfl ?_)
     refine kS (tK k41 ?_)
     refine sK fun _ k43 => rL (uM rfl ?_)
     refine uM rfl ?_
     refine uL (.agg #[vS x.1, vS x.2]) rfl (lM 1 s10wd121 hv rfl rfl rfl rfl) ?_
     refine sl_rowAgg (L := [vS x.1, vS x.2]) tV (wn rfl) rfl rfl hv h6el76 rfl (by decide) (fun b44 w45 hv => ?_)
     replace hv := hv.front 1 rfl
     simp only [eS, eZ] at hv
     rw [pairCells_split cur j] at hv
     refine xC h6callable90 rfl ((insPrs B _ _ ra rc cur.length j (cur.length - j) b44 _ _ [strV x.1, strV x.2] (by omega) (by omega) (by rw [pairCells_len, List.length_take]; omega) (by rw [pairCells_len, List.length_drop]) rfl (pairCells_one _) (pairCells_one _) (one_cons rfl (one_cons rfl one_nil)) hv).mono ?_) rfl
     rintro e w46 ⟨na, nc, rfl, hv⟩
     refine ⟨_, rfl, uA rfl ?_⟩
     refine uW k43 (rL ?_)
     refine uM rfl ?_
     refine uG (vI ((cur.length : Int) - (h.length : Int) + 1)) rfl (ex_add rfl rfl rfl (by rw [i64_in (by omega)])) (uA rfl ?_)
     refine uZ (bN ?_)
     refine tK k28 (rL ?_)
     refine uG (vI ((i + 1 : Nat) : Int)) rfl (ex_add rfl rfl rfl (by rw [i64_in (by omega)]; omega)) (uM rfl ?_)
     refine uZ (then_normal ?_)
     go_roundw
     case rel => exact ⟨i + 1, na, nc, insH cur x.1 x.2, by rw [hinl], by rw [hinl]; congr 1; omega, rfl, by omega, by rw [hcur, setsH_next hx], hso.ins, by rw [hinl, pairCells_ins hso hu hn]; exact (hv.kp [] 1 1)⟩
     case measure => show ps.length - (((i + 1 : Nat) : Int)).toNat < ps.length - ((i : Int)).toNat; omega
    obtain ⟨p, hp, hpf⟩ := hb.1 rfl
    have hjl : j < cur.length := (List.getElem?_eq_some_iff.1 hp).1
    have hset : (insH cur x.1 x.2).length = cur.length := hu.set_len hso hp hpf
    refine uM rfl (uE rfl ?_)
    refine uE rfl (uA rfl ?_)
    refine uA rfl (uW k39 ?_)
    refine sK fun _ k47 => sK fun _ k48 => rL (uM rfl ?_)
    refine uW k48 (cT rfl ?_)
    refine sK fun _ k49 => ?_
    obtain ⟨sb, had9⟩ := row_some hv.head (by omega)
    subst had9
    refine rL (uM rfl ?_)
    refine uM rfl ?_
    refine uF (.pointer (some ⟨b30, 1, none⟩)) rfl (h1fa121_1 _ _ _) ?_
    refine uL _ rfl (run_load1 h1na9 (hv.load 1 1 rfl rfl)) ?_
    refine uG (.pointer (some ⟨sb, 0 + j * 2, none⟩)) rfl (ex_index rfl rfl rfl (run_idx (k := j) Tryz.underlying76 h1es76 (by omega))) ?_
    refine uF (.pointer (some ⟨sb, 0 + j * 2 + 1, none⟩)) rfl (h1fa121_1 _ _ _) ?_
    have hcells : (pairCells cur).set (0 + j * 2 + 1) (strV x.2) = pairCells (insH cur x.1 x.2) := by rw [Nat.zero_add, ← pairCells_set hp, hpf, hu.set hso hp hpf]
    refine sl_storeRow (v := vS x.2) tV (wn rfl) rfl rfl rfl hv s12sz9 (by rw [pairCells_len]; omega) rfl rfl (fun w50 hv => ?_)
    refine uW k49 (xE ?_)
    refine tX (bH ?_)
    refine tK k28 (rL ?_)
    refine uG (vI ((i + 1 : Nat) : Int)) rfl (ex_add rfl rfl rfl (by rw [i64_in (by omega)]; omega)) (uM rfl ?_)
    refine uZ (then_normal ?_)
    go_roundw
    case rel => exact ⟨i + 1, _, rc, insH cur x.1 x.2, by rw [hset], by rw [hset], rfl, by omega, by rw [hcur, setsH_next hx], hso.ins, by rw [hset, ← hcells]; exact (hv.kp [] 1 1)⟩
    case measure => show ps.length - (((i + 1 : Nat) : Int)).toNat < ps.length - ((i : Int)).toNat; omega
   refine uG (.bool false) rfl (ex_lss rfl rfl rfl (qF hb26)) (uW k25 ?_)
   refine sK fun _ k51 => cF rfl (xE ?_)
   refine tX (tX ?_)
   refine bH (tK k22 ?_)
   refine sK fun _ k52 => sK fun _ k53 => rL (uM rfl ?_)
   refine uG (vI (cur.length : Int)) rfl (ex_len0 Tryz.underlying76 rfl rfl) ?_
   by_cases hb54 : (cur.length : Int) > 512
   ·refine uG (.bool true) rfl (ex_gtr rfl rfl rfl (qT hb54)) (uW k53 ?_)
    refine cT rfl (sK fun _ k55 => ?_)
    refine rL (uA rfl ?_)
    refine uA rfl (uA rfl ?_)
    refine uW k55 (rR ?_)
    refine tR (bodyPost_ret (results_tmp3 rfl _ _ _) rfl ?_)
    exact ⟨B, none, 0, [], 0, 22, Base.Le.refl _, rfl, ok_nilH, rdV_nil, .inl ⟨by decide, rfl, rfl, .inr (by have h9 := setsH_more h ps i; rw [← hcur] at h9; omega)⟩, (hv.kp [] 0 1)⟩
   refine uG (.bool false) rfl (ex_gtr rfl rfl rfl (qF hb54)) (uW k53 ?_)
   refine cF rfl (kS ?_)
   refine tK k52 (sK fun _ k56 => ?_)
   refine rL (uM rfl ?_)
   refine uM rfl (uA rfl ?_)
   refine uA rfl (uA rfl ?_)
   refine uW k56 (rR ?_)
   refine bodyPost_ret (results_tmp3 rfl _ _ _) rfl ?_
   obtain rfl : i = ps.length := by omega
   rw [List.take_length] at hcur
   obtain ⟨D, hD, hv, hro, hoko, -⟩ := (hv).rowBy
   exact ⟨D, ra, rc, cur, _, 0, hD, rfl, hoko, hro, .inr ⟨rfl, hfit, hcur, by omega, rfl⟩, hv⟩
theorem rsal28 : AL Tryz.prog 28 [vI 0, vS [], vI 0, vN] := fun w => by kernel_rfl
theorem rssz28 : (Tryz.prog.info? 28).map (·.size) = some 4 := by kernel_rfl
theorem rswd28 : Wide Tryz.prog 28 4 := wide_of (fun w => by kernel_rfl) (by kernel_rfl)
theorem respInt (B : Base) (H : List Res) (w : World) (n : Int) (hv : Inv B H w) :
  Calls Tryz.prog 44 #[vI n] w fun e w' => e = .returned (.agg #[vI 2, vS [], vI n, vN]) ∧ Inv B H w' := by
 refine cW Tryz.func44 rfl Tryz.ntmps44 ?_
 simp only [al]
 refine sK fun _ k1 => rL (sl_alloc tV (wn rfl) rfl hv rsal28 (fun b2 w3 hv => ?_))
 refine uW k1 (sK fun _ k4 => ?_)
 refine rL (uM rfl ?_)
 refine uG (.agg #[vI 2, vS [], vI n, vN]) rfl (ex_buildN (vs := #[(0, vI 2), (2, vI n)]) rfl (by simp only [List.map_toArray, List.map_cons, List.map_nil]; rfl) (by kernel_rfl)) ?_
 refine xS 0 rfl hv rssz28 rfl (by exact ⟨rfl, rfl, rfl, rfl, trivial⟩) (fun w5 hv => ?_)
 simp only [zO, sp] at hv
 refine uW k4 (rR ?_)
 refine bC 0 rswd28 hv rfl rfl rfl rfl (⟨rfl, (hv.kp [] 0 1)⟩)
theorem respStr (B : Base) (H : List Res) (w : World) (s : List UInt8) (hv : Inv B H w) :
  Calls Tryz.prog 69 #[vS s] w fun e w' => e = .returned (.agg #[vI 3, vS s, vI 0, vN]) ∧ Inv B H w' := by
 refine cW Tryz.func69 rfl Tryz.ntmps69 ?_
 simp only [al]
 refine sK fun _ k1 => rL (sl_alloc tV (wn rfl) rfl hv rsal28 (fun b2 w3 hv => ?_))
 refine uW k1 (sK fun _ k4 => ?_)
 refine rL (uM rfl ?_)
 refine uG (.agg #[vI 3, vS s, vI 0, vN]) rfl (ex_buildN (vs := #[(0, vI 3), (1, vS s)]) rfl (by simp only [List.map_toArray, List.map_cons, List.map_nil]; rfl) (by kernel_rfl)) ?_
 refine xS 0 rfl hv rssz28 rfl (by exact ⟨rfl, rfl, rfl, rfl, trivial⟩) (fun w5 hv => ?_)
 simp only [zO, sp] at hv
 refine uW k4 (rR ?_)
 refine bC 0 rswd28 hv rfl rfl rfl rfl (⟨rfl, (hv.kp [] 0 1)⟩)
theorem respWrong (B : Base) (H : List Res) (w : World) (s : List UInt8) (hv : Inv B H w) :
  Calls Tryz.prog 38 #[vS s] w fun e w' => e = .returned (.agg #[vI 1, vS s, vI 0, vN]) ∧ Inv B H w' := by
 refine cW Tryz.func38 rfl Tryz.ntmps38 ?_
 simp only [al]
 refine sK fun _ k1 => rL (sl_alloc tV (wn rfl) rfl hv rsal28 (fun b2 w3 hv => ?_))
 refine uW k1 (sK fun _ k4 => ?_)
 refine rL (uM rfl ?_)
 refine uG (.agg #[vI 1, vS s, vI 0, vN]) rfl (ex_buildN (vs := #[(0, vI 1), (1, vS s)]) rfl (by simp only [List.map_toArray, List.map_cons, List.map_nil]; rfl) (by kernel_rfl)) ?_
 refine xS 0 rfl hv rssz28 rfl (by exact ⟨rfl, rfl, rfl, rfl, trivial⟩) (fun w5 hv => ?_)
 simp only [zO, sp] at hv
 refine uW k4 (rR ?_)
 refine bC 0 rswd28 hv rfl rfl rfl rfl (⟨rfl, (hv.kp [] 0 1)⟩)
theorem respNone (B : Base) (H : List Res) (w : World) (hv : Inv B H w) :
  Calls Tryz.prog 76 #[] w fun e w' => e = .returned (.agg #[vI 4, vS [], vI 0, vN]) ∧ Inv B H w' := by
 refine cW Tryz.func76 rfl Tryz.ntmps76 ?_
 simp only [al]
 refine sK fun _ k1 => rL (sl_alloc tV (wn rfl) rfl hv rsal28 (fun b2 w3 hv => ?_))
 refine uW k1 (sK fun _ k4 => ?_)
 refine rL (uG (.agg #[vI 4, vS [], vI 0, vN]) rfl (ex_buildN (vs := #[(0, vI 4)]) rfl (by simp only [List.map_toArray, List.map_cons, List.map_nil]; rfl) (by kernel_rfl)) ?_)
 refine xS 0 rfl hv rssz28 rfl (by exact ⟨rfl, rfl, rfl, rfl, trivial⟩) (fun w5 hv => ?_)
 simp only [zO, sp] at hv
 refine uW k4 (rR ?_)
 refine bC 0 rswd28 hv rfl rfl rfl rfl (⟨rfl, (hv.kp [] 0 1)⟩)
theorem rscallable38 : Callable Tryz.prog 38 := cb Tryz.func38 (by kernel_rfl)
theorem viewWrong (B : Base) (H : List Res) (w : World) (n : Int) (hv : Inv B H w) :
  Calls Tryz.prog 24 #[vI n] w fun e w' => ∃ s : List UInt8, e = .returned (.agg #[vI 1, vS s, vI 0, vN]) ∧ Inv B H w' := by
 refine cW Tryz.func24 rfl Tryz.ntmps24 ?_
 simp only [al]
 refine sK fun _ k1 => rL (sl_alloc tV (wn rfl) rfl hv rsal28 (fun b2 w3 hv => ?_))
 refine uW k1 (sK fun _ k4 => ?_)
 refine sK fun _ k5 => rL (uM rfl ?_)
 refine uW k5 (bB ?_)
 refine sK fun _ k6 => rL ?_
 by_cases hb7 : n = 40
 ·refine uG (.bool true) rfl (ex_eql rfl rfl rfl (qT hb7)) (uA rfl ?_)
  refine uW k6 (cT rfl ?_)
  refine sK fun _ k8 => rL (xC rscallable38 rfl ((respWrong B _ _ ([87, 82, 79, 78, 71, 84, 89, 80, 69, 32, 116, 104, 101, 32, 107, 101, 121, 32, 104, 97, 115, 32, 97, 32, 118, 97, 108, 117, 101, 32, 111, 102, 32, 97, 110, 111, 116, 104, 101, 114, 32, 107, 105, 110, 100] : List UInt8) hv).mono ?_) rfl)
  rintro e w9 ⟨rfl, hv⟩
  refine ⟨_, rfl, ?_⟩
  refine xS 0 rfl hv rssz28 rfl (by exact ⟨rfl, rfl, rfl, rfl, trivial⟩) (fun w10 hv => ?_)
  simp only [zO, sp] at hv
  refine uW k8 (rR ?_)
  refine bZ (tR ?_)
  refine bC 0 rswd28 hv rfl rfl rfl rfl (⟨_, rfl, (hv.kp [] 0 1)⟩)
 refine uG (.bool false) rfl (ex_eql rfl rfl rfl (qF hb7)) (uA rfl ?_)
 refine uW k6 (cF rfl ?_)
 refine sK fun _ k11 => rL ?_
 by_cases hb12 : n = 41
 ·refine uG (.bool true) rfl (ex_eql rfl rfl rfl (qT hb12)) (uA rfl ?_)
  refine uW k11 (cT rfl ?_)
  refine sK fun _ k13 => rL (xC rscallable38 rfl ((respWrong B _ _ ([69, 82, 82, 32, 105, 116, 32, 105, 115, 32, 110, 111, 32, 110, 117, 109, 98, 101, 114] : List UInt8) hv).mono ?_) rfl)
  rintro e w14 ⟨rfl, hv⟩
  refine ⟨_, rfl, ?_⟩
  refine xS 0 rfl hv rssz28 rfl (by exact ⟨rfl, rfl, rfl, rfl, trivial⟩) (fun w15 hv => ?_)
  simp only [zO, sp] at hv
  refine uW k13 (rR ?_)
  refine bZ (tR ?_)
  refine bC 0 rswd28 hv rfl rfl rfl rfl (⟨_, rfl, (hv.kp [] 0 1)⟩)
 refine uG (.bool false) rfl (ex_eql rfl rfl rfl (qF hb12)) (uA rfl ?_)
 refine uW k11 (cF rfl ?_)
 refine sK fun _ k16 => rL ?_
 by_cases hb17 : n = 13
 ·refine uG (.bool true) rfl (ex_eql rfl rfl rfl (qT hb17)) (uA rfl ?_)
  refine uW k16 (cT rfl ?_)
  refine sK fun _ k18 => rL (xC rscallable38 rfl ((respWrong B _ _ ([69, 82, 82, 32, 116, 104, 101, 32, 110, 117, 109, 98, 101, 114, 32, 105, 115, 32, 116, 111, 111, 32, 103, 114, 101, 97, 116, 32, 111, 114, 32, 116, 111, 111, 32, 115, 109, 97, 108, 108] : List UInt8) hv).mono ?_) rfl)
  rintro e w19 ⟨rfl, hv⟩
  refine ⟨_, rfl, ?_⟩
  refine xS 0 rfl hv rssz28 rfl (by exact ⟨rfl, rfl, rfl, rfl, trivial⟩) (fun w20 hv => ?_)
  simp only [zO, sp] at hv
  refine uW k18 (rR ?_)
  refine bZ (tR ?_)
  refine bC 0 rswd28 hv rfl rfl rfl rfl (⟨_, rfl, (hv.kp [] 0 1)⟩)
 refine uG (.bool false) rfl (ex_eql rfl rfl rfl (qF hb17)) (uA rfl ?_)
 refine uW k16 (cF rfl ?_)
 refine sK fun _ k21 => rL ?_
 by_cases hb22 : n = 42
 ·refine uG (.bool true) rfl (ex_eql rfl rfl rfl (qT hb22)) (uA rfl ?_)
  refine uW k21 (cT rfl ?_)
  refine sK fun _ k23 => rL (xC rscallable38 rfl ((respWrong B _ _ ([69, 82, 82, 32, 115, 121, 110, 116, 97, 120] : List UInt8) hv).mono ?_) rfl)
  rintro e w24 ⟨rfl, hv⟩
  refine ⟨_, rfl, ?_⟩
  refine xS 0 rfl hv rssz28 rfl (by exact ⟨rfl, rfl, rfl, rfl, trivial⟩) (fun w25 hv => ?_)
  simp only [zO, sp] at hv
  refine uW k23 (rR ?_)
  refine bZ (tR ?_)
  refine bC 0 rswd28 hv rfl rfl rfl rfl (⟨_, rfl, (hv.kp [] 0 1)⟩)
 refine uG (.bool false) rfl (ex_eql rfl rfl rfl (qF hb22)) (uA rfl ?_)
 refine uW k21 (cF rfl ?_)
 refine sK fun _ k26 => rL ?_
 by_cases hb27 : n = 43
 ·refine uG (.bool true) rfl (ex_eql rfl rfl rfl (qT hb27)) (uA rfl ?_)
  refine uW k26 (cT rfl ?_)
  refine sK fun _ k28 => rL (xC rscallable38 rfl ((respWrong B _ _ ([69, 82, 82, 32, 119, 114, 111, 110, 103, 32, 110, 117, 109, 98, 101, 114, 32, 111, 102, 32, 97, 114, 103, 117, 109, 101, 110, 116, 115] : List UInt8) hv).mono ?_) rfl)
  rintro e w29 ⟨rfl, hv⟩
  refine ⟨_, rfl, ?_⟩
  refine xS 0 rfl hv rssz28 rfl (by exact ⟨rfl, rfl, rfl, rfl, trivial⟩) (fun w30 hv => ?_)
  simp only [zO, sp] at hv
  refine uW k28 (rR ?_)
  refine bZ (tR ?_)
  refine bC 0 rswd28 hv rfl rfl rfl rfl (⟨_, rfl, (hv.kp [] 0 1)⟩)
 refine uG (.bool false) rfl (ex_eql rfl rfl rfl (qF hb27)) (uA rfl ?_)
 refine uW k26 (cF rfl ?_)
 refine sK fun _ k31 => rL ?_
 by_cases hb32 : n = 44
 ·refine uG (.bool true) rfl (ex_eql rfl rfl rfl (qT hb32)) (uA rfl ?_)
  refine uW k31 (cT rfl ?_)
  refine sK fun _ k33 => rL (xC rscallable38 rfl ((respWrong B _ _ ([69, 82, 82, 32, 116, 104, 101, 114, 101, 32, 105, 115, 32, 110, 111, 32, 115, 117, 99, 104, 32, 112, 108, 97, 99, 101] : List UInt8) hv).mono ?_) rfl)
  rintro e w34 ⟨rfl, hv⟩
  refine ⟨_, rfl, ?_⟩
  refine xS 0 rfl hv rssz28 rfl (by exact ⟨rfl, rfl, rfl, rfl, trivial⟩) (fun w35 hv => ?_)
  simp only [zO, sp] at hv
  refine uW k33 (rR ?_)
  refine bZ (tR ?_)
  refine bC 0 rswd28 hv rfl rfl rfl rfl (⟨_, rfl, (hv.kp [] 0 1)⟩)
 refine uG (.bool false) rfl (ex_eql rfl rfl rfl (qF hb32)) (uA rfl ?_)
 refine uW k31 (cF rfl ?_)
 refine sK fun _ k36 => rL ?_
 by_cases hb37 : n = 23
 ·refine uG (.bool true) rfl (ex_eql rfl rfl rfl (qT hb37)) (uA rfl ?_)
  refine uW k36 (cT rfl ?_)
  refine sK fun _ k38 => rL (xC rscallable38 rfl ((respWrong B _ _ ([69, 82, 82, 32, 116, 104, 101, 114, 101, 32, 105, 115, 32, 110, 111, 32, 115, 117, 99, 104, 32, 107, 101, 121] : List UInt8) hv).mono ?_) rfl)
  rintro e w39 ⟨rfl, hv⟩
  refine ⟨_, rfl, ?_⟩
  refine xS 0 rfl hv rssz28 rfl (by exact ⟨rfl, rfl, rfl, rfl, trivial⟩) (fun w40 hv => ?_)
  simp only [zO, sp] at hv
  refine uW k38 (rR ?_)
  refine bZ (tR ?_)
  refine bC 0 rswd28 hv rfl rfl rfl rfl (⟨_, rfl, (hv.kp [] 0 1)⟩)
 refine uG (.bool false) rfl (ex_eql rfl rfl rfl (qF hb37)) (uA rfl ?_)
 refine uW k36 (cF rfl ?_)
 refine sK fun _ k41 => sK fun _ k42 => rL ?_
 by_cases hb43 : n = 12
 ·refine uG (.bool true) rfl (ex_eql rfl rfl rfl (qT hb43)) (uA rfl ?_)
  refine uW k42 (cT rfl ?_)
  refine kS (tK k41 ?_)
  refine cT rfl (sK fun _ k44 => ?_)
  refine rL (xC rscallable38 rfl ((respWrong B _ _ ([69, 82, 82, 32, 105, 116, 32, 105, 115, 32, 116, 111, 111, 32, 109, 117, 99, 104] : List UInt8) hv).mono ?_) rfl)
  rintro e w45 ⟨rfl, hv⟩
  refine ⟨_, rfl, ?_⟩
  refine xS 0 rfl hv rssz28 rfl (by exact ⟨rfl, rfl, rfl, rfl, trivial⟩) (fun w46 hv => ?_)
  simp only [zO, sp] at hv
  refine uW k44 (rR ?_)
  refine bZ (tR ?_)
  refine bC 0 rswd28 hv rfl rfl rfl rfl (⟨_, rfl, (hv.kp [] 0 1)⟩)
 refine uG (.bool false) rfl (ex_eql rfl rfl rfl (qF hb43)) (uA rfl ?_)
 refine uW k42 (cF rfl ?_)
 refine rL ?_
 by_cases hb47 : n = 22
 ·refine uG (.bool true) rfl (ex_eql rfl rfl rfl (qT hb47)) (uA rfl ?_)
  refine uW k41 (cT rfl ?_)
  refine sK fun _ k48 => rL (xC rscallable38 rfl ((respWrong B _ _ ([69, 82, 82, 32, 105, 116, 32, 105, 115, 32, 116, 111, 111, 32, 109, 117, 99, 104] : List UInt8) hv).mono ?_) rfl)
  rintro e w49 ⟨rfl, hv⟩
  refine ⟨_, rfl, ?_⟩
  refine xS 0 rfl hv rssz28 rfl (by exact ⟨rfl, rfl, rfl, rfl, trivial⟩) (fun w50 hv => ?_)
  simp only [zO, sp] at hv
  refine uW k48 (rR ?_)
  refine bZ (tR ?_)
  refine bC 0 rswd28 hv rfl rfl rfl rfl (⟨_, rfl, (hv.kp [] 0 1)⟩)
 refine uG (.bool false) rfl (ex_eql rfl rfl rfl (qF hb47)) (uA rfl ?_)
 refine uW k41 (cF rfl ?_)
 refine sK fun _ k51 => rL ?_
 by_cases hb52 : n = 32
 ·refine uG (.bool true) rfl (ex_eql rfl rfl rfl (qT hb52)) (uA rfl ?_)
  refine uW k51 (cT rfl ?_)
  refine sK fun _ k53 => rL (xC rscallable38 rfl ((respWrong B _ _ ([82, 69, 65, 68, 79, 78, 76, 89, 32, 105, 116, 32, 109, 97, 121, 32, 114, 101, 97, 100, 32, 97, 108, 111, 110, 101] : List UInt8) hv).mono ?_) rfl)
  rintro e w54 ⟨rfl, hv⟩
  refine ⟨_, rfl, ?_⟩
  refine xS 0 rfl hv rssz28 rfl (by exact ⟨rfl, rfl, rfl, rfl, trivial⟩) (fun w55 hv => ?_)
  simp only [zO, sp] at hv
  refine uW k53 (rR ?_)
  refine bZ (tR ?_)
  refine bC 0 rswd28 hv rfl rfl rfl rfl (⟨_, rfl, (hv.kp [] 0 1)⟩)
 refine uG (.bool false) rfl (ex_eql rfl rfl rfl (qF hb52)) (uA rfl ?_)
 refine uW k51 (cF rfl ?_)
 refine kS (bN ?_)
 refine tK k4 (sK fun _ k56 => ?_)
 refine rL (xC rscallable38 rfl ((respWrong B _ _ ([69, 82, 82, 32, 105, 116, 32, 109, 97, 121, 32, 110, 111, 116, 32, 98, 101] : List UInt8) hv).mono ?_) rfl)
 rintro e w57 ⟨rfl, hv⟩
 refine ⟨_, rfl, ?_⟩
 refine xS 0 rfl hv rssz28 rfl (by exact ⟨rfl, rfl, rfl, rfl, trivial⟩) (fun w58 hv => ?_)
 simp only [zO, sp] at hv
 refine uW k56 (rR ?_)
 refine bC 0 rswd28 hv rfl rfl rfl rfl (⟨_, rfl, (hv.kp [] 0 1)⟩)
theorem rscallable24 : Callable Tryz.prog 24 := cb Tryz.func24 (by kernel_rfl)
theorem viewDone (B : Base) (H : List Res) (w : World) (n k m : Int) (s0 : List UInt8) (v : Value) (_ : v.cells = #[v]) (h2 : v.oneCell' = true) (hv : Inv B H w) :
  Calls Tryz.prog 46 #[vI n, .agg #[vI k, vS s0, vI m, v]] w fun e w' => ∃ x, ((n = 0 ∧ x = .agg #[vI k, vS s0, vI m, v]) ∨ (n ≠ 0 ∧ ∃ s : List UInt8, x = .agg #[vI 1, vS s, vI 0, vN])) ∧ e = .returned x ∧ Inv B H w' := by
 refine cW Tryz.func46 rfl Tryz.ntmps46 ?_
 simp only [al]
 refine sK fun _ k1 => rL (sl_box (L := [vI k, vS s0, vI m, v]) tV (wn rfl) rfl rfl hv (fun w => by kernel_rfl) (fun b2 w3 hv => ?_))
 refine sl_alloc tV (wn rfl) rfl hv rsal28 (fun b4 w5 hv => ?_)
 refine uW k1 (sK fun _ k6 => ?_)
 refine sK fun _ k7 => rL (uM rfl ?_)
 by_cases hb8 : n ≠ 0
 ·refine uG (.bool true) rfl (ex_neq rfl rfl rfl (qT hb8)) (uW k7 ?_)
  refine cT rfl (sK fun _ k9 => ?_)
  refine rL (uM rfl ?_)
  refine xC rscallable24 rfl ((viewWrong B _ _ n hv).mono ?_) rfl
  rintro e w11 ⟨s10, rfl, hv⟩
  refine ⟨_, rfl, ?_⟩
  refine xS 0 rfl hv rssz28 rfl (by exact ⟨rfl, rfl, rfl, rfl, trivial⟩) (fun w12 hv => ?_)
  simp only [zO, sp] at hv
  refine uW k9 (rR ?_)
  refine tR (bC 0 rswd28 hv rfl rfl rfl rfl ?_)
  exact ⟨_, .inr ⟨by omega, _, rfl⟩, rfl, (hv.kp [] 0 2)⟩
 refine uG (.bool false) rfl (ex_neq rfl rfl rfl (qF hb8)) (uW k7 ?_)
 refine cF rfl (kS ?_)
 refine tK k6 (sK fun _ k13 => ?_)
 refine rL (uL (.agg #[vI k, vS s0, vI m, v]) rfl (lM 1 rswd28 hv rfl rfl rfl rfl) ?_)
 refine xS 0 rfl hv rssz28 rfl (by exact ⟨rfl, rfl, rfl, h2, trivial⟩) (fun w14 hv => ?_)
 simp only [zO, sp] at hv
 refine uW k13 (rR ?_)
 refine bC 0 rswd28 hv rfl rfl rfl rfl (⟨_, .inl ⟨by omega, rfl⟩, rfl, (hv.kp [] 0 2)⟩)
end Go.Proofs.YtffnhfkkochnhaaGreatDoor
namespace Go.Pm
open Go.RowKit
structure Leaf where
 k : Int
 s : List UInt8
 n : Int
abbrev nilS : Value := .slice none 0 0
abbrev leafC (x : Leaf) (v : Value) : List Value := rpCells x.k x.s x.n v
def leafR (x : Leaf) : Rp := .mk x.k x.s x.n []
abbrev leafN (x : Leaf) : List Value := leafC x nilS
def lvC (pre : List Leaf) : Option (Leaf × Value) → List Value
 | none => pre.flatMap leafN
 | some (x, v) => pre.flatMap leafN ++ leafC x v
theorem leafs_len (l : List Leaf) : (l.flatMap leafN).length = l.length * 4 := rowk_len (k := 4) (fun _ => rfl) l
theorem lvC_len0 (l : List Leaf) : (lvC l none).length = l.length * 4 := leafs_len l
theorem lvC_len1 (l : List Leaf) (x : Leaf) (v : Value) : (lvC l (some (x, v))).length = (l.length + 1) * 4 := by
 show (l.flatMap leafN ++ leafC x v).length = _
 rw [List.length_append, leafs_len, Nat.succ_mul]; rfl
theorem lvC_pre {l : List Leaf} {o : Option (Leaf × Value)} {i j : Nat} {x : Leaf} (hx : l[i]? = some x) (hj : j < 4) : (lvC l o)[i * 4 + j]? = (leafN x)[j]? := by
 have h := rowk_get (f := leafN) (k := 4) (fun _ => rfl) hx hj
 cases o with
 | none => exact h
 | some p =>
  show (l.flatMap leafN ++ _)[_]? = _
  have hi := (List.getElem?_eq_some_iff.1 hx).1
  have := Nat.mul_le_mul_right 4 (show i + 1 ≤ l.length by omega)
  rw [Nat.succ_mul] at this
  rw [List.getElem?_append_left (by rw [leafs_len]; omega)]
  exact h
theorem lvC_last {l : List Leaf} {x : Leaf} {v : Value} {j : Nat} : (lvC l (some (x, v)))[l.length * 4 + j]? = (leafC x v)[j]? := by
 show (l.flatMap leafN ++ _)[_]? = _
 rw [List.getElem?_append_right (by rw [leafs_len]; omega), leafs_len, Nat.add_sub_cancel_left]
theorem lvSet_same {α : Type} {l : List α} {i : Nat} {v : α} (h : l[i]? = some v) : l.set i v = l := by
 refine List.ext_getElem? fun j => ?_
 rw [List.getElem?_set]
 split
 ·rename_i e; subst e
  have := (List.getElem?_eq_some_iff.1 h).1
  rw [if_pos this, h]
 rfl
theorem lvC_set {l : List Leaf} {o : Option (Leaf × Value)} {i : Nat} {x : Leaf} (hx : l[i]? = some x) : (lvC l o).set (i * 4 + 3) nilS = lvC l o := lvSet_same (by rw [lvC_pre hx (by decide)]; rfl)
theorem lvC_setl {l : List Leaf} {x : Leaf} {v u : Value} : (lvC l (some (x, v))).set (l.length * 4 + 3) u = lvC l (some (x, u)) := by
 show (l.flatMap leafN ++ _).set _ _ = l.flatMap leafN ++ _
 rw [List.set_append_right _ _ (by rw [leafs_len]; omega), leafs_len, Nat.add_sub_cancel_left]; rfl
theorem lvC_one {l : List Leaf} {o : Option (Leaf × Value)} (ho : ∀ p, o = some p → p.2.oneCell' = true) : ∀ u ∈ lvC l o, u.oneCell' = true := by
 have h0 : ∀ u ∈ l.flatMap leafN, u.oneCell' = true := by
  intro u hu
  obtain ⟨x, -, hu⟩ := List.mem_flatMap.1 hu
  simp only [List.mem_cons, List.not_mem_nil, or_false] at hu
  rcases hu with rfl | rfl | rfl | rfl <;> rfl
 cases o with
 | none => exact h0
 | some p =>
  intro u hu
  rcases List.mem_append.1 (show u ∈ l.flatMap leafN ++ leafC p.1 p.2 from hu) with hu | hu
  ·exact h0 u hu
  simp only [List.mem_cons, List.not_mem_nil, or_false] at hu
  rcases hu with rfl | rfl | rfl | rfl
  ·rfl
  ·rfl
  ·rfl
  exact ho p rfl
theorem lvC_at0 {B : Base} : ∀ (l : List Leaf), RpsAt B (l.map leafR) (l.flatMap leafN)
 | [] => RpsAt.nil
 | x :: l => RpsAt.cons (rpAt_leaf (k := x.k) (s := x.s) (n := x.n)) (lvC_at0 l)
theorem lvC_at1 {B : Base} {pre l : List Leaf} {x : Leaf} {v : Value} (h : RowB B v l.length (l.flatMap leafN)) : RpsAt B (pre.map leafR ++ [.mk x.k x.s x.n (l.map leafR)]) (lvC pre (some (x, v))) :=
 RpsAt.append (RpsAt.single (rpAt_of (l := l.map leafR) (by rw [List.length_map]; exact h) (lvC_at0 l))) (lvC_at0 pre)
theorem row_loads {w : World} {e : TypeId} {size n c b k off : Nat} {xs cs : List Value} (h : w.ownsRow 0 e size (.slice (some ⟨b, 0, none⟩) n c) n xs) (ho : off = k) (hcs : ∀ j, j < cs.length → cs[j]? = xs[k + j]?) : ∀ j v, cs[j]? = some v → w.cell? ⟨b, off + j, none⟩ = some v := by
 subst ho
 intro j v hj
 have := row_load h (j := off + j) (v := v) (by rw [← hcs j (List.getElem?_eq_some_iff.1 hj).1, hj])
 rw [Nat.zero_add] at this
 exact this
theorem Inv.rowLess {B : Base} {n m c size b : Nat} {e : TypeId} {xs : List Value} {H : List Res} {w : World} (hv : Inv B (Res.row e size (.slice (some ⟨b, 0, none⟩) n c) n xs :: H) w) (hm : m ≤ n) : Inv B (Res.row e size (.slice (some ⟨b, 0, none⟩) m c) m (xs.take (m * size)) :: H) w := by
 obtain ⟨L, h1, h2, h3, h4, hc⟩ := hv.rowCell
 have h9 := hc.cellRow (n := m) (c := c) (size := size) h1 (by omega) h4
 have hle : m * size ≤ n * size := Nat.mul_le_mul_right _ hm
 rw [← h2, List.take_take, Nat.min_eq_left hle]
 exact h9
def ListIn (B : Base) (m : Nat) (xs : List Value) (r : Rp) : Prop :=
 (∃ ls : List Leaf, m = ls.length ∧ xs = lvC ls none ∧ r = rList (ls.map leafR)) ∨
 (∃ (pre l : List Leaf) (x : Leaf) (la : Option Addr) (lc : Nat), m = pre.length + 1 ∧ xs = lvC pre (some (x, .slice la l.length lc)) ∧ SliceOk la l.length lc ∧ RdV B [] la (lvC l none) ∧ l.length ≤ 1000000 ∧ r = rList (pre.map leafR ++ [.mk x.k x.s x.n (l.map leafR)]))
theorem ListIn.len {B : Base} {m : Nat} {xs : List Value} {r : Rp} (h : ListIn B m xs r) : xs.length = m * 4 := by
 rcases h with ⟨ls, rfl, rfl, -⟩ | ⟨pre, l, x, la, lc, rfl, rfl, -⟩
 ·exact lvC_len0 ls
 exact lvC_len1 pre x _
theorem ListIn.one {B : Base} {m : Nat} {xs : List Value} {r : Rp} (h : ListIn B m xs r) : ∀ u ∈ xs, u.oneCell' = true := by
 rcases h with ⟨ls, rfl, rfl, -⟩ | ⟨pre, l, x, la, lc, rfl, rfl, -⟩
 ·exact lvC_one fun p h => by cases h
 exact lvC_one fun p h => by cases h; rfl
theorem rlist_at {B : Base} {l : List Rp} {v : Value} {xs : List Value} (h1 : RowB B v l.length xs) (h2 : RpsAt B l xs) : RpAt B (rList l) (rpCells 5 [] 0 v) := rpAt_of h1 h2
end Go.Pm
namespace Go.Proofs.YtffnhfkkochnhaaGreatDoor
open Go.RowKit Go.Pm
theorem h7mk3 : (Tryz.prog.info? 3).map (fun i => (i.zero, i.size, i.bytes)) = some (some (vI 0), 1, 8) := by kernel_rfl
theorem h7el148 : Elem Tryz.prog 148 3 (vI 0) 1 8 := elem_of Tryz.underlying148 h7mk3 (by rfl) (by decide)
theorem h7callable88 : Callable Tryz.prog 88 := cb Tryz.func88 (by kernel_rfl)
theorem strIncr (B : Base) (H : List Res) (w : World) (s : List UInt8) (by_ : Int) (hby : -9223372036854775808 ≤ by_ ∧ by_ ≤ 9223372036854775807) (hN : NumB B) (hv : Inv B H w) :
  Calls Tryz.prog 72 #[vS s, vI by_] w fun e w' => ∃ sum ec, e = .returned (.tuple #[vI sum, vI ec]) ∧ IncrI s by_ sum ec ∧ Inv B H w' := by
 refine cW Tryz.func72 rfl Tryz.ntmps72 ?_
 simp only [al]
 refine sK fun _ k1 => rL (uA rfl ?_)
 refine uA rfl (uW k1 ?_)
 refine sK fun _ k2 => rL (uA rfl ?_)
 refine uW k2 (sK fun _ k3 => ?_)
 refine sK fun _ k4 => rL (uM rfl ?_)
 by_cases hb5 : s ≠ ([] : List UInt8)
 ·refine uG (.bool true) rfl (ex_sneq rfl rfl rfl (qT hb5)) (uW k4 ?_)
  refine cT rfl (sK fun _ k6 => ?_)
  refine rL (uM rfl ?_)
  refine xC itcallable87 rfl ((numParseAny B _ (hN B _ (Base.Le.refl _)).1 (hN B _ (Base.Le.refl _)).2 _ s hv).mono ?_) rfl
  rintro e w7 ⟨n, b, rfl, hnp, hv⟩
  refine ⟨_, rfl, ?_⟩
  cases b
  ·refine uM rfl (uE rfl ?_)
   refine uE rfl (uA rfl ?_)
   refine uA rfl (uW k6 ?_)
   refine sK fun _ k8 => sK fun _ k9 => rL (uM rfl ?_)
   refine uG (.bool true) rfl (ex_not rfl rfl rfl) (uW k9 ?_)
   refine cT rfl (sK fun _ k10 => ?_)
   refine rL (uA rfl ?_)
   refine uA rfl (uW k10 ?_)
   refine rR (tR ?_)
   refine tR (bodyPost_ret (results_tmp2 rfl _ _ _) rfl ?_)
   obtain rfl : n = 0 := hnp.elim (fun h9 => absurd h9.1 (by decide)) (fun h9 => h9.2.1)
   exact ⟨0, 10, rfl, .inl ⟨by decide, .inl ⟨hb5, hnp⟩⟩, hv⟩
  have hnf : -9223372036854775808 ≤ n ∧ n ≤ 9223372036854775807 := hnp.elim (fun h9 => ⟨h9.2.1, h9.2.2.1⟩) (fun h9 => absurd h9.1 (by decide))
  refine uM rfl (uE rfl ?_)
  refine uE rfl (uA rfl ?_)
  refine uA rfl (uW k6 ?_)
  refine sK fun _ k11 => sK fun _ k12 => rL (uM rfl ?_)
  refine uG (.bool false) rfl (ex_not rfl rfl rfl) (uW k12 ?_)
  refine cF rfl (kS ?_)
  refine tK k11 (rL ?_)
  refine uM rfl (uA rfl ?_)
  refine uW k3 (sK fun _ k13 => ?_)
  refine rL (uM rfl ?_)
  refine uM rfl ?_
  refine sl_rowOne (v := vI by_) tV (wn rfl) rfl rfl hv h7el148 rfl (fun b14 w15 hv => ?_)
  simp only [zP, po]
  obtain ⟨P, hP, hv, hrp, -, -⟩ := (hv.cellRow (n := 1) (c := 1) (size := 1) rfl (by decide) (by decide)).rowBy
  refine xC h7callable88 rfl ((numAdd P _ _ n (by omega) _ 1 [by_] hrp (Nat.le_of_ble_eq_true rfl) (fun b hb => by rw [List.mem_singleton.1 hb]; exact hby) hv).mono ?_) rfl
  rintro e w16 ⟨sm, sok, rfl, hadd, hv⟩
  refine ⟨_, rfl, ?_⟩
  cases sok
  ·refine uM rfl (uE rfl ?_)
   refine uE rfl (uA rfl ?_)
   refine uA rfl (uW k13 ?_)
   refine sK fun _ k17 => sK fun _ k18 => rL (uM rfl ?_)
   refine uG (.bool true) rfl (ex_not rfl rfl rfl) (uW k18 ?_)
   refine cT rfl (sK fun _ k19 => ?_)
   refine rL (uA rfl ?_)
   refine uA rfl (uW k19 ?_)
   refine rR (tR ?_)
   refine bodyPost_ret (results_tmp2 rfl _ _ _) rfl ?_
   have h9 : ¬ fitsI (n + by_) := fun h8 => by
    rcases hadd with ⟨h7, -⟩ | ⟨-, h7⟩
    ·cases h7
    rw [addF_one, if_pos h8] at h7; cases h7
   exact ⟨0, 13, rfl, .inl ⟨by decide, .inr ⟨n, .inr hnp, h9⟩⟩, (hv).weak hP⟩
  refine uM rfl (uE rfl ?_)
  refine uE rfl (uA rfl ?_)
  refine uA rfl (uW k13 ?_)
  refine sK fun _ k20 => sK fun _ k21 => rL (uM rfl ?_)
  refine uG (.bool false) rfl (ex_not rfl rfl rfl) (uW k21 ?_)
  refine cF rfl (kS ?_)
  refine tK k20 (sK fun _ k22 => ?_)
  refine rL (uM rfl ?_)
  refine uA rfl (uA rfl ?_)
  refine uW k22 (rR ?_)
  refine bodyPost_ret (results_tmp2 rfl _ _ _) rfl ?_
  obtain ⟨h9, h8⟩ : fitsI sm ∧ sm = n + by_ := by
   rcases hadd with ⟨-, h7, h6⟩ | ⟨h7, -⟩
   ·rw [addF_one] at h6
    split at h6
    ·cases h6; exact ⟨h7, rfl⟩
    cases h6
   cases h7
  exact ⟨sm, 0, rfl, .inr ⟨rfl, h9, n, .inr hnp, h8⟩, (hv).weak hP⟩
 refine uG (.bool false) rfl (ex_sneq rfl rfl rfl (qF hb5)) (uW k4 ?_)
 refine cF rfl (kS ?_)
 refine tK k3 (sK fun _ k23 => ?_)
 refine rL (uM rfl ?_)
 refine uM rfl ?_
 refine sl_rowOne (v := vI by_) tV (wn rfl) rfl rfl hv h7el148 rfl (fun b24 w25 hv => ?_)
 simp only [zP, po]
 obtain ⟨P, hP, hv, hrp, -, -⟩ := (hv.cellRow (n := 1) (c := 1) (size := 1) rfl (by decide) (by decide)).rowBy
 refine xC h7callable88 rfl ((numAdd P _ _ 0 (by omega) _ 1 [by_] hrp (Nat.le_of_ble_eq_true rfl) (fun b hb => by rw [List.mem_singleton.1 hb]; exact hby) hv).mono ?_) rfl
 rintro e w26 ⟨sm, sok, rfl, hadd, hv⟩
 refine ⟨_, rfl, ?_⟩
 cases sok
 ·refine uM rfl (uE rfl ?_)
  refine uE rfl (uA rfl ?_)
  refine uA rfl (uW k23 ?_)
  refine sK fun _ k27 => sK fun _ k28 => rL (uM rfl ?_)
  refine uG (.bool true) rfl (ex_not rfl rfl rfl) (uW k28 ?_)
  refine cT rfl (sK fun _ k29 => ?_)
  refine rL (uA rfl ?_)
  refine uA rfl (uW k29 ?_)
  refine rR (tR ?_)
  refine bodyPost_ret (results_tmp2 rfl _ _ _) rfl ?_
  have h9 : ¬ fitsI (0 + by_) := fun h8 => by
   rcases hadd with ⟨h7, -⟩ | ⟨-, h7⟩
   ·cases h7
   rw [addF_one, if_pos h8] at h7; cases h7
  exact ⟨0, 13, rfl, .inl ⟨by decide, .inr ⟨0, .inl ⟨Classical.not_not.1 hb5, rfl⟩, h9⟩⟩, (hv).weak hP⟩
 refine uM rfl (uE rfl ?_)
 refine uE rfl (uA rfl ?_)
 refine uA rfl (uW k23 ?_)
 refine sK fun _ k30 => sK fun _ k31 => rL (uM rfl ?_)
 refine uG (.bool false) rfl (ex_not rfl rfl rfl) (uW k31 ?_)
 refine cF rfl (kS ?_)
 refine tK k30 (sK fun _ k32 => ?_)
 refine rL (uM rfl ?_)
 refine uA rfl (uA rfl ?_)
 refine uW k32 (rR ?_)
 refine bodyPost_ret (results_tmp2 rfl _ _ _) rfl ?_
 obtain ⟨h9, h8⟩ : fitsI sm ∧ sm = 0 + by_ := by
  rcases hadd with ⟨-, h7, h6⟩ | ⟨h7, -⟩
  ·rw [addF_one] at h6
   split at h6
   ·cases h6; exact ⟨h7, rfl⟩
   cases h6
  cases h7
 exact ⟨sm, 0, rfl, .inr ⟨rfl, h9, 0, .inl ⟨Classical.not_not.1 hb5, rfl⟩, h8⟩, (hv).weak hP⟩
theorem h7al28 : AL Tryz.prog 28 [vI 0, vS [], vI 0, vN] := fun w => by kernel_rfl
theorem h7callable43 : Callable Tryz.prog 43 := cb Tryz.func43 (by kernel_rfl)
theorem h7callable76 : Callable Tryz.prog 76 := cb Tryz.func76 (by kernel_rfl)
theorem h7callable69 : Callable Tryz.prog 69 := cb Tryz.func69 (by kernel_rfl)
theorem chashText (B : Base) (H : List Res) (w : World) (ad : Option Addr) (c : Nat) (h : List Pr) (hr : RdV B [] ad (pairCells h)) (hm : h.length ≤ 1000000) (hs : SortedH h) (f : List UInt8) (hv : Inv B H w) :
  Calls Tryz.prog 48 #[.slice ad h.length c, vS f] w fun e w' => ∃ x : Leaf, e = .returned (.agg (leafN x).toArray) ∧ Inv B H w' := by
 refine cW Tryz.func48 rfl Tryz.ntmps48 ?_
 simp only [al]
 refine sK fun _ k1 => rL (sl_alloc tV (wn rfl) rfl hv h7al28 (fun b2 w3 hv => ?_))
 refine uW k1 (sK fun _ k4 => ?_)
 refine rL (uM rfl ?_)
 refine uM rfl ?_
 refine xC h7callable43 rfl ((hashGet B _ _ ad c h f [] (fun r9 h9 => absurd h9 List.not_mem_nil) (hr.rdW []) hs hm hv).mono ?_) rfl
 rintro e w5 ⟨rfl, hv⟩
 refine ⟨_, rfl, uM rfl ?_⟩
 refine uE rfl (uE rfl ?_)
 refine uA rfl (uA rfl ?_)
 refine uW k4 (sK fun _ k6 => ?_)
 refine sK fun _ k7 => rL (uM rfl ?_)
 refine uG (.bool (!((getH h f).isSome))) rfl (ex_not rfl rfl rfl) (uW k7 ?_)
 refine wpIn_cond_split (t := !((getH h f).isSome)) rfl (fun hc8 => ?_) (fun hc8 => ?_)
 ·refine sK fun _ k9 => rL (xC h7callable76 rfl ((respNone B _ _ hv).mono ?_) rfl)
  rintro e w10 ⟨rfl, hv⟩
  refine ⟨_, rfl, ?_⟩
  refine xS 0 rfl hv rssz28 rfl (by exact ⟨rfl, rfl, rfl, rfl, trivial⟩) (fun w11 hv => ?_)
  simp only [zO, sp] at hv
  refine uW k9 (rR ?_)
  refine tR (bC 0 rswd28 hv rfl rfl rfl rfl ?_)
  exact ⟨⟨4, ([] : List UInt8), 0⟩, rfl, (hv.kp [] 0 1)⟩
 refine kS (tK k6 ?_)
 refine sK fun _ k12 => rL (uM rfl ?_)
 refine xC h7callable69 rfl ((respStr B _ _ ((getH h f).getD []) hv).mono ?_) rfl
 rintro e w13 ⟨rfl, hv⟩
 refine ⟨_, rfl, ?_⟩
 refine xS 0 rfl hv rssz28 rfl (by exact ⟨rfl, rfl, rfl, rfl, trivial⟩) (fun w14 hv => ?_)
 simp only [zO, sp] at hv
 refine uW k12 (rR ?_)
 refine bC 0 rswd28 hv rfl rfl rfl rfl (⟨⟨3, (getH h f).getD [], 0⟩, rfl, (hv.kp [] 0 1)⟩)
theorem h7mk9 : (Tryz.prog.info? 9).map (fun i => (i.zero, i.size, i.bytes)) = some (some (vS []), 1, 16) := by kernel_rfl
theorem h7el22 : Elem Tryz.prog 22 9 (vS []) 1 16 := elem_of Tryz.underlying22 h7mk9 (by rfl) (by decide)
theorem h7al121 : AL Tryz.prog 121 [vS [], vS []] := fun w => by kernel_rfl
theorem chashFlat (B : Base) (H : List Res) (w : World) (ad : Option Addr) (c : Nat) (h : List Pr) (hr : RdV B [] ad (pairCells h)) (hm : h.length ≤ 1000000) (hv : Inv B H w) :
  Calls Tryz.prog 51 #[.slice ad h.length c] w fun e w' => ∃ C oa oc out, B.Le C ∧ e = .returned (.slice oa out.length oc) ∧ SliceOk oa out.length oc ∧ RdV C [] oa (textCells out) ∧ out = flatH h ∧ Inv C H w' := by
 refine cW Tryz.func51 rfl Tryz.ntmps51 ?_
 simp only [al]
 refine sK fun _ k1 => rL (uA rfl ?_)
 refine uW k1 (sK fun _ k2 => ?_)
 refine rL (uM rfl ?_)
 refine uG (vI (h.length : Int)) rfl (ex_len0 Tryz.underlying76 rfl rfl) ?_
 refine uG (vI ((2 * h.length : Nat) : Int)) rfl (ex_mul rfl rfl rfl (by rw [i64_in (by omega)]; omega)) ?_
 refine sl_makeRow (cap := (2 * h.length : Nat)) tV (wn rfl) rfl rfl rfl h7el22 (by unfold maxLen; omega) (by omega) hv (fun b3 w4 hv => ?_)
 refine uA rfl (uW k2 ?_)
 refine sK fun _ k5 => sK fun _ k6 => rL (uM rfl ?_)
 refine uG (vI (h.length : Int)) rfl (ex_len0 Tryz.underlying76 rfl rfl) (uM rfl ?_)
 refine uW k6 (bB ?_)
 gi_loopw [3, 12] (fun x3 x12 wr => ∃ (k : Nat) (out : List (List UInt8)) (ra : Option Addr) (rc : Nat), x3 = .slice ra out.length rc ∧ x12 = vI k ∧ k ≤ h.length ∧ out = flatH (h.take k) ∧ Inv B (Res.row 9 1 (.slice ra out.length rc) out.length (textCells out) :: H) wr) (fun x3 x12 _ => h.length - (intOf x12).toNat)
 case atStart => exact ⟨0, [], _, _, rfl, rfl, Nat.zero_le _, rfl, hv⟩
 case round =>
  obtain ⟨k, out, ra, rc, rfl, rfl, hk, hout, hv⟩ := hrel
  have hol : out.length ≤ 2 * h.length := by rw [hout, flatH_len, List.length_take]; omega
  refine sK fun _ k8 => rL ?_
  by_cases hb9 : (k : Int) < (h.length : Int)
  ·refine uG (.bool true) rfl (ex_lss rfl rfl rfl (qT hb9)) (uW k8 ?_)
   refine sK fun _ k10 => cT rfl (kS ?_)
   refine tK k10 (sK fun _ k11 => ?_)
   refine bB (sK fun _ k12 => ?_)
   obtain ⟨p, hp⟩ : ∃ x, h[k]? = some x := ⟨_, List.getElem?_eq_getElem (show k < h.length by omega)⟩
   obtain ⟨bb, bo, had, hrdp⟩ := pair_reads hr hp
   subst had
   refine rL (uG (.pointer (some ⟨bb, bo + k * 2, none⟩)) rfl (ex_index rfl rfl rfl (run_idx (k := k) Tryz.underlying76 h1es76 (by omega))) ?_)
   refine uL (.agg #[vS p.1, vS p.2]) rfl (run_loadR (cs := [vS p.1, vS p.2]) s10wd121 (Reads.mid (pre := []) (mid := [vS p.1, vS p.2]) (post := []) hrdp _ _ _ (Base.Le.refl _) no_res hv)) ?_
   refine sl_alloc tV (wn rfl) rfl hv h7al121 (fun b13 w14 hv => ?_)
   simp only [zP, po]
   refine xS 0 rfl hv s10sz121 rfl (by exact ⟨rfl, rfl, trivial⟩) (fun w15 hv => ?_)
   simp only [zO, sp] at hv
   refine uW k12 (rL ?_)
   refine uM rfl ?_
   refine uF (vP b13) rfl (h1fa121_0 _ _ _) ?_
   refine uL _ rfl (run_load1 h1na9 (hv.load 0 0 rfl rfl)) ?_
   refine uF (.pointer (some ⟨b13, 1, none⟩)) rfl (h1fa121_1 _ _ _) ?_
   refine uL _ rfl (run_load1 h1na9 (hv.load 0 1 rfl rfl)) ?_
   refine sl_rowN (pv := #[(0, vS p.1), (1, vS p.2)]) (L := [vS p.1, vS p.2]) (e := 9) tV (wn rfl) rfl (by simp only [List.map_toArray, List.map_cons, List.map_nil]; rfl) hv (fun w => by kernel_rfl) (fun b16 w17 hv => ?_)
   simp only [zP, po]
   replace hv := hv.front 2 rfl
   simp only [eS, eZ] at hv
   refine sl_append (news := [vS p.1, vS p.2]) tV (wn rfl) rfl rfl rfl h7el22 hv (ok_full (by omega)) rfl (rd_all (hv.get 1 rfl)) (by intro u hu; simp only [List.mem_cons, List.not_mem_nil, or_false] at hu; rcases hu with rfl | rfl <;> rfl) (by unfold maxLen; omega) (by omega) (fun rv18 w21 hv => ?_)
   obtain ⟨ra19, rc20, rfl⟩ := row_slice hv.head
   refine uA rfl (uZ ?_)
   refine bN (tK k11 ?_)
   refine rL (uG (vI ((k + 1 : Nat) : Int)) rfl (ex_add rfl rfl rfl (by rw [i64_in (by omega)]; omega)) ?_)
   refine uM rfl (uZ ?_)
   refine then_normal ?_
   go_roundw
   case rel => exact ⟨k + 1, out ++ [p.1, p.2], _, _, by rw [List.length_append]; rfl, rfl, by omega, by rw [hout, flatH_next hp], by rw [List.length_append, show textCells (out ++ [p.1, p.2]) = textCells out ++ [strV p.1, strV p.2] by simp [textCells]]; exact (hv.kp [] 1 2)⟩
   case measure => show h.length - (((k + 1 : Nat) : Int)).toNat < h.length - ((k : Int)).toNat; omega
  refine uG (.bool false) rfl (ex_lss rfl rfl rfl (qF hb9)) (uW k8 ?_)
  refine sK fun _ k22 => cF rfl (xE ?_)
  refine tX (tX ?_)
  refine bH (tK k5 ?_)
  refine sK fun _ k23 => rL (uM rfl ?_)
  refine uA rfl (uW k23 ?_)
  refine rR (bR rfl rfl ?_)
  obtain rfl : k = h.length := by omega
  rw [List.take_length] at hout
  obtain ⟨D, hD, hv, hro, hoko, -⟩ := (hv).rowBy
  exact ⟨D, ra, rc, out, hD, rfl, hoko, hro, hout, hv⟩
theorem rtal28 : AL Tryz.prog 28 [vI 0, vS [], vI 0, vN] := fun w => by kernel_rfl
theorem rtfa28_3 : FA Tryz.prog 28 3 3 := fun w b o => by kernel_rfl
theorem rtna26 (w : World) : (isAgg 26).run Tryz.prog w = .ok false w := by kernel_rfl
theorem rtcallable69 : Callable Tryz.prog 69 := cb Tryz.func69 (by kernel_rfl)
theorem rtmk28 : (Tryz.prog.info? 28).map (fun i => (i.zero, i.size, i.bytes)) = some (some (.agg #[vI 0, vS [], vI 0, vN]), 4, 56) := by kernel_rfl
theorem rtel26 : Elem Tryz.prog 26 28 (.agg #[vI 0, vS [], vI 0, vN]) 4 56 := elem_of Tryz.underlying26 rtmk28 (by rfl) (by decide)
theorem rtsz26 : (Tryz.prog.info? 26).map (·.size) = some 1 := by kernel_rfl
theorem respStrsR (B : Base) (H : List Res) (w : World) (sa : Option Addr) (sc : Nat) (ss : List (List UInt8)) (hr : RdV B [] sa (textCells ss)) (hm : ss.length ≤ 1000000) (hv : Inv B H w) :
  Calls Tryz.prog 50 #[.slice sa ss.length sc] w fun e w' => ∃ C da dc, B.Le C ∧ e = .returned (.agg #[vI 5, vS (([] : List UInt8)), vI 0, .slice da ss.length dc]) ∧ SliceOk da ss.length dc ∧ RdV C [] da (strsCells ss) ∧ Inv C H w' := by
 refine cW Tryz.func50 rfl Tryz.ntmps50 ?_
 simp only [al]
 refine sK fun _ k1 => rL (sl_alloc tV (wn rfl) rfl hv rtal28 (fun b2 w3 hv => ?_))
 refine uW k1 (sK fun _ k4 => ?_)
 refine rL (uG (.agg #[vI 5, vS [], vI 0, vN]) rfl (ex_buildN (vs := #[(0, vI 5)]) rfl (by simp only [List.map_toArray, List.map_cons, List.map_nil]; rfl) (by kernel_rfl)) ?_)
 refine sl_alloc tV (wn rfl) rfl hv rtal28 (fun b5 w6 hv => ?_)
 refine xS 0 rfl hv rssz28 rfl (by exact ⟨rfl, rfl, rfl, rfl, trivial⟩) (fun w7 hv => ?_)
 simp only [zO, sp] at hv
 refine uW k4 (sK fun _ k8 => ?_)
 refine sK fun _ k9 => rL (uM rfl ?_)
 refine uG (vI (ss.length : Int)) rfl (ex_len0 Tryz.underlying22 rfl rfl) (uM rfl ?_)
 refine uW k9 (bB ?_)
 gi_loopw [9] (fun x9 wr => ∃ (i : Nat) (ra : Option Addr) (rc : Nat), x9 = vI i ∧ i ≤ ss.length ∧ Inv B (Res.row 28 4 (.slice ra i rc) i (strsCells (ss.take i)) :: Res.cell b5 [vI 5, vS [], vI 0, .slice ra i rc] 28 :: Res.cell b2 [vI 0, vS [], vI 0, vN] 28 :: H) wr) (fun x9 _ => ss.length - (intOf x9).toNat)
 case atStart => exact ⟨0, none, 0, rfl, Nat.zero_le _, (((hv.front 1 rfl).front 1 rfl)).rowNil 28 4⟩
 case round =>
  obtain ⟨i, ra, rc, rfl, hi, hv⟩ := hrel
  refine sK fun _ k11 => rL ?_
  by_cases hb12 : (i : Int) < (ss.length : Int)
  ·refine uG (.bool true) rfl (ex_lss rfl rfl rfl (qT hb12)) (uW k11 ?_)
   refine sK fun _ k13 => cT rfl (kS ?_)
   refine tK k13 (sK fun _ k14 => ?_)
   refine bB (sK fun _ k15 => ?_)
   obtain ⟨x, hx⟩ : ∃ x, ss[i]? = some x := ⟨_, List.getElem?_eq_getElem (show i < ss.length by omega)⟩
   obtain ⟨bb, bo, had, hrdx⟩ := text_reads hr hx
   subst had
   refine rL (uG (.pointer (some ⟨bb, bo + i, none⟩)) rfl (ex_index rfl rfl rfl (run_idx1 (k := i) Tryz.underlying22 ites22 (by omega))) ?_)
   refine uL _ rfl (run_load1 itna9 (hrdx _ _ _ (Base.Le.refl _) no_res hv 0 _ rfl)) (uA rfl ?_)
   refine uW k15 (rW mixed [3, 4, 5, 7] [0,1,2,3,4,5,6,7] 22 rfl (by kernel_rfl) hv ?_)
   simp only [qm, opAt]
   refine dG (.pointer (some ⟨b5, 3, none⟩)) rfl (ex_field rfl rfl (rtfa28_3 _ _ _)) (dF _ rfl (fun hv => ex_load rfl rfl (run_load1 rtna26 (hv.load 1 3 rfl rfl))) fun f16 hf16 => ?_)
   refine dM (vS x) rfl ?_
   simp only [zP, po]
   refine dS rfl fun w17 hv => mC rtcallable69 rfl ((respStr B _ _ x hv).mono ?_) rfl
   rintro e w18 ⟨rfl, hv⟩
   refine ⟨_, rfl, dV hv (fC (fun ww hv => hf16 ww (ex_load rfl rfl (run_load1 rtna26 (hv.load 1 3 rfl rfl)))) fN) ?_⟩
   refine dS rfl fun w19 hv => mem_rowAgg (L := [vI 3, vS x, vI 0, vN]) rfl rfl rfl hv rtel26 rfl (by decide) (fun b20 w21 hv => ?_)
   refine dV hv (fC (fun ww hv => hf16 ww (ex_load rfl rfl (run_load1 rtna26 (hv.load 2 3 rfl rfl)))) fN) (dS rfl fun w22 hv => ?_)
   replace hv := hv.front 1 rfl
   simp only [eS, eZ] at hv
   refine mem_append (news := [vI 3, vS x, vI 0, vN]) rfl rfl rfl rfl rtel26 hv (ok_full (by omega)) rfl (rd_all (hv.get 1 rfl)) (by intro u hu; simp only [List.mem_cons, List.not_mem_nil, or_false] at hu; rcases hu with rfl | rfl | rfl | rfl <;> rfl) (by unfold maxLen; omega) (by omega) (fun rv23 w26 hv => ?_)
   obtain ⟨ra24, rc25, rfl⟩ := row_slice hv.head
   refine dV hv (fK rfl fN) ?_
   simp only [zP, po]
   refine dG (.pointer (some ⟨b5, 3, none⟩)) rfl (ex_field rfl rfl (rtfa28_3 _ _ _)) (dS rfl fun w27 hv => ?_)
   refine mV 2 (.slice ra24 (i + 1) rc25) rfl hv rtsz26 rfl rfl (fun w28 hv => ?_)
   simp only [zS, zO, sp] at hv
   refine dV hv (fK rfl fN) (dE fun w29 hv => ?_)
   simp only [zP, po]
   refine bN (tK k14 ?_)
   refine rL (uG (vI ((i + 1 : Nat) : Int)) rfl (ex_add rfl rfl rfl (by rw [i64_in (by omega)]; omega)) ?_)
   refine uM rfl (uZ ?_)
   refine then_normal ?_
   go_roundw
   case rel => exact ⟨i + 1, _, _, rfl, by omega, by rw [strsCells_next hx]; exact (hv.kp [3, 3, 2] 3 1)⟩
   case measure => show ss.length - (((i + 1 : Nat) : Int)).toNat < ss.length - ((i : Int)).toNat; omega
  refine uG (.bool false) rfl (ex_lss rfl rfl rfl (qF hb12)) (uW k11 ?_)
  refine sK fun _ k30 => cF rfl (xE ?_)
  refine tX (tX ?_)
  refine bH (tK k8 ?_)
  refine sK fun _ k31 => rL (uL (.agg #[vI 5, vS [], vI 0, .slice ra i rc]) rfl (lM 1 rswd28 hv rfl rfl rfl rfl) ?_)
  refine xS 2 rfl hv rssz28 rfl (by exact ⟨rfl, rfl, rfl, rfl, trivial⟩) (fun w32 hv => ?_)
  simp only [zS, zO, sp] at hv
  refine uW k31 (rR ?_)
  refine bC 2 rswd28 hv rfl rfl rfl rfl ?_
  obtain rfl : i = ss.length := by omega
  obtain ⟨C, hC, hv, hro, hoko, -⟩ := ((hv.sub (sC _ (sD _ (sD _ (sR _)))))).rowBy
  rw [List.take_length] at hro
  exact ⟨C, ra, rc, hC, rfl, hoko, hro, hv⟩
theorem rpAt_strs {C : Base} {l : List (List UInt8)} {a : Option Addr} {c : Nat} (hok : SliceOk a l.length c) (hr : RdV C [] a (strsCells l)) : RpAt C (rStrs l) (rpCells 5 [] 0 (.slice a l.length c)) :=
 rpAt_of (l := l.map rStr) ⟨a, c, by rw [List.length_map], by rw [List.length_map]; exact hok, hr⟩ (strsCells_at l)
end Go.Proofs.YtffnhfkkochnhaaGreatDoor
namespace Go.Pm
open Go.RowKit
def DW2 (P : Program) (ops : Array Oper) (mem : List Nat) (R : Act → World → Prop) (l1 l2 : List (Nat × Oper)) : List (Nat × Oper) → List (Nat × (World → Prop)) → (World → Prop) → Act → Prop
 | [], Fl, J, a => DW P ops mem R l1 Fl J a ∧ DW P ops mem R l2 Fl J a
 | x :: is, Fl, J, a =>
  (Region.wanted x.2 (yielded ops a.tmps) = false ∧ DW2 P ops mem R l1 l2 is Fl J (a.put x.2.dst undef)) ∨ (Region.wanted x.2 (yielded ops a.tmps) = true ∧
  ∃ v, ((∀ w, Adds P x.2 a w v) ∧ DW2 P ops mem R l1 l2 is Fl J (a.put x.2.dst v)) ∨ ∃ f : World → Prop, (∀ w, f w → Adds P x.2 a w v) ∧ (∀ w, J w → f w) ∧ DW2 P ops mem R l1 l2 is ((x.1, f) :: Fl) J (a.put x.2.dst v))
structure Rd (ops : Array Oper) (listed : Array Bool) (i : Nat) (o : Oper) : Prop where
 ho : ops[i]? = some o
 lt : i < ops.size
 lf : listed.getD i false = false
 prT : ∀ j, ahead ops j i = true → listed.getD j false = true
 not_ : ∀ q, ahead ops i q = true → listed.getD q false = false
 ct : toCome ops (listed.setIfInBounds i true) < toCome ops listed
 ls : ∀ q, (listed.setIfInBounds i true).getD q false = true ↔ q = i ∨ listed.getD q false = true
 closed : ∀ (j : Nat) (oj : Oper), ops[j]? = some oj → (listed.setIfInBounds i true).getD j false = true → ∀ k, binder oj k = true → (listed.setIfInBounds i true).getD k false = true
theorem rd_of {ops : Array Oper} {listed : Array Bool} {i : Nat} (hs : listed.size = ops.size) (hcl : ∀ (j : Nat) (o : Oper), ops[j]? = some o → listed.getD j false = true → ∀ k, binder o k = true → listed.getD k false = true) (hi : i ∈ Region.ready .any ops listed) : ∃ o, Rd ops listed i o := by
 obtain ⟨o, ho, hi2, hl, hpr⟩ := mem_ready hi
 have hlf : listed.getD i false = false := by
  simp only [Array.getD_eq_getD_getElem?] at hl ⊢
  rw [Array.getElem?_eq_getElem (by rw [hs]; exact hi2)] at hl ⊢
  simpa using hl
 have hls : ∀ q, (listed.setIfInBounds i true).getD q false = true ↔ q = i ∨ listed.getD q false = true := by
  intro q
  constructor
  ·exact getD_false_set
  rintro (rfl | h)
  ·simp only [Array.getD_eq_getD_getElem?]
   rw [Array.getElem?_setIfInBounds_self_of_lt (by rw [hs]; exact hi2)]
   rfl
  exact getD_set_true h
 refine ⟨o, ho, hi2, hlf, fun j hj => ?_, fun q hq => ?_, by have := toCome_set hi2 hl; omega, hls, fun j oj hj hlj k hk => ?_⟩
 ·cases ahead_reach hj with
  | one h hb => rw [ho] at h; cases h; exact hpr _ hb
  | step h hb hr => rw [ho] at h; cases h; exact hr.listed hcl (hpr _ hb)
 ·cases hlq : listed.getD q false with
  | false => rfl
  | true => rw [(ahead_reach hq).listed hcl hlq] at hlf; cases hlf
 rcases (hls j).1 hlj with e | e
 ·subst e; rw [ho] at hj; cases hj
  exact (hls k).2 (.inr (hpr k hk))
 exact (hls k).2 (.inr (hcl j oj hj e k hk))
section
variable {P : Program} {ops : Array Oper} {mem perm pre is : List Nat} {R : Act → World → Prop} {Q : Exit → Act → World → Prop} {a0 a aS : Act} {listed : Array Bool} {w w' : World} {val : Nat → Value} {Fl : List (Nat × (World → Prop))} {J : World → Prop} {i : Nat} {o : Oper} {K : Act → World → Prop}
theorem Rd.lf2 (r : Rd ops listed i o) (q : Nat) (hq : (listed.setIfInBounds i true).getD q false = false) : q ≠ i ∧ listed.getD q false = false := by
 refine ⟨fun e => ?_, ?_⟩
 ·rw [(r.ls q).2 (.inl e)] at hq; cases hq
 cases h : listed.getD q false with
 | false => rfl
 | true => rw [(r.ls q).2 (.inr h)] at hq; cases hq
theorem DI.agr (hsel : ∀ (j : Nat) (o : Oper), ops[j]? = some o → notSel o = true) (hlook : ∀ (i : Nat) (o : Oper), ops[i]? = some o → ∀ t ∈ o.looksAt ops, ∀ (q : Nat) (o' : Oper), ops[q]? = some o' → o'.dst = some t → q = i ∨ ahead ops q i = true ∨ ahead ops i q = true)
  (I : DI P ops mem R a0 perm listed a w pre is val Fl J aS) (r : Rd ops listed i o) (ai : Act) (L : Nat → Prop) (hT : Tk ops L val a0 ai) (h1 : ∀ q, ahead ops q i = true → L q) (h2 : ∀ q, L q → q ≠ i ∧ ahead ops i q = false) :
  execOp ai.eval o = execOp a.eval o ∧ Region.wanted o (yielded ops ai.tmps) = Region.wanted o (yielded ops a.tmps) := by
 refine same_of (by rw [hT.size, I.tk.size]) (hsel i o r.ho) fun t ht => hT.agree I.tk t fun q o' hq hd => ?_
 rcases hlook i o r.ho t ht q o' hq hd with h | h | h
 ·subst h
  exact ⟨fun h => ((h2 _ h).1 rfl).elim, fun h => by rw [r.lf] at h; cases h⟩
 ·exact ⟨fun _ => r.prT q h, fun _ => h1 q h⟩
 exact ⟨fun h3 => (by rw [(h2 q h3).2] at h; cases h), fun h3 => by rw [r.not_ q h] at h3; cases h3⟩
theorem DI.fired (hnd : onceDst ops = true) (hfit : ∀ (j : Nat) (o : Oper) (d : Tmp), ops[j]? = some o → o.dst = some d → d < a0.tmps.size) (I : DI P ops mem R a0 perm listed a w pre is val Fl J aS) (r : Rd ops listed i o) (hip : i ∈ pre) (hx : Ext w w') :
  DI P ops mem R a0 perm (listed.setIfInBounds i true) (a.put o.dst (val i)) w' pre is val Fl J aS := by
 refine ⟨by simpa using I.lsize, r.closed, (Tk.put hnd hfit I.tk r.ho (by rw [r.lf]; decide) rfl).iff (fun q => (r.ls q).symm) (fun _ _ => rfl), I.perm, I.tkS, I.dw, I.st, I.st _ _ I.inv hx, fun f hf hq => I.fl f hf (r.lf2 _ hq).2, fun q hq => ?_, fun q hq h => (r.ls q).2 (.inr (I.memd q hq h)), fun q hq h => I.pend q hq (r.lf2 q h).2⟩
 rcases (r.ls q).1 hq with h | h
 ·subst h; exact hip
 exact I.sub q h
theorem DI.fire (hsel : ∀ (j : Nat) (o : Oper), ops[j]? = some o → notSel o = true) (hlook : ∀ (i : Nat) (o : Oper), ops[i]? = some o → ∀ t ∈ o.looksAt ops, ∀ (q : Nat) (o' : Oper), ops[q]? = some o' → o'.dst = some t → q = i ∨ ahead ops q i = true ∨ ahead ops i q = true)
  (I : DI P ops mem R a0 perm listed a w pre is val Fl J aS) (r : Rd ops listed i o) (hip : i ∈ pre) (hK : ∀ w', Ext w w' → K (a.put o.dst (val i)) w') : wpOp P ops Q i K a w := by
 obtain ⟨o', ai, L, h1, h2, h3, h4, h5, h6⟩ := I.pend i hip r.lf
 rw [r.ho] at h1; cases h1
 obtain ⟨he, hw⟩ := I.agr hsel hlook r ai L h2 h3 h4
 unfold wpOp
 rw [r.ho]
 simp only []
 rcases h6 with ⟨h6, h7⟩ | ⟨h6, h7⟩
 ·rw [← hw, h6]
  simp only [Bool.false_eq_true, if_false]
  have := hK w (Ext.rfl' _)
  rw [h7] at this
  exact this
 rw [← hw, h6]
 simp only [if_true]
 have hA : Adds P o ai w (val i) := by
  rcases h7 with h7 | ⟨h7, -⟩ | ⟨f, h7, h8⟩
  ·exact h7 w
  ·exact h7 w I.inv
  exact h8 w (I.fl _ h7 r.lf w I.inv)
 refine .inl (Oper.wp_mono (fun a' w' ⟨v, ha, hv, hx⟩ => ?_) (wp_move he (by rw [h2.size, I.tk.size]) hA))
 rw [ha, hv]
 exact hK w' hx
theorem DI.step (hnd : onceDst ops = true) (hfit : ∀ (j : Nat) (o : Oper) (d : Tmp), ops[j]? = some o → o.dst = some d → d < a0.tmps.size) (hsel : ∀ (j : Nat) (o : Oper), ops[j]? = some o → notSel o = true) (hlook : ∀ (i : Nat) (o : Oper), ops[i]? = some o → ∀ t ∈ o.looksAt ops, ∀ (q : Nat) (o' : Oper), ops[q]? = some o' → o'.dst = some t → q = i ∨ ahead ops q i = true ∨ ahead ops i q = true)
  (hnp : perm.Nodup) (hpo : pwOk ops [] perm = true) (I : DI P ops mem R a0 perm listed a w pre (i :: is) val Fl J aS) (hm : i ∈ mem) (r : Rd ops listed i o)
  (hK : ∀ a' w' val' J' aS', DI P ops mem R a0 perm (listed.setIfInBounds i true) a' w' (pre ++ [i]) is val' Fl J' aS' → K a' w') : wpOp P ops Q i K a w := by
 have hnp2 : (pre ++ i :: is).Nodup := I.perm ▸ hnp
 have hpw2 : pwOk ops [] (pre ++ i :: is) = true := I.perm ▸ hpo
 have hmp2 : i ∉ pre := fun h => by
  rw [List.nodup_append] at hnp2
  exact hnp2.2.2 i h i (by simp) rfl
 have hpb : ∀ q, q ∈ pre → q ≠ i ∧ ahead ops i q = false := by
  intro q hq
  refine ⟨fun e => hmp2 (e ▸ hq), ?_⟩
  obtain ⟨p1, p2, rfl⟩ := List.append_of_mem hq
  rw [List.append_assoc, List.cons_append] at hpw2
  exact (pwOk_at hpw2 i (by simp)).1
 obtain ⟨he, hw⟩ := I.agr hsel hlook r aS (· ∈ pre) I.tkS (fun q hq => I.sub q (r.prT q hq)) hpb
 have hdw := I.dw
 simp only [pm, List.map_cons, DWE] at hdw
 rw [if_pos (by simpa using hm)] at hdw
 have hoo : ops.getD i default = o := by simp [Array.getD_eq_getD_getElem?, r.ho]
 rw [hoo] at hdw
 unfold wpOp
 rw [r.ho]
 simp only []
 suffices nx : ∀ v J' w', (∀ w w', J' w → Ext w w' → J' w') → J' w' → (∀ f ∈ Fl, ahead ops f.1 i = false → ∀ w, listed.getD f.1 false = false → J' w → f.2 w) → DW P ops mem R (pm ops is) Fl J' (aS.put o.dst v) → K (a.put o.dst v) w' by
  rcases hdw with ⟨h1, h2⟩ | ⟨h1, h2⟩
  ·rw [← hw, h1]
   simp only [Bool.false_eq_true, if_false]
   exact nx undef J w I.st I.inv (fun f hf _ w hl hJ => I.fl f hf hl w hJ) h2
  rw [← hw, h1]
  simp only [if_true]
  refine .inl (Oper.wp_mono (fun a' w' ⟨v, ha, J', hst, hJ', hfl, hdw'⟩ => ?_) (wp_move he (by rw [I.tkS.size, I.tk.size]) (h2 w I.inv)))
  rw [ha]
  exact nx v J' w' hst hJ' (fun f hf ha w _ => hfl.at f hf ha w) hdw'
 intro v J' w' hst hJ' hfl hdw'
 have hval : ∀ q, q ∈ pre → val q = if q = i then v else val q := fun q hq => by rw [if_neg (hpb q hq).1]
 refine hK _ _ (fun q => if q = i then v else val q) J' (aS.put o.dst v) ⟨by simpa using I.lsize, r.closed, ?_, by rw [I.perm]; simp, ?_, hdw', hst, hJ', ?_, ?_, ?_, ?_⟩
 ·exact (Tk.put hnd hfit (I.tk.iff (fun _ => Iff.rfl) fun q hq => hval q (I.sub q hq)) r.ho (by rw [r.lf]; decide) (if_pos rfl)).iff (fun q => (r.ls q).symm) (fun _ _ => rfl)
 ·refine (Tk.put hnd hfit (I.tkS.iff (fun _ => Iff.rfl) hval) r.ho hmp2 (if_pos rfl)).iff (fun q => ?_) (fun _ _ => rfl)
  simp [or_comm]
 ·intro f hf hq
  refine fun w => hfl f hf ?_ w (r.lf2 _ hq).2
  cases ha : ahead ops f.1 i with
  | false => rfl
  | true => have h9 := (r.lf2 _ hq).2; rw [r.prT _ ha] at h9; cases h9
 ·intro q hq
  rcases (r.ls q).1 hq with h | h
  ·subst h; simp
  simp [I.sub q h]
 ·intro q hq hqp
  rcases List.mem_append.1 hqp with h | h
  ·exact (r.ls q).2 (.inr (I.memd q hq h))
  exact (r.ls q).2 (.inl (List.mem_singleton.1 h))
 intro q hq hlq
 obtain ⟨hqi, hlq⟩ := r.lf2 q hlq
 have hqp : q ∈ pre := by
  rcases List.mem_append.1 hq with h | h
  ·exact h
  exact (hqi (List.mem_singleton.1 h)).elim
 obtain ⟨o2, ai, L, h1, h2, h3, h4, h5, h6⟩ := I.pend q hqp hlq
 have hqv := hval q hqp
 refine ⟨o2, ai, L, h1, h2.iff (fun _ => Iff.rfl) (fun r hr => hval r (h5 r hr)), h3, h4, fun r hr => by simp [h5 r hr], ?_⟩
 simp only [← hqv]
 rcases h6 with h6 | ⟨h6, h7⟩
 ·exact .inl h6
 refine .inr ⟨h6, ?_⟩
 rcases h7 with h7 | ⟨h7, h8⟩ | ⟨f, h7, h8⟩
 ·exact .inl h7
 ·exfalso
  simp only [pm, List.map_cons, tied] at h8
  rw [show mem.contains i = true by simpa using hm] at h8
  rw [r.prT q h8] at hlq; cases hlq
 exact .inr (.inr ⟨f, h7, h8⟩)
end
structure Pre2 (P : Program) (ops : Array Oper) (a0 : Act) (pre : List Nat) (val : Nat → Value) (Fl : List (Nat × (World → Prop))) (J : World → Prop) (aS : Act) : Prop where
 tkS : Tk ops (· ∈ pre) val a0 aS
 fl : ∀ f ∈ Fl, ∀ w, J w → f.2 w
 pend : ∀ i, i ∈ pre → ∃ (o : Oper) (ai : Act) (L : Nat → Prop), ops[i]? = some o ∧ Tk ops L val a0 ai ∧ (∀ q, ahead ops q i = true → L q) ∧ (∀ q, L q → q ≠ i ∧ ahead ops i q = false) ∧ (∀ q, L q → q ∈ pre) ∧
  ((Region.wanted o (yielded ops ai.tmps) = false ∧ val i = undef) ∨ (Region.wanted o (yielded ops ai.tmps) = true ∧ ((∀ w, Adds P o ai w (val i)) ∨ ∃ f : World → Prop, (i, f) ∈ Fl ∧ ∀ w, f w → Adds P o ai w (val i))))
theorem walk2 {P : Program} {ops : Array Oper} {mem perm r0 : List Nat} {R : Act → World → Prop} {a0 : Act} {J : World → Prop} {l1 l2 : List (Nat × Oper)} (hnd : onceDst ops = true) (hfit : ∀ (j : Nat) (o : Oper) (d : Tmp), ops[j]? = some o → o.dst = some d → d < a0.tmps.size) (hno : ∀ i, ahead ops i i = false)
  (hnp : perm.Nodup) (hlt : ∀ i ∈ perm, i < ops.size) (hpo : pwOk ops [] perm = true) (hpre : ∀ i q, i ∈ perm → ahead ops q i = true → q ∈ perm) :
  ∀ (is pre : List Nat) (val : Nat → Value) (Fl : List (Nat × (World → Prop))) (aS : Act), perm = pre ++ (is ++ r0) → Pre2 P ops a0 pre val Fl J aS → DW2 P ops mem R l1 l2 (pm ops is) Fl J aS →
  ∃ val' Fl' aS', Pre2 P ops a0 (pre ++ is) val' Fl' J aS' ∧ DW P ops mem R l1 Fl' J aS' ∧ DW P ops mem R l2 Fl' J aS' := by
 intro is
 induction is with
 | nil => intro pre val Fl aS hp I h; exact ⟨val, Fl, aS, by rw [List.append_nil]; exact I, h.1, h.2⟩
 | cons i is ih =>
  intro pre val Fl aS hp I hdw
  have hip : i ∈ perm := by rw [hp]; simp
  have hi := hlt i hip
  have hp' : perm = pre ++ i :: (is ++ r0) := hp
  have hnd2 : (pre ++ i :: (is ++ r0)).Nodup := hp' ▸ hnp
  have hpo2 : pwOk ops [] (pre ++ i :: (is ++ r0)) = true := hp' ▸ hpo
  have hipre : i ∉ pre := fun h => by
   rw [List.nodup_append] at hnd2
   exact hnd2.2.2 i h i (by simp) rfl
  have hio : ops[i]? = some (ops.getD i default) := by simp [Array.getD, hi]
  have hpa : ∀ q, ahead ops q i = true → q ∈ pre := by
   intro q hq
   have hqp := hpre i q hip hq
   rw [hp'] at hqp
   rcases List.mem_append.1 hqp with h | h
   ·exact h
   rcases List.mem_cons.1 h with h | h
   ·subst h; rw [hno] at hq; cases hq
   have := (pwOk_at hpo2 q h).1
   rw [this] at hq; cases hq
  have hpb : ∀ q, q ∈ pre → q ≠ i ∧ ahead ops i q = false := by
   intro q hq
   refine ⟨fun e => hipre (e ▸ hq), ?_⟩
   obtain ⟨p1, p2, rfl⟩ := List.append_of_mem hq
   have h2 := hpo2
   rw [List.append_assoc, List.cons_append] at h2
   exact (pwOk_at h2 i (by simp)).1
  have next : ∀ v Fl', (∀ f ∈ Fl, f ∈ Fl') → (∀ f ∈ Fl', f ∈ Fl ∨ ∀ w, J w → f.2 w) → DW2 P ops mem R l1 l2 (pm ops is) Fl' J (aS.put (ops.getD i default).dst v) →
    ((Region.wanted (ops.getD i default) (yielded ops aS.tmps) = false ∧ v = undef) ∨ (Region.wanted (ops.getD i default) (yielded ops aS.tmps) = true ∧
     ((∀ w, Adds P (ops.getD i default) aS w v) ∨ ∃ f : World → Prop, (i, f) ∈ Fl' ∧ ∀ w, f w → Adds P (ops.getD i default) aS w v))) →
    ∃ val' Fl' aS', Pre2 P ops a0 (pre ++ i :: is) val' Fl' J aS' ∧ DW P ops mem R l1 Fl' J aS' ∧ DW P ops mem R l2 Fl' J aS' := by
   intro v Fl' hF1 hF2 hdw hob
   have hval : ∀ q, q ∈ pre → val q = if q = i then v else val q := fun q hq => by rw [if_neg (hpb q hq).1]
   have hg := ih (pre ++ [i]) (fun q => if q = i then v else val q) Fl' _ (by rw [hp]; simp) ⟨?_, ?_, ?_⟩ hdw
   ·rw [List.append_assoc] at hg; exact hg
   ·refine (Tk.put hnd hfit (I.tkS.iff (fun _ => Iff.rfl) hval) hio hipre (if_pos rfl)).iff (fun q => ?_) (fun _ _ => rfl)
    simp [or_comm]
   ·intro f hf
    rcases hF2 f hf with h | h
    ·exact I.fl f h
    exact h
   intro q hq
   rcases List.mem_append.1 hq with h | h
   ·obtain ⟨o, ai, L, h1, h2, h3, h4, h5, h6⟩ := I.pend q h
    have hqv := hval q h
    refine ⟨o, ai, L, h1, h2.iff (fun _ => Iff.rfl) (fun r hr => hval r (h5 r hr)), h3, h4, fun r hr => by simp [h5 r hr], ?_⟩
    simp only [← hqv]
    rcases h6 with h6 | ⟨h6, h7⟩
    ·exact .inl h6
    refine .inr ⟨h6, ?_⟩
    rcases h7 with h7 | ⟨f, h7, h8⟩
    ·exact .inl h7
    exact .inr ⟨f, hF1 _ h7, h8⟩
   have := List.mem_singleton.1 h
   subst this
   refine ⟨_, aS, (· ∈ pre), hio, I.tkS.iff (fun _ => Iff.rfl) hval, hpa, hpb, fun r hr => by simp [hr], ?_⟩
   simpa using hob
  simp only [pm, List.map_cons, DW2] at hdw
  rcases hdw with ⟨h1, h2⟩ | ⟨h1, v, ⟨h2, h3⟩ | ⟨f, h2, h3, h4⟩⟩
  ·exact next undef Fl (fun _ h => h) (fun _ h => .inl h) h2 (.inl ⟨h1, rfl⟩)
  ·exact next v Fl (fun _ h => h) (fun _ h => .inl h) h3 (.inr ⟨h1, .inl h2⟩)
  refine next v ((i, f) :: Fl) (fun _ h => List.mem_cons_of_mem _ h) (fun g hg => ?_) h4 (.inr ⟨h1, .inr ⟨f, by simp, h2⟩⟩)
  rcases List.mem_cons.1 hg with rfl | hg
  ·exact .inr h3
  exact .inl hg
def okT (ops : Array Oper) (mem pre r1 r2 : List Nat) (x y k : Nat) : Bool :=
 backward ops && (onceDst ops && (fitsDst ops k && (ops.all notSel && (lookOk ops && (pre.all (fun i => !mem.contains i) && (mem.contains x && (mem.contains y && (r1.all (fun i => i == y || ahead ops x i) &&
 (pwOk ops mem r1 && (pwOk ops mem r2 && (decide (pre ++ (x :: r1)).Nodup && (decide (pre ++ (y :: r2)).Nodup && (decide ((pre ++ (x :: r1)).length = ops.size) && (decide ((pre ++ (y :: r2)).length = ops.size) &&
 ((pre ++ (x :: r1)).all (· < ops.size) && ((pre ++ (y :: r2)).all (· < ops.size) && (pwOk ops [] (pre ++ (x :: r1)) && pwOk ops [] (pre ++ (y :: r2)))))))))))))))))))
theorem all_in {n : Nat} {perm : List Nat} (hnp : perm.Nodup) (hpl : perm.length = n) (hlt : ∀ i ∈ perm, i < n) (i : Nat) : i ∈ perm ↔ i < n := ⟨hlt i, fun hi => by
 have hsub : perm ⊆ List.range n := fun x hx => List.mem_range.2 (hlt x hx)
 exact Classical.byContradiction fun hni => by
  have h1 : (i :: perm).Nodup := List.nodup_cons.2 ⟨hni, hnp⟩
  have h2 : (i :: perm).length ≤ (List.range n).length := List.Nodup.length_le_of_subset h1 (fun x hx => by
   rcases List.mem_cons.1 hx with rfl | hx
   ·exact List.mem_range.2 hi
   exact hsub hx)
  simp at h2
  omega⟩
section
variable {n : Nat} {P : Program} {ops : Array Oper} {Q : Exit → Act → World → Prop} {a0 : Act} {w0 : World} {B : Base} {H : List Res}
theorem any_t {J : World → Prop} (mem pre r1 r2 : List Nat) (x y k : Nat) (hsize : a0.tmps.size = k) (hck : okT ops mem pre r1 r2 x y k = true) (hst : ∀ w w', J w → Ext w w' → J w') (hv : J w0)
    (h : DW2 P ops mem (Q .normal) (pm ops (x :: r1)) (pm ops (y :: r2)) (pm ops pre) [] J a0) : wpAny P .any ops Q ops.size (Array.replicate ops.size false) a0 { w0 with drawn := w0.drawn + 1 } := by
  unfold okT at hck
  simp only [Bool.and_eq_true] at hck
  obtain ⟨hbk, hnd, hft, hns, hlk, hpm, hx, hy, hxr, hm1, hm2, hn1, hn2, hl1, hl2, ht1, ht2, ho1, ho2⟩ := hck
  have hn1 := of_decide_eq_true hn1
  have hn2 := of_decide_eq_true hn2
  have hl1 := of_decide_eq_true hl1
  have hl2 := of_decide_eq_true hl2
  have hx : x ∈ mem := by simpa using hx
  have hy : y ∈ mem := by simpa using hy
  have hlt1 : ∀ i ∈ pre ++ (x :: r1), i < ops.size := fun i hi => by simpa using List.all_eq_true.1 ht1 i hi
  have hlt2 : ∀ i ∈ pre ++ (y :: r2), i < ops.size := fun i hi => by simpa using List.all_eq_true.1 ht2 i hi
  have ha1 := all_in hn1 hl1 hlt1
  have ha2 := all_in hn2 hl2 hlt2
  have hfit : ∀ (j : Nat) (o : Oper) (d : Tmp), ops[j]? = some o → o.dst = some d → d < a0.tmps.size := by
    intro j o d hj hd
    have := List.all_eq_true.1 hft o (by rw [List.mem_iff_getElem?]; exact ⟨j, by simpa using hj⟩)
    rw [hd] at this
    rw [hsize]
    simpa using this
  have hsel : ∀ (j : Nat) (o : Oper), ops[j]? = some o → notSel o = true := fun j o hj => by
    obtain ⟨hj2, rfl⟩ := Array.getElem?_eq_some_iff.1 hj
    exact (Array.all_eq_true.1 hns) j hj2
  have hlook : ∀ (i : Nat) (o : Oper), ops[i]? = some o → ∀ t ∈ o.looksAt ops, ∀ (q : Nat) (o' : Oper), ops[q]? = some o' → o'.dst = some t → q = i ∨ ahead ops q i = true ∨ ahead ops i q = true := fun i o hi t ht q o' hq hd => by
    have h1 := List.all_eq_true.1 hlk (o, i) (by rw [List.mem_iff_getElem?]; exact ⟨i, by simp [hi]⟩)
    have h2 := List.all_eq_true.1 h1 t ht
    have h3 := List.all_eq_true.1 h2 (o', q) (by rw [List.mem_iff_getElem?]; exact ⟨q, by simp [hq]⟩)
    simpa [hd] using h3
  have hno : ∀ i, ahead ops i i = false := fun i => by
    cases h : ahead ops i i with
    | false => rfl
    | true => have := ahead_lt hbk h; omega
  have hpre1 : ∀ i q, i ∈ pre ++ (x :: r1) → ahead ops q i = true → q ∈ pre ++ (x :: r1) := fun i q hi hq => (ha1 q).2 (Nat.lt_trans (ahead_lt hbk hq) (hlt1 i hi))
  obtain ⟨val, Fl, aS, I0, hd1, hd2⟩ := walk2 (r0 := x :: r1) hnd hfit hno hn1 hlt1 ho1 hpre1 pre [] (fun _ => undef) [] a0 rfl ⟨(Tk.start (val := fun _ => undef)).iff (fun q => by simp) (fun _ _ => rfl), fun f hf => (by cases hf), fun i hi => (by cases hi)⟩ h
  rw [List.nil_append] at I0
  have hxp : x ∉ pre := fun h => by
    rw [List.nodup_append] at hn1
    exact hn1.2.2 x h x (by simp) rfl
  have two : ∀ (fuel : Nat) (listed : Array Bool) (a : Act) (w : World), toCome ops listed ≤ fuel → DI P ops mem (Q .normal) a0 (pre ++ (x :: r1)) listed a w pre (x :: r1) val Fl J aS → DI P ops mem (Q .normal) a0 (pre ++ (y :: r2)) listed a w pre (y :: r2) val Fl J aS → wpAny P .any ops Q fuel listed a w := by
    have emp : ∀ (listed : Array Bool) (a : Act) (w : World), DI P ops mem (Q .normal) a0 (pre ++ (x :: r1)) listed a w pre (x :: r1) val Fl J aS → Region.ready .any ops listed = [] → False := fun listed a w I hr =>
      hxp (I.sub x (all_listed hbk I.lsize hr x ((ha1 x).1 (by simp))))
    intro fuel
    induction fuel with
    | zero =>
      intro listed a w hc I _
      have hr : Region.ready .any ops listed = [] := by
        rw [List.eq_nil_iff_forall_not_mem]
        intro i hi
        obtain ⟨o, _, hi2, hl, _⟩ := mem_ready hi
        have := toCome_set hi2 hl
        omega
      exact (emp _ _ _ I hr).elim
    | succ fuel ih =>
      intro listed a w hc I1 I2
      refine ⟨fun hr => (emp _ _ _ I1 hr).elim, fun i hi => ?_⟩
      obtain ⟨o, r⟩ := rd_of I1.lsize I1.closed hi
      have hct : toCome ops (listed.setIfInBounds i true) ≤ fuel := by have := r.ct; omega
      by_cases hip : i ∈ pre
      · exact I1.fire hsel hlook r hip fun w' hx => ih _ _ _ hct (I1.fired hnd hfit r hip hx) (I2.fired hnd hfit r hip hx)
      by_cases hix : i = x
      · subst hix
        exact I1.step hnd hfit hsel hlook hn1 ho1 hx r fun a' w' val' J' aS' I' => any_walk (R := Q .normal) hbk hnd hfit hsel hlook hno hn1 ha1 ho1 (fun _ _ h => h) _ _ _ _ _ _ _ _ _ _ hct I' hm1
      by_cases hiy : i = y
      · subst hiy
        exact I2.step hnd hfit hsel hlook hn2 ho2 hy r fun a' w' val' J' aS' I' => any_walk (R := Q .normal) hbk hnd hfit hsel hlook hno hn2 ha2 ho2 (fun _ _ h => h) _ _ _ _ _ _ _ _ _ _ hct I' hm2
      have hin := (ha1 i).2 r.lt
      simp only [List.mem_append, List.mem_cons] at hin
      rcases hin with h | h | h
      · exact (hip h).elim
      · exact (hix h).elim
      have h9 := List.all_eq_true.1 hxr i h
      rw [Bool.or_eq_true] at h9
      rcases h9 with h9 | h9
      · exact (hiy (by simpa using h9)).elim
      exact (hxp (I1.sub x (r.prT x h9))).elim
  have hnl : ∀ j, (Array.replicate ops.size false).getD j false = true → False := by
    intro j hl
    simp only [Array.getD_eq_getD_getElem?] at hl
    by_cases h : j < ops.size <;> simp [h] at hl
  have mk : ∀ (is : List Nat), DW P ops mem (Q .normal) (pm ops is) Fl J aS → DI P ops mem (Q .normal) a0 (pre ++ is) (Array.replicate ops.size false) a0 { w0 with drawn := w0.drawn + 1 } pre is val Fl J aS := fun is hd =>
    ⟨by simp, fun j o hj hl => (hnl j hl).elim, (Tk.start (val := val)).iff (fun q => ⟨False.elim, hnl q⟩) (fun _ _ => rfl), rfl, I0.tkS, hd, hst, hst _ _ hv (Ext.drew' w0), fun f hf _ => I0.fl f hf, fun q hq => (hnl q hq).elim,
     fun q hq hp => by have := List.all_eq_true.1 hpm q hp; simp [hq] at this, fun i hi _ => by
      obtain ⟨o, ai, L, h1, h2, h3, h4, h5, h6⟩ := I0.pend i hi
      refine ⟨o, ai, L, h1, h2, h3, h4, h5, ?_⟩
      rcases h6 with h6 | ⟨h6, h7 | h7⟩
      · exact .inl h6
      · exact .inr ⟨h6, .inl h7⟩
      exact .inr ⟨h6, .inr (.inr h7)⟩⟩
  refine two _ _ _ _ ?_ (mk _ hd1) (mk _ hd2)
  unfold toCome
  exact Nat.le_trans (List.countP_le_length) (by simp)
theorem rT {l : List Oper} {id : Nat} (hm : P.follows .mixedOrders = true) (R : Act → World → Prop) (mem pre r1 r2 : List Nat) (x y k : Nat) (hsize : a0.tmps.size = k) (hck : okT l.toArray mem pre r1 r2 x y k = true) (hv : Inv B H w0)
  (h0 : ∀ (R' : Act → World → Prop) (l1 l2 : List (Nat × Oper)), (∀ a w, R a w → R' a w) → l1 = qm l (x :: r1) → l2 = qm l (y :: r2) → DW2 P l.toArray mem R' l1 l2 (qm l pre) [] (Inv B H) a0) (hR : ∀ a w, R a w → Q .normal a w) : (Code.region id l.toArray true).wpIn Fence.wide n P Q a0 w0 := by
 have h := h0 R _ _ (fun _ _ h => h) rfl rfl
 have h2 : (Code.region id l.toArray true).wpIn Fence.wide n P (fun e a w => e = .normal ∧ R a w) a0 w0 := by
  refine wpIn_wide.2 (wp_region_any hm (any_t mem pre r1 r2 x y k hsize hck (fun _ _ h he => h.ext he) hv ?_))
  rw [qm_pm, qm_pm, qm_pm] at h
  have : (fun a w => (Exit.normal : Exit) = .normal ∧ R a w) = R := by funext a w; simp
  show DW2 P l.toArray mem (fun a w => (Exit.normal : Exit) = .normal ∧ R a w) _ _ _ _ _ _
  rw [this]; exact h
 exact wpIn_mono h2 (fun e a w ⟨h3, h4⟩ => by subst h3; exact hR a w h4)
end
section
variable {P : Program} {ops : Array Oper} {mem : List Nat} {R : Act → World → Prop} {l1 l2 : List (Nat × Oper)} {i : Nat} {o : Oper} {is : List (Nat × Oper)} {Fl : List (Nat × (World → Prop))} {J : World → Prop} {a : Act} {v : Value} {x y z : Operand}
theorem tB (h1 : DW P ops mem R l1 Fl J a) (h2 : DW P ops mem R l2 Fl J a) : DW2 P ops mem R l1 l2 [] Fl J a := ⟨h1, h2⟩
theorem tG (v : Value) (hw : Region.wanted o (yielded ops a.tmps) = true) (hr : ∀ {w}, Ex P a o w v w) (h : DW2 P ops mem R l1 l2 is Fl J (a.put o.dst v)) : DW2 P ops mem R l1 l2 ((i, o) :: is) Fl J a := by
 unfold DW2; exact .inr ⟨hw, v, .inl ⟨fun w => hr.addsv, h⟩⟩
theorem tF (v : Value) (hw : Region.wanted o (yielded ops a.tmps) = true) (hr : ∀ {w}, J w → Ex P a o w v w) (h : ∀ f : World → Prop, (∀ w, Ex P a o w v w → f w) → DW2 P ops mem R l1 l2 is ((i, f) :: Fl) J (a.put o.dst v)) : DW2 P ops mem R l1 l2 ((i, o) :: is) Fl J a := by
 unfold DW2; exact .inr ⟨hw, v, .inr ⟨fun w => Ex P a o w v w, fun w hx => hx.addsv, fun w hJ => hr hJ, h _ fun _ hx => hx⟩⟩
end
end Go.Pm
namespace Go.Proofs
open Go.Shelf
def Tryz.laysKeys_ren : Go.Shelf.Ren := ⟨fun | 7 => 176 | 10 => 184 | n => n, fun | 23 => 139 | 26 => 9 | 3 => 86 | 28 => 272 | 0 => 0 | 27 => 271 | 33 => 146 | 4 => 4 | n => n, fun | n => n⟩
theorem Tryz.laysKeys : Go.Proofs.SlLaysZ.n7 Tryz.prog Tryz.laysKeys_ren := {
 mixed := by kernel_rfl
 f7 := ⟨Tryz.f176.name, by decide, Tryz.func176.trans (congrArg some (by kernel_rfl))⟩
 f10 := ⟨Tryz.f184.name, by decide, Tryz.func184.trans (congrArg some (by kernel_rfl))⟩
 t0 := Tryz.underlying0
 a0 := Tryz.isAgg0
 z0 := Tryz.sizeOf0
 v0 := Tryz.zeroValue0
 t4 := Tryz.underlying4
 a4 := Tryz.isAgg4
 z4 := Tryz.sizeOf4
 v4 := Tryz.zeroValue4
 t23 := Tryz.underlying139
 a23 := Tryz.isAgg139
 z23 := Tryz.sizeOf139
 v23 := Tryz.zeroValue139
 t26 := Tryz.underlying9
 a26 := Tryz.isAgg9
 z26 := Tryz.sizeOf9
 v26 := Tryz.zeroValue9
 t27 := Tryz.underlying271
 a27 := Tryz.isAgg271
 z27 := Tryz.sizeOf271
 v27 := Tryz.zeroValue271
 t28 := Tryz.underlying272
 a28 := Tryz.isAgg272
 z28 := Tryz.sizeOf272
 v28 := Tryz.zeroValue272
 t33 := Tryz.underlying146
 a33 := Tryz.isAgg146
 z33 := Tryz.sizeOf146
 v33 := Tryz.zeroValue146 }
def Tryz.laysKeys1_ren : Go.Shelf.Ren := ⟨fun | 10 => 184 | n => n, fun | 33 => 146 | 23 => 139 | 0 => 0 | 4 => 4 | 26 => 9 | 3 => 86 | n => n, fun | n => n⟩
theorem Tryz.laysKeys1 : Go.Proofs.SlLaysZ.n10 Tryz.prog Tryz.laysKeys1_ren := {
 mixed := by kernel_rfl
 f10 := ⟨Tryz.f184.name, by decide, Tryz.func184.trans (congrArg some (by kernel_rfl))⟩
 t0 := Tryz.underlying0
 a0 := Tryz.isAgg0
 z0 := Tryz.sizeOf0
 v0 := Tryz.zeroValue0
 t4 := Tryz.underlying4
 a4 := Tryz.isAgg4
 z4 := Tryz.sizeOf4
 v4 := Tryz.zeroValue4
 t23 := Tryz.underlying139
 a23 := Tryz.isAgg139
 z23 := Tryz.sizeOf139
 v23 := Tryz.zeroValue139
 t26 := Tryz.underlying9
 a26 := Tryz.isAgg9
 z26 := Tryz.sizeOf9
 v26 := Tryz.zeroValue9
 t33 := Tryz.underlying146
 a33 := Tryz.isAgg146
 z33 := Tryz.sizeOf146
 v33 := Tryz.zeroValue146 }
def Tryz.laysApp_ren : Go.Shelf.Ren := ⟨fun | 11 => 175 | n => n, fun | 24 => 22 | 26 => 9 | 28 => 272 | 0 => 0 | 33 => 146 | 4 => 4 | n => n, fun | n => n⟩
theorem Tryz.laysApp : Go.Proofs.SlLaysZ.n11 Tryz.prog Tryz.laysApp_ren := {
 mixed := by kernel_rfl
 f11 := ⟨Tryz.f175.name, by decide, Tryz.func175.trans (congrArg some (by kernel_rfl))⟩
 t0 := Tryz.underlying0
 a0 := Tryz.isAgg0
 z0 := Tryz.sizeOf0
 v0 := Tryz.zeroValue0
 t24 := Tryz.underlying22
 a24 := Tryz.isAgg22
 z24 := Tryz.sizeOf22
 v24 := Tryz.zeroValue22
 t26 := Tryz.underlying9
 a26 := Tryz.isAgg9
 z26 := Tryz.sizeOf9
 v26 := Tryz.zeroValue9
 t28 := Tryz.underlying272
 a28 := Tryz.isAgg272
 z28 := Tryz.sizeOf272
 v28 := Tryz.zeroValue272
 i26 := by kernel_rfl }
def Tryz.laysSort_ren : Go.Shelf.Ren := ⟨fun | 190 => 177 | 125 => 186 | 258 => 185 | 128 => 201 | 129 => 117 | 302 => 192 | 303 => 193 | 304 => 194 | 305 => 195 | 306 => 196 | 307 => 197 | 308 => 198 | 309 => 199 | 310 => 200 | 333 => 207 | 329 => 208 | 330 => 209 | 334 => 210 | 335 => 211 | 336 => 212 | 344 => 217 | n => n, fun | 31 => 22 | 9 => 9 | 3 => 3 | 46 => 198 | 0 => 0 | 51 => 218 | 53 => 187 | 4 => 4 | 183 => 281 | 182 => 280 | 131 => 155 | 5 => 5 | 218 => 290 | 222 => 294 | 228 => 300 | 229 => 301 | n => n, fun | n => n⟩
theorem Tryz.laysSort : Go.Proofs.Lays.n190 Tryz.prog Tryz.laysSort_ren := {
 mixed := by kernel_rfl
 f125 := Tryz.func186.trans (congrArg some (by kernel_rfl))
 f128 := Tryz.func201.trans (congrArg some (by kernel_rfl))
 f129 := Tryz.func117.trans (congrArg some (by kernel_rfl))
 f190 := Tryz.func177.trans (congrArg some (by kernel_rfl))
 f258 := Tryz.func185.trans (congrArg some (by kernel_rfl))
 f302 := Tryz.func192.trans (congrArg some (by kernel_rfl))
 f303 := Tryz.func193.trans (congrArg some (by kernel_rfl))
 f304 := Tryz.func194.trans (congrArg some (by kernel_rfl))
 f305 := Tryz.func195.trans (congrArg some (by kernel_rfl))
 f306 := Tryz.func196.trans (congrArg some (by kernel_rfl))
 f307 := Tryz.func197.trans (congrArg some (by kernel_rfl))
 f308 := Tryz.func198.trans (congrArg some (by kernel_rfl))
 f309 := Tryz.func199.trans (congrArg some (by kernel_rfl))
 f310 := Tryz.func200.trans (congrArg some (by kernel_rfl))
 f329 := Tryz.func208.trans (congrArg some (by kernel_rfl))
 f330 := Tryz.func209.trans (congrArg some (by kernel_rfl))
 f333 := Tryz.func207.trans (congrArg some (by kernel_rfl))
 f334 := Tryz.func210.trans (congrArg some (by kernel_rfl))
 f335 := Tryz.func211.trans (congrArg some (by kernel_rfl))
 f336 := Tryz.func212.trans (congrArg some (by kernel_rfl))
 f344 := Tryz.func217.trans (congrArg some (by kernel_rfl))
 t0 := Tryz.underlying0
 a0 := Tryz.isAgg0
 z0 := Tryz.sizeOf0
 v0 := Tryz.zeroValue0
 t3 := Tryz.underlying3
 a3 := Tryz.isAgg3
 z3 := Tryz.sizeOf3
 v3 := Tryz.zeroValue3
 t4 := Tryz.underlying4
 a4 := Tryz.isAgg4
 z4 := Tryz.sizeOf4
 v4 := Tryz.zeroValue4
 t5 := Tryz.underlying5
 a5 := Tryz.isAgg5
 z5 := Tryz.sizeOf5
 v5 := Tryz.zeroValue5
 t9 := Tryz.underlying9
 a9 := Tryz.isAgg9
 z9 := Tryz.sizeOf9
 v9 := Tryz.zeroValue9
 t31 := Tryz.underlying22
 a31 := Tryz.isAgg22
 z31 := Tryz.sizeOf22
 v31 := Tryz.zeroValue22
 t46 := Tryz.underlying198
 a46 := Tryz.isAgg198
 z46 := Tryz.sizeOf198
 v46 := Tryz.zeroValue198
 t51 := Tryz.underlying218
 a51 := Tryz.isAgg218
 z51 := Tryz.sizeOf218
 v51 := Tryz.zeroValue218
 t53 := Tryz.underlying187
 a53 := Tryz.isAgg187
 z53 := Tryz.sizeOf187
 v53 := Tryz.zeroValue187
 t131 := Tryz.underlying155
 a131 := Tryz.isAgg155
 z131 := Tryz.sizeOf155
 v131 := Tryz.zeroValue155
 t182 := Tryz.underlying280
 a182 := Tryz.isAgg280
 z182 := Tryz.sizeOf280
 v182 := Tryz.zeroValue280
 t183 := Tryz.underlying281
 a183 := Tryz.isAgg281
 z183 := Tryz.sizeOf281
 v183 := Tryz.zeroValue281
 t218 := Tryz.underlying290
 a218 := Tryz.isAgg290
 z218 := Tryz.sizeOf290
 v218 := Tryz.zeroValue290
 t222 := Tryz.underlying294
 a222 := Tryz.isAgg294
 z222 := Tryz.sizeOf294
 v222 := Tryz.zeroValue294
 t228 := Tryz.underlying300
 a228 := Tryz.isAgg300
 z228 := Tryz.sizeOf300
 v228 := Tryz.zeroValue300
 t229 := Tryz.underlying301
 a229 := Tryz.isAgg301
 z229 := Tryz.sizeOf301
 v229 := Tryz.zeroValue301 }
end Go.Proofs
namespace Go.Proofs.YtffnhfkkochnhaaGreatDoor
open Go.RowKit Go.Pm Go.Sort Go.Shelf
abbrev keyT : TypeId := 9
theorem mapKeys (B : Base) (H : List Res) (w : World) (mb : Option Nat) (hv : Pm.Inv B H w) : Calls Tryz.prog 176 #[.map mb] w fun e w' => ∃ b, e = .returned (.func (.func 184) #[] #[.pointer (some ⟨b, 0, none⟩)]) ∧ Pm.Inv B (Res.cell b [.map mb] 139 :: H) w' := by
 have h := AnyZ.keys_in Tryz.laysKeys Fence.wide 5 trivial rfl mb w
 refine (callsIn_wide (n := 5)).1 (h.mono ?_)
 rintro e w' ⟨rfl, rfl⟩
 exact ⟨_, rfl, hv.alloc _ _⟩
abbrev RN (_ : Value) : Option (DataW Unit × List MemPlace) := some (.nil, [])
theorem rd_key (k : List UInt8) (hk : k.length ≤ maxLen) (v : Value) (n : Nat) : WideElems.rd Tryz.prog keyT RN { key := strV k, val := v, born := n } = some (.string k, .nil) := by
 have h : keyOf Tryz.prog keyT (strV k) = some (.string k) := by
  have h1 := WideMaps.keyOf_string_mk (P := Tryz.prog) (k := keyT) Tryz.underlying9 (s := ⟨k.toArray⟩) (by show k.toArray.size ≤ maxLen; simpa using hk)
  simpa using h1
 simp [WideElems.rd, h, RN]
theorem vmap_owns {w : World} {b : Nat} {es : List (List UInt8 × Value)} (h : (Res.vmap b es).holds w) (hk : ∀ x ∈ es, x.1.length ≤ maxLen) (hm : es.length ≤ maxLen) :
  ∃ D : DataW Unit, w.ownsMap Tryz.prog keyT RN b es.length D ∧ (strKeys D).Perm (es.map (·.1)) := by
 obtain ⟨E, clock, h1, h2, h3⟩ := h
 have hl : E.size = es.length := by have := congrArg List.length h3; simpa using this
 have hrd : ∀ x ∈ E.toList, ∃ k, (∃ v, (k, v) ∈ es) ∧ x.key = strV k ∧ WideElems.rd Tryz.prog keyT RN x = some (.string k, .nil) := by
  intro x hx
  obtain ⟨j, hj⟩ := List.mem_iff_getElem?.1 hx
  have h9 := congrArg (fun l => l[j]?) h3
  simp only [List.getElem?_map, hj, Option.map_some] at h9
  cases hx2 : es[j]? with
  | none => rw [hx2] at h9; simp at h9
  | some y =>
   rw [hx2] at h9
   simp only [Option.map_some, kv, Option.some.injEq, Prod.mk.injEq] at h9
   have hy := List.mem_of_getElem? hx2
   obtain ⟨xk, xv, xb⟩ := x
   simp only at h9
   obtain ⟨rfl, rfl⟩ := h9
   exact ⟨y.1, ⟨y.2, hy⟩, rfl, rd_key y.1 (hk y hy) _ _⟩
 refine ⟨_, ⟨E, clock, h1, ⟨by omega, h2, fun x hx => by obtain ⟨k, -, -, h⟩ := hrd x hx; exact ⟨_, h⟩⟩, by omega, rfl⟩, ?_⟩
 have hp : (strKeys (DataW.map ((E.toList.map (WideElems.rg Tryz.prog keyT RN)).foldr DataW.insert []))).Perm ((E.toList.map (WideElems.rg Tryz.prog keyT RN)).map fun p => strOf p.1) := (WideShapes.sorted_perm _).map _
 refine hp.trans (List.Perm.of_eq ?_)
 rw [List.map_map]
 have h4 : E.toList.map (fun e => e.key) = es.map (fun x => strV x.1) := by
  have := congrArg (List.map Prod.fst) h3
  simpa [List.map_map, Function.comp_def, kv] using this
 have h5 : ∀ x ∈ E.toList, strV (((fun p : Lit × DataW Unit => strOf p.1) ∘ WideElems.rg Tryz.prog keyT RN) x) = x.key := by
  intro x hx
  obtain ⟨k, -, hk1, h⟩ := hrd x hx
  simp [Function.comp, WideElems.rg, h, hk1, strOf]
 have h6 : (E.toList.map ((fun p : Lit × DataW Unit => strOf p.1) ∘ WideElems.rg Tryz.prog keyT RN)).map strV = (es.map (·.1)).map strV := by
  rw [List.map_map, List.map_map]
  have : E.toList.map (strV ∘ ((fun p : Lit × DataW Unit => strOf p.1) ∘ WideElems.rg Tryz.prog keyT RN)) = E.toList.map (fun e => e.key) := List.map_congr_left fun x hx => h5 x hx
  rw [this, h4]; rfl
 exact (List.map_inj_right (fun a b e => strV_inj e)).1 h6
theorem row_new {B : Base} {H : List Res} {w w' : World} {e : TypeId} {size n : Nat} {v : Value} {xs : List Value} (hv : Pm.Inv B H w) (h : w'.ownsRow w.heap.size e size v n xs) (hb : Below w.heap.size w w') : Pm.Inv B (Res.row e size v n xs :: H) w' := by
 have h0 : w'.ownsRow 0 e size v n xs := ⟨h.1, h.2.imp id fun ⟨g, cap, cur, h1, _, h3⟩ => ⟨g, cap, cur, h1, Nat.zero_le _, h3⟩⟩
 refine hv.new hb (Res.row e size v n xs) h0 (fun b hb9 => ?_) ?_
 ·rcases h.2 with ⟨rfl, -⟩ | ⟨g, cap, cur, rfl, h2, h3, -⟩
  ·simp [Value.ownBlock] at hb9
  simp [Value.ownBlock] at hb9
  subst hb9
  exact ⟨h2, (Array.getElem?_eq_some_iff.1 h3).1⟩
 show v.ownBlock.toList.Nodup
 cases v.ownBlock with
 | none => exact List.Pairwise.nil
 | some b => simp
theorem appendKeys (B : Base) (H : List Res) (w : World) (b wb : Nat) (es : List (List UInt8 × Value)) (hk : ∀ x ∈ es, x.1.length ≤ maxLen) (hm : es.length ≤ 1000000) (hv : Pm.Inv B (Res.cell b [.map (some wb)] 139 :: Res.vmap wb es :: H) w) :
  Calls Tryz.prog 175 #[.slice none 0 0, .func (.func 184) #[] #[.pointer (some ⟨b, 0, none⟩)]] w fun e w' => ∃ v ss, e = .returned v ∧ ss.Perm (es.map (·.1)) ∧ Pm.Inv B (Res.row keyT 1 v ss.length (textCells ss) :: Res.cell b [.map (some wb)] 139 :: Res.vmap wb es :: H) w' := by
 obtain ⟨D, hown, hperm⟩ := vmap_owns (hv.get 1 rfl) hk (by unfold maxLen; omega)
 have hsz := hown.size_le
 have hg := AnyZ.keys_gives Tryz.laysKeys1 Fence.wide 4 trivial rfl (by omega) b wb es.length D w (hv.lt _ (List.mem_cons_self) b (by simp)) (hv.load 0 0 rfl rfl) hown
 have he : ∀ args w, (callFunc 184 args).run Tryz.prog w = .ok (.enter 184 args) w := Tryz.laysKeys1.f10.enters rfl
 have h := AnyZ.appendSeq_in Tryz.laysApp Fence.wide 5 trivial rfl (by omega) 184 #[.pointer (some ⟨b, 0, none⟩)] trivial he _ (Maps.size D) (by unfold maxLen; omega) (by omega) w hg
 refine (callsIn_wide (n := 5)).1 (h.mono ?_)
 rintro e w' ⟨v, ss, rfl, hS, hrow, -, hb⟩
 exact ⟨v, ss, rfl, hS.trans hperm, row_new hv hrow hb⟩
theorem sortTexts (B : Base) (H : List Res) (w : World) (v : Value) (l : List (List UInt8)) (hm : l.length ≤ 1000000) (hv : Pm.Inv B (Res.row keyT 1 v l.length (textCells l) :: H) w) :
  Calls Tryz.prog 177 #[v] w fun e w' => e = .returned (.tuple #[]) ∧ Pm.Inv B (Res.row keyT 1 v l.length (textCells (l.mergeSort leB)) :: H) w' := by
 rcases (hv.head : w.ownsRow 0 keyT 1 v l.length (textCells l)).2 with ⟨rfl, hz⟩ | ⟨g, cap, cur, rfl, h0, hgb, r1, r2, r3, r4⟩
 ·have hl : l = [] := List.eq_nil_of_length_eq_zero hz
  subst hl
  refine (Any.slices_Sort_string_none Tryz.laysSort none 0 w).mono ?_
  rintro e w' ⟨rfl, rfl⟩
  exact ⟨rfl, by simpa using hv⟩
 have hH : Holds encStr w g 0 l.toArray := holds_of_block hgb (by rw [Nat.mul_one] at r4; exact r4)
 refine (Any.slices_Sort_string Tryz.laysSort g 0 cap l w hH (Array.getElem?_eq_some_iff.1 hgb).1 (by omega)).mono ?_
 rintro e w' ⟨rfl, n, os, rfl⟩
 have hgr := grownBy_sorted (w := w) (g := g) (n := n) (os := os) (l.mergeSort leB).toArray
 have hr := ownsRow_sorted (n := n) (os := os) (ss := l) (ts := l.mergeSort leB) (by simp) h0 hgb r1 r2 r3
 refine ⟨rfl, hv.upd _ ⟨hgr.os, hgr.tape, hgr.output, hgr.size, fun k hk hn => hgr.block k hk (fun e => hn (by cases e; simp [Value.ownBlock]))⟩ hr (fun b hb => .inl hb) (fun b hb => Nat.lt_of_lt_of_le (hv.headLt b hb) hgr.size) (by simp [Value.ownBlock])⟩
end Go.Proofs.YtffnhfkkochnhaaGreatDoor
namespace Go.Pm
open Go.RowKit
section
variable {kept mid l : List (List UInt8)} {j : Nat} {x g : List UInt8} {p : List UInt8 → Bool}
theorem textCells_app (a b : List (List UInt8)) : textCells (a ++ b) = textCells a ++ textCells b := by simp [textCells]
theorem textCells_get (h : l[j]? = some x) : (textCells l)[j]? = some (strV x) := by rw [textCells, List.getElem?_map, h]; rfl
theorem textCells_set (l : List (List UInt8)) (i : Nat) (x : List UInt8) : (textCells l).set i (strV x) = textCells (l.set i x) := by simp [textCells, List.map_set]
theorem textCells_n (l : List (List UInt8)) : (textCells l).length = l.length := by simp [textCells]
theorem df_get (h : l[j]? = some x) (hl : kept.length + mid.length = j) : (textCells (kept ++ mid ++ l.drop j))[j]? = some (strV x) := by
 refine textCells_get ?_
 rw [List.getElem?_append_right (by rw [List.length_append]; omega), List.length_append, hl, Nat.sub_self, List.getElem?_drop]
 exact h
theorem df_drop (h : l[j]? = some x) : l.drop j = x :: l.drop (j + 1) := by
 obtain ⟨hj, rfl⟩ := List.getElem?_eq_some_iff.1 h
 exact List.drop_eq_getElem_cons hj
theorem df_set (h : l[j]? = some x) : (textCells (kept ++ (g :: mid) ++ l.drop j)).set kept.length (strV x) = textCells (kept ++ [x] ++ (mid ++ [x]) ++ l.drop (j + 1)) := by
 rw [textCells_set, df_drop h, List.append_assoc, List.set_append_right _ _ (Nat.le_refl _), Nat.sub_self]
 simp
theorem df_skip (h : l[j]? = some x) : kept ++ mid ++ l.drop j = kept ++ (mid ++ [x]) ++ l.drop (j + 1) := by
 rw [df_drop h]; simp
theorem df_filter (h : l[j]? = some x) : (l.take (j + 1)).filter p = (l.take j).filter p ++ if p x then [x] else [] := by
 rw [take_next h, List.filter_append]
 cases hp : p x <;> simp [hp]
theorem df_start (h : l[j]? = some x) (hx : p x = true) (hn : ∀ y ∈ l.take j, p y = false) : (l.take (j + 1)).filter (fun y => !p y) = l.take j ∧ l = l.take j ++ [x] ++ l.drop (j + 1) := by
 constructor
 ·rw [df_filter h, hx, List.filter_eq_self.2 (fun y hy => by rw [hn y hy]; rfl)]
  simp
 conv => lhs; rw [← List.take_append_drop j l, df_drop h]
 simp
end
end Go.Pm
namespace Go.Proofs.YtffnhfkkochnhaaGreatDoor
open Go.RowKit Go.Pm
theorem s24es22 (w : World) : (sizeOf (Tryz.prog.elem 22)).run Tryz.prog w = .ok 1 w := by kernel_rfl
theorem s24na9 (w : World) : (isAgg 9).run Tryz.prog w = .ok false w := by kernel_rfl
theorem indexFuncO (B : Base) (H : List Res) (w : World) (f : FuncId) (cb : Array Value) (ra : Option Addr) (rc : Nat) (l : List (List UInt8)) (pr : List UInt8 → Bool) (hm : l.length ≤ 1000000) (hcal : Callable Tryz.prog f) (hf : ∀ (x : List UInt8) (r : Res) (w : World), Inv B (r :: H) w → Calls Tryz.prog f (#[vS x] ++ cb) w fun e w' => e = .returned (.bool (pr x)) ∧ Inv B (r :: H) w') (hv : Inv B (Res.row 9 1 (.slice ra l.length rc) l.length (textCells l) :: H) w) :
  Calls Tryz.prog 161 #[.slice ra l.length rc, .func (.func f) #[] cb] w fun e w' => ∃ r : Int, e = .returned (vI r) ∧ ((r = -1 ∧ ∀ y ∈ l, pr y = false) ∨ ∃ (i : Nat) (x : List UInt8), r = (i : Int) ∧ l[i]? = some x ∧ pr x = true ∧ ∀ y ∈ l.take i, pr y = false) ∧ Inv B (Res.row 9 1 (.slice ra l.length rc) l.length (textCells l) :: H) w' := by
 refine cW Tryz.func161 rfl Tryz.ntmps161 ?_
 simp only [al]
 refine sK fun _ k1 => rL (uA rfl ?_)
 refine uW k1 (sK fun _ k2 => ?_)
 refine sK fun _ k3 => rL (uM rfl ?_)
 refine uG (vI (l.length : Int)) rfl (ex_len0 Tryz.underlying22 rfl rfl) (uM rfl ?_)
 refine uW k3 (bB ?_)
 gi_loopw [8] (fun x8 wr => ∃ (i : Nat), x8 = vI i ∧ i ≤ l.length ∧ (∀ j x, j < i → l[j]? = some x → pr x = false) ∧ Inv B (Res.row 9 1 (.slice ra l.length rc) l.length (textCells l) :: H) wr) (fun x8 _ => l.length - (intOf x8).toNat)
 case atStart => exact ⟨0, rfl, Nat.zero_le _, fun j x h => by omega, hv⟩
 case round =>
  obtain ⟨i, rfl, hi, hno, hv⟩ := hrel
  refine sK fun _ k5 => rL ?_
  by_cases hb6 : (i : Int) < (l.length : Int)
  ·refine uG (.bool true) rfl (ex_lss rfl rfl rfl (qT hb6)) (uW k5 ?_)
   refine sK fun _ k7 => cT rfl (kS ?_)
   refine tK k7 (sK fun _ k8 => ?_)
   refine bB (sK fun _ k9 => ?_)
   refine rL (uM rfl ?_)
   refine uA rfl (uW k9 ?_)
   refine sK fun _ k10 => ?_
   obtain ⟨x, hx⟩ : ∃ x, l[i]? = some x := ⟨_, List.getElem?_eq_getElem (show i < l.length by omega)⟩
   obtain ⟨b, rfl⟩ := row_some hv.head (by omega)
   refine rL (uM rfl ?_)
   refine uM rfl (uM rfl ?_)
   refine uG (.pointer (some ⟨b, 0 + i, none⟩)) rfl (ex_index rfl rfl rfl (run_idx1 (k := i) Tryz.underlying22 s24es22 (by omega))) ?_
   refine uL _ rfl (run_load1 s24na9 (row_load (hv.get 0 rfl) (textCells_get hx))) ?_
   refine wpi_callV hcal tV wideC rfl (wn rfl) rfl rfl (args := #[vS x]) (by simp only [List.map_toArray, List.map_cons, List.map_nil]; rfl) ((hf x _ _ hv).mono ?_)
   rintro e w11 ⟨rfl, hv⟩
   refine ⟨_, rfl, uW k10 ?_⟩
   refine wpIn_cond_split (t := pr x) rfl (fun hc12 => ?_) (fun hc12 => ?_)
   ·refine sK fun _ k13 => rL (uM rfl ?_)
    refine uA rfl (uW k13 ?_)
    refine rR (bZ ?_)
    refine tR (tR ?_)
    refine bZ (tR ?_)
    refine bR rfl rfl (⟨_, rfl, .inr ⟨i, x, rfl, hx, by simpa using hc12, fun y hy => (by obtain ⟨j, hj⟩ := List.mem_iff_getElem?.1 hy; have h9 := (List.getElem?_eq_some_iff.1 hj).1; rw [List.length_take] at h9; rw [List.getElem?_take_of_lt (by omega)] at hj; exact hno j y (by omega) hj)⟩, hv⟩)
   refine kS (bN ?_)
   refine tK k8 (rL ?_)
   refine uG (vI ((i + 1 : Nat) : Int)) rfl (ex_add rfl rfl rfl (by rw [i64_in (by omega)]; omega)) (uM rfl ?_)
   refine uZ (then_normal ?_)
   go_roundw
   case rel => exact ⟨i + 1, rfl, by omega, fun j x' hj hx' => (by
      rcases Nat.lt_or_ge j i with h | h
      ·exact hno j x' h hx'
      obtain rfl : j = i := by omega
      rw [hx] at hx'; cases hx'
      simpa using hc12), hv⟩
   case measure => show l.length - (((i + 1 : Nat) : Int)).toNat < l.length - ((i : Int)).toNat; omega
  refine uG (.bool false) rfl (ex_lss rfl rfl rfl (qF hb6)) (uW k5 ?_)
  refine sK fun _ k14 => cF rfl (xE ?_)
  refine tX (tX ?_)
  refine bH (tK k2 ?_)
  refine sK fun _ k15 => rL (uA rfl ?_)
  refine uW k15 (rR ?_)
  refine bR rfl rfl ?_
  obtain rfl : i = l.length := by omega
  exact ⟨_, rfl, .inl ⟨rfl, fun y hy => (by obtain ⟨j, hj⟩ := List.mem_iff_getElem?.1 hy; exact hno j y (List.getElem?_eq_some_iff.1 hj).1 hj)⟩, hv⟩
theorem s24callable161 : Callable Tryz.prog 161 := cb Tryz.func161 (by kernel_rfl)
theorem s24sz9 : (Tryz.prog.info? 9).map (·.size) = some 1 := by kernel_rfl
theorem s24mk9 : (Tryz.prog.info? 9).map (fun i => (i.zero, i.size, i.bytes)) = some (some (vS []), 1, 16) := by kernel_rfl
theorem s24el22 : Elem Tryz.prog 22 9 (vS []) 1 16 := elem_of Tryz.underlying22 s24mk9 (by rfl) (by decide)
theorem deleteFunc (B : Base) (H : List Res) (w : World) (f : FuncId) (cb : Array Value) (ra : Option Addr) (rc : Nat) (l : List (List UInt8)) (pr : List UInt8 → Bool) (hm : l.length ≤ 1000000) (hcal : Callable Tryz.prog f) (hf : ∀ (x : List UInt8) (r : Res) (w : World), Inv B (r :: H) w → Calls Tryz.prog f (#[vS x] ++ cb) w fun e w' => e = .returned (.bool (pr x)) ∧ Inv B (r :: H) w') (hv : Inv B (Res.row 9 1 (.slice ra l.length rc) l.length (textCells l) :: H) w) :
  Calls Tryz.prog 155 #[.slice ra l.length rc, .func (.func f) #[] cb] w fun e w' => ∃ ra' rc', e = .returned (.slice ra' (l.filter fun y => !pr y).length rc') ∧ Inv B (Res.row 9 1 (.slice ra' (l.filter fun y => !pr y).length rc') (l.filter fun y => !pr y).length (textCells (l.filter fun y => !pr y)) :: H) w' := by
 refine cW Tryz.func155 rfl Tryz.ntmps155 ?_
 simp only [al]
 refine sK fun _ k1 => rL (uA rfl ?_)
 refine uW k1 (sK fun _ k2 => ?_)
 refine rL (uM rfl ?_)
 refine uM rfl ?_
 refine xC s24callable161 rfl ((indexFuncO B H _ f cb ra rc l pr hm hcal hf hv).mono ?_) rfl
 rintro e w3 ⟨r, rfl, hor, hv⟩
 refine ⟨_, rfl, ?_⟩
 rcases hor with ⟨rfl, hno⟩ | ⟨i0, x0, rfl, hx0, hp0, hno⟩
 ·refine uA rfl (uW k2 ?_)
  refine sK fun _ k4 => sK fun _ k5 => rL (uM rfl ?_)
  refine uG (.bool true) rfl (ex_eql rfl rfl rfl (by decide)) (uW k5 ?_)
  refine cT rfl (sK fun _ k6 => ?_)
  refine rL (uM rfl ?_)
  refine uA rfl (uW k6 ?_)
  refine rR (tR ?_)
  refine bR rfl rfl ?_
  have hfl : l.filter (fun y => !pr y) = l := List.filter_eq_self.2 (fun y hy => by rw [hno y hy]; rfl)
  rw [hfl]
  exact ⟨_, _, rfl, hv⟩
 have hi0 : i0 < l.length := (List.getElem?_eq_some_iff.1 hx0).1
 obtain ⟨b, rfl⟩ := row_some hv.head (by omega)
 obtain ⟨hst, hsl⟩ := df_start hx0 hp0 hno
 refine uA rfl (uW k2 ?_)
 refine sK fun _ k7 => sK fun _ k8 => rL (uM rfl ?_)
 refine uG (.bool false) rfl (ex_eql rfl rfl rfl (qF (by omega))) (uW k8 ?_)
 refine cF rfl (kS ?_)
 refine tK k7 (sK fun _ k9 => ?_)
 refine sK fun _ k10 => rL (uM rfl ?_)
 refine uG (vI ((i0 + 1 : Nat) : Int)) rfl (ex_add rfl rfl rfl (by rw [i64_in (by omega)]; omega)) (uA rfl ?_)
 refine uW k10 (bB ?_)
 gi_loopw [5, 6] (fun x5 x6 wr => ∃ (i j : Nat) (kept mid : List (List UInt8)), x5 = vI i ∧ x6 = vI j ∧ j ≤ l.length ∧ kept = (l.take j).filter (fun y => !pr y) ∧ i = kept.length ∧ 0 < mid.length ∧ i + mid.length = j ∧ Inv B (Res.row 9 1 (.slice (some ⟨b, 0, none⟩) l.length rc) l.length (textCells (kept ++ mid ++ l.drop j)) :: H) wr) (fun x5 x6 _ => l.length - (intOf x6).toNat)
 case atStart => exact ⟨i0, i0 + 1, l.take i0, [x0], rfl, rfl, by omega, hst.symm, by rw [List.length_take]; omega, by simp, by simp, by rw [← hsl]; exact hv⟩
 case round =>
  obtain ⟨i, j, kept, mid, rfl, rfl, hj, hkept, hik, hmid, hij, hv⟩ := hrel
  refine sK fun _ k12 => sK fun _ k13 => rL (uM rfl ?_)
  refine uM rfl ?_
  refine uG (vI (l.length : Int)) rfl (ex_len0 Tryz.underlying22 rfl rfl) ?_
  by_cases hb14 : (j : Int) < (l.length : Int)
  ·refine uG (.bool true) rfl (ex_lss rfl rfl rfl (qT hb14)) (uW k13 ?_)
   refine cT rfl (kS ?_)
   refine tK k12 (sK fun _ k15 => ?_)
   refine bB (sK fun _ k16 => ?_)
   obtain ⟨x, hx⟩ : ∃ x, l[j]? = some x := ⟨_, List.getElem?_eq_getElem (show j < l.length by omega)⟩
   refine rL (uM rfl ?_)
   refine uM rfl ?_
   refine uG (.pointer (some ⟨b, 0 + j, none⟩)) rfl (ex_index rfl rfl rfl (run_idx1 (k := j) Tryz.underlying22 s24es22 (by omega))) ?_
   refine uL (vS x) rfl (run_load1 s24na9 (row_load (hv.get 0 rfl) (df_get (kept := kept) (mid := mid) hx (by omega)))) (uA rfl ?_)
   refine uW k16 (sK fun _ k17 => ?_)
   refine rL (uM rfl ?_)
   refine uM rfl ?_
   refine wpi_callV hcal tV wideC rfl (wn rfl) rfl rfl (args := #[vS x]) (by simp only [List.map_toArray, List.map_cons, List.map_nil]; rfl) ((hf x _ _ hv).mono ?_)
   rintro e w18 ⟨rfl, hv⟩
   refine ⟨_, rfl, uG (.bool (!(pr x))) rfl (ex_not rfl rfl rfl) ?_⟩
   refine uW k17 (wpIn_cond_split (t := !(pr x)) rfl (fun hc19 => ?_) (fun hc19 => ?_))
   ·refine sK fun _ k20 => ?_
    have hpx : pr x = false := by simpa using hc19
    obtain ⟨g0, mid2, hmg⟩ : ∃ g0 m2, mid = g0 :: m2 := (by cases mid with | nil => simp at hmid | cons a m => exact ⟨a, m, rfl⟩)
    subst hmg
    refine rL (uM rfl ?_)
    refine uM rfl (uM rfl ?_)
    refine uG (.pointer (some ⟨b, 0 + i, none⟩)) rfl (ex_index rfl rfl rfl (run_idx1 (k := i) Tryz.underlying22 s24es22 (by omega))) ?_
    refine sl_storeRow (v := vS x) tV (wn rfl) rfl rfl rfl hv s24sz9 (by rw [textCells_n]; simp only [List.length_append, List.length_cons, List.length_drop]; omega) rfl rfl (fun w21 hv => ?_)
    rw [Nat.zero_add] at hv
    refine uW k20 (rL ?_)
    refine uM rfl ?_
    refine uG (vI ((i + 1 : Nat) : Int)) rfl (ex_add rfl rfl rfl (by rw [i64_in (by omega)]; omega)) (uA rfl ?_)
    refine uZ (bN ?_)
    refine tK k15 (rL ?_)
    refine uM rfl ?_
    refine uG (vI ((j + 1 : Nat) : Int)) rfl (ex_add rfl rfl rfl (by rw [i64_in (by omega)]; omega)) (uA rfl ?_)
    refine uZ (then_normal ?_)
    go_roundw
    case rel => exact ⟨i + 1, j + 1, kept ++ [x], mid2 ++ [x], rfl, rfl, by omega, by rw [df_filter hx, ← hkept, hpx]; rfl, by rw [List.length_append]; simp; exact hik, by simp, by simp at hij ⊢; omega, by rw [hik, df_set hx] at hv; exact hv⟩
    case measure => show l.length - (((j + 1 : Nat) : Int)).toNat < l.length - ((j : Int)).toNat; omega
   refine kS (bN ?_)
   refine tK k15 ?_
   have hpx : pr x = true := by simpa using hc19
   refine rL (uM rfl ?_)
   refine uG (vI ((j + 1 : Nat) : Int)) rfl (ex_add rfl rfl rfl (by rw [i64_in (by omega)]; omega)) (uA rfl ?_)
   refine uZ (then_normal ?_)
   go_roundw
   case rel => exact ⟨i, j + 1, kept, mid ++ [x], rfl, rfl, by omega, by rw [df_filter hx, ← hkept, hpx]; simp, hik, by simp, by simp; omega, by rw [← df_skip hx]; exact hv⟩
   case measure => show l.length - (((j + 1 : Nat) : Int)).toNat < l.length - ((j : Int)).toNat; omega
  refine uG (.bool false) rfl (ex_lss rfl rfl rfl (qF hb14)) (uW k13 ?_)
  refine cF rfl (xE ?_)
  refine tX (tX ?_)
  refine bH (tK k9 ?_)
  refine sK fun _ k22 => ?_
  obtain rfl : j = l.length := by omega
  rw [List.drop_length, List.append_nil, textCells_app] at hv
  rw [List.take_length] at hkept
  obtain ⟨L, hL1, hL2, hL3, hL4, hv⟩ := hv.rowCell
  obtain ⟨tl, hLe⟩ : ∃ tl, L = textCells kept ++ textCells mid ++ tl := ⟨L.drop (l.length * 1), by rw [← hL2, List.take_append_drop]⟩
  subst hLe
  have hkn : (textCells kept).length = i := by rw [textCells_n]; exact hik.symm
  refine rL (uM rfl ?_)
  refine uM rfl ?_
  refine uG (.slice (some ⟨b, 0 + i, none⟩) (l.length - i) (rc - i)) rfl (ex_slice (lo' := some (vI i)) rfl rfl (congrArg some rfl) rfl rfl (run_from1 Tryz.underlying22 s24es22 (by omega) (by omega))) ?_
  refine sl_clearAt 0 (pre := textCells kept) (mid := textCells mid) (post := tl) (m := l.length - i) tV (wn rfl) rfl rfl s24el22 (one_cons rfl one_nil) hv rfl rfl (by rw [hkn, Nat.zero_add]) (by rw [textCells_n]; omega) (fun zs w23 hzs hv => ?_)
  simp only [zO] at hv
  refine uW k22 (sK fun _ k24 => ?_)
  refine rL (uM rfl ?_)
  refine uM rfl ?_
  refine uG (.slice (some ⟨b, 0, none⟩) i rc) rfl (ex_slice (hi' := some (vI i)) rfl rfl rfl (congrArg some rfl) rfl (run_hi Tryz.underlying22 s24es22 (by omega))) (uA rfl ?_)
  refine uW k24 (rR ?_)
  refine bR rfl rfl ?_
  have h8 := hv.cellRow (n := i) (c := rc) (size := 1) (by simp only [List.length_append, hzs] at hL1 ⊢; exact hL1) (by omega) hL4
  rw [List.append_assoc, Nat.mul_one, List.take_left' hkn, hik, hkept] at h8
  rw [hik, hkept]
  exact ⟨_, _, rfl, h8⟩
end Go.Proofs.YtffnhfkkochnhaaGreatDoor
