/- glob: sets of bytes, one, anyByte, literal, class. -/
import Derived.Test.YtngpmolbphinnaaGreatDoorCkNamB
import Derived.Test.YtngpmolbphinnaaGreatDoorCkNamF
import Derived.Test.YtngpmolbphinnaaGreatDoorCkNamE
import Derived.Test.YtngpmolbphinnaaGreatDoorCkNamC
import Derived.Test.YtngpmolbphinnaaGreatDoorRows
set_option maxRecDepth 100000
set_option maxHeartbeats 16000000
set_option synthInstance.maxSize 4096
set_option synthInstance.maxHeartbeats 400000
namespace Go.Proofs.YtngpmolbphinnaaGreatDoor
open Go.RowKit Go.Pm
theorem glea176 (w : World) : (sizeOf 110).run Tryz.prog w = .ok 1 w := by kernel_rfl
theorem glua176 : Tryz.prog.underlying 176 = some (.array 4 110) := by kernel_rfl
theorem glna110 (w : World) : (isAgg 110).run Tryz.prog w = .ok false w := by kernel_rfl
theorem glsz110 : (Tryz.prog.info? 110).map (·.size) = some 1 := by kernel_rfl
theorem setAddC (B : Base) (H : List Res) (w : World) (b : Nat) (s : Bool) (ws : W64) (hl : ws.length = 4) (c : Nat) (hc : c < 256) (hv : Inv B (Res.cell b (Value.bool s :: wordsV ws) 178 :: H) w) :
  Calls Tryz.prog 125 #[.pointer (some ⟨b, 1, none⟩), .int .u8 (c : Int)] w fun e w' => e = .returned (.tuple #[]) ∧ Inv B (Res.cell b (Value.bool s :: wordsV (addW ws c)) 178 :: H) w' := by
 refine cW Tryz.func125 rfl Tryz.ntmps125 ?_
 simp only [al]
 refine rW mixed [12] [0,1,2,3,4,5,6,7,8,9,10,11,12] 16 rfl (by kernel_rfl) hv ?_
 simp only [qm, opAt]
 refine dM (.pointer (some ⟨b, 1, none⟩)) rfl (dM (.int .u8 (c : Int)) rfl ?_)
 refine dG (.int .u8 ((c / 64 : Nat) : Int)) rfl (ex_quo (m := (c : Int)) (n := 64) rfl rfl rfl (by decide) (quo64 hc)) ?_
 simp only [zP, po]
 refine dG (.pointer (some ⟨b, 1, none⟩)) rfl (ex_nil rfl rfl) (dG (.pointer (some ⟨b, 1 + (c / 64) * 1, none⟩)) rfl (ex_index rfl rfl rfl (run_idxAK (kd := .u8) (k := c / 64) glua176 glea176 (by omega))) ?_)
 refine dL (.int .u64 ((ws.getD (c / 64) 0#64).toNat : Int)) rfl (fun hv => ex_load rfl rfl (run_load1 glna110 (hv.load 0 (1 + (c / 64) * 1) rfl (by rw [Nat.mul_one, Nat.add_comm, List.getElem?_cons_succ]; exact wordsV_get (by omega))))) ?_
 simp only [zP, po]
 refine dM (.int .u8 (c : Int)) rfl (dG (.int .u8 ((c % 64 : Nat) : Int)) rfl (ex_rem (m := (c : Int)) (n := 64) rfl rfl rfl (by decide) rem64) ?_)
 refine dG (.int .u64 ((1#64 <<< (c % 64)).toNat : Int)) rfl (ex_shl (m := 1) (n := ((c % 64 : Nat) : Int)) rfl rfl rfl (by omega) (shl1 (Nat.mod_lt _ (by decide)))) ?_
 simp only [zP, po]
 refine dG (.int .u64 ((ws.getD (c / 64) 0#64 ||| (1#64 <<< (c % 64))).toNat : Int)) rfl (ex_bits (m := ((ws.getD (c / 64) 0#64).toNat : Int)) (n := ((1#64 <<< (c % 64)).toNat : Int)) rfl rfl rfl rfl (orB _ _)) (dG (.pointer (some ⟨b, 1, none⟩)) rfl (ex_nil rfl rfl) ?_)
 refine dG (.pointer (some ⟨b, 1 + (c / 64) * 1, none⟩)) rfl (ex_index rfl rfl rfl (run_idxAK (kd := .u8) (k := c / 64) glua176 glea176 (by omega))) ?_
 simp only [zP, po]
 refine dS rfl fun w1 hv => mem_storeAt 0 (v := wv (ws.getD (c / 64) 0#64 ||| (1#64 <<< (c % 64)))) (L' := (Value.bool s :: wordsV (addW ws c))) rfl rfl rfl rfl hv rfl glsz110 (by rw [List.length_cons, wordsV_len]; omega) rfl rfl (by rw [Nat.mul_one, Nat.add_comm, List.set_cons_succ, wordsV_set]; rfl) (fun w2 hv => ?_)
 simp only [zO] at hv
 refine dW hv (dE fun w3 hv => ?_)
 simp only [zP, po]
 go_end0
 exact ⟨rfl, hv⟩
theorem glcallable125 : Callable Tryz.prog 125 := cb Tryz.func125 (by kernel_rfl)
theorem setAddRangeC (B : Base) (H : List Res) (w : World) (b : Nat) (s : Bool) (ws : W64) (hl : ws.length = 4) (a e : Nat) (ha : a < 256) (he : e < 256) (hv : Inv B (Res.cell b (Value.bool s :: wordsV ws) 178 :: H) w) :
  Calls Tryz.prog 124 #[.pointer (some ⟨b, 1, none⟩), .int .u8 (a : Int), .int .u8 (e : Int)] w fun e' w' => e' = .returned (.tuple #[]) ∧ Inv B (Res.cell b (Value.bool s :: wordsV (addRangeW ws a e)) 178 :: H) w' := by
 refine cW Tryz.func124 rfl Tryz.ntmps124 ?_
 simp only [al]
 refine sK fun _ k1 => rL (uM rfl ?_)
 refine uM rfl ?_
 refine uG (.int .u8 ((min a e : Nat) : Int)) rfl (ex_min2 (m := (a : Int)) (n := (e : Int)) rfl rfl rfl (by split <;> omega)) (uM rfl ?_)
 refine uM rfl ?_
 refine uG (.int .u8 ((max a e : Nat) : Int)) rfl (ex_max2 (m := (a : Int)) (n := (e : Int)) rfl rfl rfl (by split <;> omega)) (uA rfl ?_)
 refine uA rfl (uW k1 ?_)
 refine sK fun _ k2 => rL (uM rfl ?_)
 refine uM rfl ?_
 refine uG (.int .u8 ((max a e - min a e : Nat) : Int)) rfl (ex_sub rfl rfl rfl (by rw [u8_in (by omega)]; omega)) ?_
 refine uG (vI ((max a e - min a e : Nat) : Int)) rfl (ex_int Tryz.underlying5 Tryz.underlying3 rfl rfl (i64_in (by omega))) ?_
 refine uG (vI ((max a e - min a e + 1 : Nat) : Int)) rfl (ex_add rfl rfl rfl (by rw [i64_in (by omega)]; omega)) (uM rfl ?_)
 refine uW k2 (bB ?_)
 gi_loopw [20] (fun x20 wr => ∃ (i : Nat), x20 = vI i ∧ i ≤ max a e - min a e + 1 ∧ Inv B (Res.cell b (Value.bool s :: wordsV (addUpto ws (min a e) i)) 178 :: H) wr) (fun x20 _ => (max a e - min a e + 1) - (intOf x20).toNat)
 case atStart => exact ⟨0, rfl, Nat.zero_le _, hv⟩
 case round =>
  obtain ⟨i, rfl, hi, hv⟩ := hrel
  refine sK fun _ k4 => rL ?_
  by_cases hb5 : (i : Int) < ((max a e - min a e + 1 : Nat) : Int)
  ·refine uG (.bool true) rfl (ex_lss rfl rfl rfl (qT hb5)) (uW k4 ?_)
   refine sK fun _ k6 => cT rfl (kS ?_)
   refine tK k6 (sK fun _ k7 => ?_)
   refine bB (sK fun _ k8 => ?_)
   refine rL (uM rfl ?_)
   refine uA rfl (uW k8 ?_)
   refine rL (uM rfl ?_)
   refine uM rfl (uM rfl ?_)
   refine uG (.int .u8 (i : Int)) rfl (ex_int Tryz.underlying3 Tryz.underlying5 rfl rfl (u8_in (by omega))) ?_
   refine uG (.int .u8 ((min a e + i : Nat) : Int)) rfl (ex_add rfl rfl rfl (by rw [u8_in (by omega)]; omega)) ?_
   refine xC glcallable125 rfl ((setAddC B _ _ b s (addUpto ws (min a e) i) (by rw [addUpto_len]; exact hl) (min a e + i) (by omega) hv).mono ?_) rfl
   rintro e w9 ⟨rfl, hv⟩
   refine ⟨_, rfl, uZ ?_⟩
   refine bN (tK k7 ?_)
   refine rL (uG (vI ((i + 1 : Nat) : Int)) rfl (ex_add rfl rfl rfl (by rw [i64_in (by omega)]; omega)) ?_)
   refine uM rfl (uZ ?_)
   refine then_normal ?_
   go_roundw
   case rel => exact ⟨i + 1, rfl, by omega, by rw [addUpto_succ]; exact hv⟩
   case measure => show (max a e - min a e + 1) - (((i + 1 : Nat) : Int)).toNat < (max a e - min a e + 1) - ((i : Int)).toNat; omega
  refine uG (.bool false) rfl (ex_lss rfl rfl rfl (qF hb5)) (uW k4 ?_)
  refine sK fun _ k10 => cF rfl (xE ?_)
  refine tX (tX ?_)
  refine bH ?_
  go_end0
  obtain rfl : i = max a e - min a e + 1 := by omega
  exact ⟨rfl, hv⟩
theorem inv_get {ws : W64} {i : Nat} (h : i < ws.length) : ((ws.take i).map (fun x => ~~~ x) ++ ws.drop i).getD i 0#64 = ws.getD i 0#64 := by
 rw [List.getD_eq_getElem?_getD, List.getD_eq_getElem?_getD, List.getElem?_append_right (by simp; omega)]
 simp only [List.length_map, List.length_take, Nat.min_eq_left (Nat.le_of_lt h), Nat.sub_self, List.getElem?_drop, Nat.add_zero]
theorem inv_set {ws : W64} {i : Nat} (h : i < ws.length) : ((ws.take i).map (fun x => ~~~ x) ++ ws.drop i).set i (~~~ (ws.getD i 0#64)) = (ws.take (i + 1)).map (fun x => ~~~ x) ++ ws.drop (i + 1) := by
 have hl : ((ws.take i).map (fun x => ~~~ x)).length = i := by rw [List.length_map, List.length_take, Nat.min_eq_left (Nat.le_of_lt h)]
 rw [List.set_append_right _ _ (by omega), hl, Nat.sub_self, List.drop_eq_getElem_cons h, List.set_cons_zero, List.take_succ_eq_append_getElem h, List.map_append, List.append_assoc, List.getD_eq_getElem?_getD, List.getElem?_eq_getElem h]
 rfl
theorem inv_len {ws : W64} {i : Nat} : ((ws.take i).map (fun x => ~~~ x) ++ ws.drop i).length = ws.length := by
 rw [List.length_append, List.length_map, List.length_take, List.length_drop]; omega
theorem inv_all {ws : W64} (h : ws.length = 4) : (ws.take 4).map (fun x => ~~~ x) ++ ws.drop 4 = invW ws := by
 rw [List.take_of_length_le (by omega), List.drop_eq_nil_of_le (by omega), List.append_nil]; rfl
theorem setInvertC (B : Base) (H : List Res) (w : World) (b : Nat) (s : Bool) (ws : W64) (hl : ws.length = 4) (hv : Inv B (Res.cell b (Value.bool s :: wordsV ws) 178 :: H) w) :
  Calls Tryz.prog 122 #[.pointer (some ⟨b, 1, none⟩)] w fun e w' => e = .returned (.tuple #[]) ∧ Inv B (Res.cell b (Value.bool s :: wordsV (invW ws)) 178 :: H) w' := by
 refine cW Tryz.func122 rfl Tryz.ntmps122 ?_
 simp only [al]
 refine sK fun _ k1 => rL (uM rfl ?_)
 refine uW k1 (bB ?_)
 gi_loopw [3] (fun x3 wr => ∃ (i : Nat), x3 = vI i ∧ i ≤ 4 ∧ Inv B (Res.cell b (Value.bool s :: wordsV ((ws.take i).map (fun x => ~~~ x) ++ ws.drop i)) 178 :: H) wr) (fun x3 _ => 4 - (intOf x3).toNat)
 case atStart => exact ⟨0, rfl, Nat.zero_le _, hv⟩
 case round =>
  obtain ⟨i, rfl, hi, hv⟩ := hrel
  refine sK fun _ k3 => rL ?_
  by_cases hb4 : (i : Int) < 4
  ·refine uG (.bool true) rfl (ex_lss rfl rfl rfl (qT hb4)) (uW k3 ?_)
   refine sK fun _ k5 => cT rfl (kS ?_)
   refine tK k5 (sK fun _ k6 => ?_)
   refine bB (sK fun _ k7 => ?_)
   refine rL (uM rfl ?_)
   refine uA rfl (uW k7 ?_)
   refine rW mixed [10] [0,1,2,3,4,5,6,7,8,9,10] 17 rfl (by kernel_rfl) hv ?_
   simp only [qm, opAt]
   refine dM (.pointer (some ⟨b, 1, none⟩)) rfl (dM (vI i) rfl ?_)
   refine dM (.pointer (some ⟨b, 1, none⟩)) rfl ?_
   simp only [zP, po]
   refine dM (vI i) rfl (dG (.pointer (some ⟨b, 1, none⟩)) rfl (ex_nil rfl rfl) ?_)
   refine dG (.pointer (some ⟨b, 1 + i * 1, none⟩)) rfl (ex_index rfl rfl rfl (run_idxAK (kd := .i64) (k := i) glua176 glea176 (by omega))) ?_
   simp only [zP, po]
   refine dL (.int .u64 ((ws.getD i 0#64).toNat : Int)) rfl (fun hv => ex_load rfl rfl (run_load1 glna110 (hv.load 0 (1 + i * 1) rfl (by rw [Nat.mul_one, Nat.add_comm, List.getElem?_cons_succ, wordsV_get (by rw [inv_len]; omega), inv_get (by omega)]; rfl)))) ?_
   refine dG (.int .u64 ((~~~ (ws.getD i 0#64)).toNat : Int)) rfl (ex_un rfl rfl (notB _)) (dG (.pointer (some ⟨b, 1, none⟩)) rfl (ex_nil rfl rfl) ?_)
   simp only [zP, po]
   refine dG (.pointer (some ⟨b, 1 + i * 1, none⟩)) rfl (ex_index rfl rfl rfl (run_idxAK (kd := .i64) (k := i) glua176 glea176 (by omega))) (dS rfl fun w8 hv => ?_)
   refine mem_storeAt 0 (v := wv (~~~ (ws.getD i 0#64))) (L' := (Value.bool s :: wordsV ((ws.take (i + 1)).map (fun x => ~~~ x) ++ ws.drop (i + 1)))) rfl rfl rfl rfl hv rfl glsz110 (by rw [List.length_cons, wordsV_len, inv_len]; omega) rfl rfl (by rw [Nat.mul_one, Nat.add_comm, List.set_cons_succ, wordsV_set, inv_set (by omega)]) (fun w9 hv => ?_)
   simp only [zO] at hv
   refine dW hv (dE fun w10 hv => ?_)
   simp only [zP, po]
   refine bN (tK k6 ?_)
   refine rL (uG (vI ((i + 1 : Nat) : Int)) rfl (ex_add rfl rfl rfl (by rw [i64_in (by omega)]; omega)) ?_)
   refine uM rfl (uZ ?_)
   refine then_normal ?_
   go_roundw
   case rel => exact ⟨i + 1, rfl, by omega, hv⟩
   case measure => show 4 - (((i + 1 : Nat) : Int)).toNat < 4 - ((i : Int)).toNat; omega
  refine uG (.bool false) rfl (ex_lss rfl rfl rfl (qF hb4)) (uW k3 ?_)
  refine sK fun _ k11 => cF rfl (xE ?_)
  refine tX (tX ?_)
  refine bH ?_
  go_end0
  obtain rfl : i = 4 := by omega
  rw [inv_all hl] at hv
  exact ⟨rfl, hv⟩
theorem setHasC (B : Base) (H : List Res) (w : World) (b off : Nat) (ws : W64) (hl : ws.length = 4) (hrd : Reads B [] b off (wordsV ws)) (c : Nat) (hc : c < 256) (hv : Inv B H w) :
  Calls Tryz.prog 98 #[.pointer (some ⟨b, off, none⟩), .int .u8 (c : Int)] w fun e w' => e = .returned (.bool (hasW ws c)) ∧ Inv B H w' := by
 refine cW Tryz.func98 rfl Tryz.ntmps98 ?_
 simp only [al]
 refine sK fun _ k1 => rL (uA rfl ?_)
 refine uW k1 (sK fun _ k2 => ?_)
 refine rL (uM rfl ?_)
 refine uM rfl ?_
 refine uG (.int .u8 ((c / 64 : Nat) : Int)) rfl (ex_quo (m := (c : Int)) (n := 64) rfl rfl rfl (by decide) (quo64 hc)) ?_
 refine uG (.pointer (some ⟨b, off, none⟩)) rfl (ex_nil rfl rfl) ?_
 refine uG (.pointer (some ⟨b, off + c / 64 * 1, none⟩)) rfl (ex_index rfl rfl rfl (run_idxAK (kd := .u8) (k := c / 64) glua176 glea176 (by omega))) ?_
 refine uL (.int .u64 ((ws.getD (c / 64) 0#64).toNat : Int)) rfl (run_load1 glna110 (hrd _ _ _ (Base.Le.refl _) no_res hv _ _ (by rw [Nat.mul_one]; exact wordsV_get (by omega)))) (uM rfl ?_)
 refine uG (.int .u8 ((c % 64 : Nat) : Int)) rfl (ex_rem (m := (c : Int)) (n := 64) rfl rfl rfl (by decide) rem64) ?_
 refine uG (.int .u64 ((ws.getD (c / 64) 0#64 >>> (c % 64)).toNat : Int)) rfl (ex_shr (m := ((ws.getD (c / 64) 0#64).toNat : Int)) (n := ((c % 64 : Nat) : Int)) rfl rfl rfl (by omega) (shrB (Nat.mod_lt _ (by decide)))) ?_
 refine uG (.int .u64 ((ws.getD (c / 64) 0#64 >>> (c % 64) &&& 1#64).toNat : Int)) rfl (ex_bits (m := ((ws.getD (c / 64) 0#64 >>> (c % 64)).toNat : Int)) (n := 1) rfl rfl rfl rfl (andB _)) ?_
 refine uG (.bool (hasW ws c)) rfl (ex_eql rfl rfl rfl (by unfold hasW; exact decide_eq_decide.2 one_of)) (uA rfl ?_)
 refine uW k2 (rR ?_)
 refine bR rfl rfl (⟨rfl, hv⟩)
theorem part_cells {p : Part} (h : p.ws.length = 4) : (Value.bool p.star :: wordsV p.ws) = partC p := partF_eq h
theorem glal178 : AL Tryz.prog 178 [.bool false, .int .u64 0, .int .u64 0, .int .u64 0, .int .u64 0] := fun w => by kernel_rfl
theorem glfa178_1 : FA Tryz.prog 178 1 1 := fun w b o => by kernel_rfl
theorem glwd178 : Wide Tryz.prog 178 5 := wide_of (fun w => by kernel_rfl) (by kernel_rfl)
theorem glsz178 : (Tryz.prog.info? 178).map (·.size) = some 5 := by kernel_rfl
theorem globOne (B : Base) (H : List Res) (w : World) (c : Nat) (hc : c < 256) (hv : Inv B H w) :
  Calls Tryz.prog 112 #[.int .u8 (c : Int)] w fun e w' => e = .returned (.agg (partC (oneP c)).toArray) ∧ Inv B H w' := by
 refine cW Tryz.func112 rfl Tryz.ntmps112 ?_
 simp only [al]
 refine sK fun _ k1 => rL (sl_alloc tV (wn rfl) rfl hv glal178 (fun b2 w3 hv => ?_))
 refine uW k1 (sK fun _ k4 => ?_)
 refine rL (sl_alloc tV (wn rfl) rfl hv glal178 (fun b5 w6 hv => ?_))
 refine uW k4 (sK fun _ k7 => ?_)
 refine rL (uF (.pointer (some ⟨b5, 1, none⟩)) rfl (glfa178_1 _ _ _) ?_)
 refine uM rfl ?_
 refine xC glcallable125 rfl ((setAddC B _ _ b5 false w0 rfl c hc hv).mono ?_) rfl
 rintro e w8 ⟨rfl, hv⟩
 refine ⟨_, rfl, ?_⟩
 obtain ⟨pp, hpp⟩ : ∃ q : Part, q = oneP c := ⟨_, rfl⟩
 have hpl : pp.ws.length = 4 := by rw [hpp]; first | rfl | exact addW_len
 rw [show (Value.bool false :: wordsV (addW w0 c)) = partC pp from by rw [← part_cells hpl, hpp]; rfl] at hv
 simp only [partC] at hv
 refine uW k7 (sK fun _ k9 => ?_)
 refine rL (uL (.agg #[.bool pp.star, wv (pp.ws.getD 0 0#64), wv (pp.ws.getD 1 0#64), wv (pp.ws.getD 2 0#64), wv (pp.ws.getD 3 0#64)]) rfl (lM 0 glwd178 hv rfl rfl rfl rfl) ?_)
 refine xS 1 rfl hv glsz178 rfl (by exact ⟨rfl, rfl, rfl, rfl, rfl, trivial⟩) (fun w10 hv => ?_)
 simp only [zS, zO, sp] at hv
 refine uW k9 (rR ?_)
 refine bC 1 glwd178 hv rfl rfl rfl rfl ?_
 subst hpp
 exact ⟨rfl, (hv.kp [] 0 2)⟩
theorem glcallable122 : Callable Tryz.prog 122 := cb Tryz.func122 (by kernel_rfl)
theorem globAny (B : Base) (H : List Res) (w : World) (hv : Inv B H w) :
  Calls Tryz.prog 110 #[] w fun e w' => e = .returned (.agg (partC (anyP)).toArray) ∧ Inv B H w' := by
 refine cW Tryz.func110 rfl Tryz.ntmps110 ?_
 simp only [al]
 refine sK fun _ k1 => rL (sl_alloc tV (wn rfl) rfl hv glal178 (fun b2 w3 hv => ?_))
 refine uW k1 (sK fun _ k4 => ?_)
 refine rL (sl_alloc tV (wn rfl) rfl hv glal178 (fun b5 w6 hv => ?_))
 refine uW k4 (sK fun _ k7 => ?_)
 refine rL (uF (.pointer (some ⟨b5, 1, none⟩)) rfl (glfa178_1 _ _ _) ?_)
 refine xC glcallable122 rfl ((setInvertC B _ _ b5 false w0 rfl hv).mono ?_) rfl
 rintro e w8 ⟨rfl, hv⟩
 refine ⟨_, rfl, ?_⟩
 obtain ⟨pp, hpp⟩ : ∃ q : Part, q = anyP := ⟨_, rfl⟩
 have hpl : pp.ws.length = 4 := by rw [hpp]; first | rfl | exact addW_len
 rw [show (Value.bool false :: wordsV (invW w0)) = partC pp from by rw [← part_cells hpl, hpp]; rfl] at hv
 simp only [partC] at hv
 refine uW k7 (sK fun _ k9 => ?_)
 refine rL (uL (.agg #[.bool pp.star, wv (pp.ws.getD 0 0#64), wv (pp.ws.getD 1 0#64), wv (pp.ws.getD 2 0#64), wv (pp.ws.getD 3 0#64)]) rfl (lM 0 glwd178 hv rfl rfl rfl rfl) ?_)
 refine xS 1 rfl hv glsz178 rfl (by exact ⟨rfl, rfl, rfl, rfl, rfl, trivial⟩) (fun w10 hv => ?_)
 simp only [zS, zO, sp] at hv
 refine uW k9 (rR ?_)
 refine bC 1 glwd178 hv rfl rfl rfl rfl ?_
 subst hpp
 exact ⟨rfl, (hv.kp [] 0 2)⟩
theorem globLiteral (B : Base) (H : List Res) (w : World) (p : List UInt8) (i : Nat) (hi : i < p.length) (hp : p.length ≤ 1000000) (hv : Inv B H w) :
  Calls Tryz.prog 123 #[vS p, vI i] w fun e w' => e = .returned (.tuple #[.int .u8 ((litS p i).1 : Int), vI ((litS p i).2 : Int)]) ∧ Inv B H w' := by
 refine cW Tryz.func123 rfl Tryz.ntmps123 ?_
 simp only [al]
 refine sK fun _ k1 => rL (uA rfl ?_)
 refine uA rfl (uW k1 ?_)
 refine sK fun _ k2 => sK fun _ k3 => rL (uM rfl ?_)
 refine uM rfl ?_
 obtain ⟨y, hy⟩ : ∃ y, p[i]? = some y := ⟨_, List.getElem?_eq_getElem (show i < p.length by omega)⟩
 have hyc := chr_at hy
 refine uG (.int .u8 (chr p (i) : Int)) rfl ((by rw [hyc]; exact ex_sidx0 Tryz.underlying9 rfl rfl rfl hy)) ?_
 by_cases hb4 : (chr p (i) : Int) = 92
 ·refine uG (.bool true) rfl (ex_eql rfl rfl rfl (qT hb4)) (uM rfl ?_)
  refine uM rfl ?_
  refine uG (vI ((i + 1 : Nat) : Int)) rfl (ex_add rfl rfl rfl (by rw [i64_in (by omega)]; omega)) ?_
  refine uM rfl ?_
  refine uG (vI (p.length : Int)) rfl (ex_lenStr Tryz.underlying9 rfl rfl) ?_
  by_cases hb5 : ((i + 1 : Nat) : Int) < (p.length : Int)
  ·refine uG (.bool true) rfl (ex_lss rfl rfl rfl (qT hb5)) (uK rfl ?_)
   refine uW k3 (cT rfl ?_)
   refine rL (uM rfl ?_)
   refine uG (vI ((i + 1 : Nat) : Int)) rfl (ex_add rfl rfl rfl (by rw [i64_in (by omega)]; omega)) (uA rfl ?_)
   refine uW k2 (sK fun _ k6 => ?_)
   refine rL (uM rfl ?_)
   refine uM rfl ?_
   obtain ⟨y, hy⟩ : ∃ y, p[i + 1]? = some y := ⟨_, List.getElem?_eq_getElem (show i + 1 < p.length by omega)⟩
   have hyc := chr_at hy
   refine uG (.int .u8 (chr p (i + 1) : Int)) rfl ((by rw [hyc]; exact ex_sidx0 Tryz.underlying9 rfl rfl rfl hy)) (uM rfl ?_)
   refine uG (vI ((i + 2 : Nat) : Int)) rfl (ex_add rfl rfl rfl (by rw [i64_in (by omega)]; omega)) (uA rfl ?_)
   refine uA rfl (uW k6 ?_)
   refine rR (bodyPost_ret (results_tmp2 rfl _ _ _) rfl ?_)
   have e : litS p i = (chr p (i + 1), i + 2) := if_pos ⟨by omega, by omega⟩
   rw [e]
   exact ⟨rfl, hv⟩
  refine uG (.bool false) rfl (ex_lss rfl rfl rfl (qF hb5)) (uK rfl ?_)
  refine uW k3 (cF rfl ?_)
  refine kS (tK k2 ?_)
  refine sK fun _ k7 => rL (uM rfl ?_)
  refine uM rfl ?_
  obtain ⟨y, hy⟩ : ∃ y, p[i]? = some y := ⟨_, List.getElem?_eq_getElem (show i < p.length by omega)⟩
  have hyc := chr_at hy
  refine uG (.int .u8 (chr p (i) : Int)) rfl ((by rw [hyc]; exact ex_sidx0 Tryz.underlying9 rfl rfl rfl hy)) (uM rfl ?_)
  refine uG (vI ((i + 1 : Nat) : Int)) rfl (ex_add rfl rfl rfl (by rw [i64_in (by omega)]; omega)) (uA rfl ?_)
  refine uA rfl (uW k7 ?_)
  refine rR (bodyPost_ret (results_tmp2 rfl _ _ _) rfl ?_)
  have e : litS p i = (chr p i, i + 1) := if_neg (by omega)
  rw [e]
  exact ⟨rfl, hv⟩
 refine uG (.bool false) rfl (ex_eql rfl rfl rfl (qF hb4)) (uM rfl ?_)
 iterate 5 refine uP rfl ?_
 refine uK rfl (uW k3 ?_)
 refine cF rfl (kS ?_)
 refine tK k2 (sK fun _ k8 => ?_)
 refine rL (uM rfl ?_)
 refine uM rfl ?_
 obtain ⟨y, hy⟩ : ∃ y, p[i]? = some y := ⟨_, List.getElem?_eq_getElem (show i < p.length by omega)⟩
 have hyc := chr_at hy
 refine uG (.int .u8 (chr p (i) : Int)) rfl ((by rw [hyc]; exact ex_sidx0 Tryz.underlying9 rfl rfl rfl hy)) (uM rfl ?_)
 refine uG (vI ((i + 1 : Nat) : Int)) rfl (ex_add rfl rfl rfl (by rw [i64_in (by omega)]; omega)) (uA rfl ?_)
 refine uA rfl (uW k8 ?_)
 refine rR (bodyPost_ret (results_tmp2 rfl _ _ _) rfl ?_)
 have e : litS p i = (chr p i, i + 1) := if_neg (by omega)
 rw [e]
 exact ⟨rfl, hv⟩
theorem chr_lt (p : List UInt8) (i : Nat) : chr p i < 256 := (p.getD i 0).toNat_lt
theorem litS_lt (p : List UInt8) (i : Nat) : (litS p i).1 < 256 := by unfold litS; split <;> exact chr_lt p _
theorem highS_lt (p : List UInt8) (i : Nat) {lo : Nat} (h : lo < 256) : (highS p i lo).1 < 256 := by
 unfold highS; split
 ·exact litS_lt p _
 exact h
theorem clsS_hyp {p : List UInt8} {i k0 : Nat} {neg : Bool} (hneg : neg = true ↔ (chr p i = 94 ∧ i < p.length)) (hk0 : (neg = true ∧ k0 = i + 1) ∨ (neg = false ∧ k0 = i)) : (neg = true ∧ k0 = i + 1 ∧ chr p i = 94 ∧ i < p.length) ∨ (neg = false ∧ k0 = i ∧ ¬ (chr p i = 94 ∧ i < p.length)) := by
 rcases hk0 with ⟨h1, h2⟩ | ⟨h1, h2⟩
 ·exact .inl ⟨h1, h2, hneg.1 h1⟩
 exact .inr ⟨h1, h2, fun h => by rw [hneg.2 h] at h1; cases h1⟩
theorem clsS_of {p : List UInt8} {i : Nat} {b : Bool} {j : Nat} (h : (b = true ∧ j = i + 1 ∧ chr p i = 94 ∧ i < p.length) ∨ (b = false ∧ j = i ∧ ¬ (chr p i = 94 ∧ i < p.length))) : clsS p i = classS p b j j w0 := by
 unfold clsS
 rcases h with ⟨rfl, rfl, h⟩ | ⟨rfl, rfl, h⟩
 ·rw [if_pos h]
 rw [if_neg h]
theorem gmal178 : AL Tryz.prog 178 [.bool false, .int .u64 0, .int .u64 0, .int .u64 0, .int .u64 0] := fun w => by kernel_rfl
theorem gmcallable123 : Callable Tryz.prog 123 := cb Tryz.func123 (by kernel_rfl)
theorem gmcallable124 : Callable Tryz.prog 124 := cb Tryz.func124 (by kernel_rfl)
theorem globClass (B : Base) (H : List Res) (w : World) (p : List UInt8) (hp : p.length ≤ 1000000) (i : Nat) (hi : i ≤ p.length) (hv : Inv B H w) :
  Calls Tryz.prog 111 #[vS p, vI i] w fun e w' => ∃ (pp : Part) (j : Nat) (b : Bool), e = .returned (.tuple #[.agg (partC pp).toArray, vI j, .bool b]) ∧ pp.star = false ∧ pp.ws.length = 4 ∧ ((b = true ∧ clsS p i = some (pp.ws, j)) ∨ (b = false ∧ clsS p i = none)) ∧ Inv B H w' := by
 refine cW Tryz.func111 rfl Tryz.ntmps111 ?_
 simp only [al]
 refine sK fun _ k1 => rL (sl_alloc tV (wn rfl) rfl hv gmal178 (fun b2 w3 hv => ?_))
 refine uA rfl (uA rfl ?_)
 refine uW k1 (sK fun _ k4 => ?_)
 refine rL (sl_alloc tV (wn rfl) rfl hv gmal178 (fun b5 w6 hv => ?_))
 refine uW k4 (sK fun K7 k7 => ?_)
 have hJ7 : ∀ (neg : Bool) (j12 j13 j14 j15 j16 j17 j18 j19 j20 j21 : Value) (w8 : World), (neg = true ↔ (chr p i = 94 ∧ i < p.length)) → Inv B (Res.cell b5 [.bool false, .int .u64 0, .int .u64 0, .int .u64 0, .int .u64 0] 178 :: Res.cell b2 [.bool false, .int .u64 0, .int .u64 0, .int .u64 0, .int .u64 0] 178 :: H) w8 → K7 { tmps := List.toArray (vS p :: vI i :: undef :: undef :: vP b2 :: vI 0 :: .bool false :: vP b5 :: .bool neg :: undef :: undef :: undef :: j12 :: j13 :: j14 :: j15 :: j16 :: j17 :: j18 :: j19 :: j20 :: j21 :: undef :: undef :: undef :: undef :: undef :: undef :: undef :: undef :: undef :: undef :: undef :: undef :: undef :: undef :: undef :: undef :: undef :: undef :: undef :: undef :: undef :: undef :: undef :: undef :: undef :: undef :: undef :: undef :: undef :: undef :: undef :: undef :: undef :: undef :: undef :: undef :: undef :: undef :: undef :: undef :: undef :: undef :: undef :: undef :: undef :: undef :: undef :: undef :: undef :: undef :: undef :: undef :: undef :: undef :: undef :: undef :: undef :: undef :: undef :: undef :: []), defers := [] } w8 := by
  intro neg j12 j13 j14 j15 j16 j17 j18 j19 j20 j21 w8 hneg hv
  refine k7 _ _ (sK fun K9 k9 => ?_)
  have hJ9 : ∀ (k0 : Nat) (j22 j23 j24 : Value) (w10 : World), ((neg = true ∧ k0 = i + 1) ∨ (neg = false ∧ k0 = i)) → Inv B (Res.cell b5 [.bool false, .int .u64 0, .int .u64 0, .int .u64 0, .int .u64 0] 178 :: Res.cell b2 [.bool false, .int .u64 0, .int .u64 0, .int .u64 0, .int .u64 0] 178 :: H) w10 → K9 { tmps := List.toArray (vS p :: vI k0 :: undef :: undef :: vP b2 :: vI 0 :: .bool false :: vP b5 :: .bool neg :: undef :: undef :: undef :: j12 :: j13 :: j14 :: j15 :: j16 :: j17 :: j18 :: j19 :: j20 :: j21 :: j22 :: j23 :: j24 :: undef :: undef :: undef :: undef :: undef :: undef :: undef :: undef :: undef :: undef :: undef :: undef :: undef :: undef :: undef :: undef :: undef :: undef :: undef :: undef :: undef :: undef :: undef :: undef :: undef :: undef :: undef :: undef :: undef :: undef :: undef :: undef :: undef :: undef :: undef :: undef :: undef :: undef :: undef :: undef :: undef :: undef :: undef :: undef :: undef :: undef :: undef :: undef :: undef :: undef :: undef :: undef :: undef :: undef :: undef :: undef :: undef :: []), defers := [] } w10 := by
   intro k0 j22 j23 j24 w10 hk0 hv
   refine k9 _ _ ?_
   have hk0l : k0 ≤ p.length := by
    rcases hk0 with ⟨h9, rfl⟩ | ⟨-, rfl⟩
    ·have := (hneg.1 h9).2; omega
    exact hi
   refine sK fun _ k11 => sK fun _ k12 => rL (uM rfl ?_)
   refine uA rfl (uW k12 ?_)
   refine bB ?_
   gi_loopw [1, 10, 11] (fun x1 x10 x11 wr => ∃ (k : Nat) (ws : W64), x1 = vI k ∧ ws.length = 4 ∧ k ≤ p.length ∧ classS p neg (k0) (k0) w0 = classS p neg (k0) k ws ∧ Inv B (Res.cell b5 (Value.bool false :: wordsV ws) 178 :: Res.cell b2 [.bool false, .int .u64 0, .int .u64 0, .int .u64 0, .int .u64 0] 178 :: H) wr) (fun x1 x10 x11 _ => p.length - (intOf x1).toNat)
   case atStart => exact ⟨k0, w0, rfl, rfl, by omega, rfl, ((hv.front 1 rfl).front 1 rfl)⟩
   case round =>
    obtain ⟨k, ws, rfl, hwl, hk, hcl, hv⟩ := hrel
    refine sK fun _ k14 => sK fun _ k15 => rL (uM rfl ?_)
    refine uM rfl ?_
    refine uG (vI (p.length : Int)) rfl (ex_lenStr Tryz.underlying9 rfl rfl) ?_
    by_cases hb16 : (k : Int) < (p.length : Int)
    ·refine uG (.bool true) rfl (ex_lss rfl rfl rfl (qT hb16)) (uW k15 ?_)
     refine cT rfl (kS ?_)
     refine tK k14 (bB ?_)
     refine sK fun _ k17 => sK fun _ k18 => rL (uM rfl ?_)
     refine uM rfl ?_
     obtain ⟨y19, hy19⟩ : ∃ y, p[k]? = some y := ⟨_, List.getElem?_eq_getElem (show k < p.length by omega)⟩
     have hy19c := chr_at hy19
     refine uG (.int .u8 (chr p (k) : Int)) rfl ((by rw [hy19c]; exact ex_sidx0 Tryz.underlying9 rfl rfl rfl hy19)) ?_
     by_cases hb20 : (chr p (k) : Int) = 93
     ·refine uG (.bool true) rfl (ex_eql rfl rfl rfl (qT hb20)) (uM rfl ?_)
      refine uM rfl ?_
      refine uM rfl ?_
      by_cases hb21 : (k : Int) > (k0 : Int)
      ·refine uG (.bool true) rfl (ex_gtr rfl rfl rfl (qT hb21)) (uK rfl ?_)
       refine uW k18 (cT rfl ?_)
       refine sK fun K22 k22 => ?_
       have hJ22 : ∀ (ws2 : W64) (j39 j40 j41 : Value) (w23 : World), (ws2 = (if neg then invW ws else ws)) → (ws2.length = 4) → Inv B (Res.cell b5 (Value.bool false :: wordsV ws2) 178 :: Res.cell b2 [.bool false, .int .u64 0, .int .u64 0, .int .u64 0, .int .u64 0] 178 :: H) w23 → K22 { tmps := List.toArray (vS p :: vI k :: undef :: undef :: vP b2 :: u5 :: u6 :: vP b5 :: .bool neg :: vI k0 :: u10 :: u11 :: j12 :: j13 :: j14 :: j15 :: j16 :: j17 :: j18 :: j19 :: j20 :: j21 :: j22 :: j23 :: j24 :: vI k0 :: vI k :: vS p :: vI (p.length : Int) :: .bool true :: vS p :: vI k :: .int .u8 (chr p (k) : Int) :: .bool true :: .bool true :: vI k :: vI k0 :: .bool true :: .bool true :: j39 :: j40 :: j41 :: u42 :: u43 :: u44 :: u45 :: u46 :: u47 :: u48 :: u49 :: u50 :: u51 :: u52 :: u53 :: u54 :: u55 :: u56 :: u57 :: u58 :: u59 :: u60 :: u61 :: u62 :: u63 :: u64 :: u65 :: u66 :: u67 :: u68 :: u69 :: u70 :: u71 :: u72 :: u73 :: u74 :: u75 :: u76 :: u77 :: u78 :: u79 :: u80 :: undef :: []), defers := [] } w23 := by
        intro ws2 j39 j40 j41 w23 hws2 hwl2 hv
        refine k22 _ _ (sK fun _ k24 => ?_)
        obtain ⟨pp, hpp⟩ : ∃ q : Part, q = ⟨false, ws2⟩ := ⟨_, rfl⟩
        have hpl : pp.ws.length = 4 := by rw [hpp]; exact hwl2
        rw [show (Value.bool false :: wordsV (ws2)) = partC pp from by rw [← part_cells hpl, hpp]] at hv
        simp only [partC] at hv
        refine rL (uL (.agg #[.bool pp.star, wv (pp.ws.getD 0 0#64), wv (pp.ws.getD 1 0#64), wv (pp.ws.getD 2 0#64), wv (pp.ws.getD 3 0#64)]) rfl (lM 0 glwd178 hv rfl rfl rfl rfl) ?_)
        refine uM rfl ?_
        refine uG (vI ((k + 1 : Nat) : Int)) rfl (ex_add rfl rfl rfl (by rw [i64_in (by omega)]; omega)) ?_
        refine xS 1 rfl hv glsz178 rfl (by exact ⟨rfl, rfl, rfl, rfl, rfl, trivial⟩) (fun w25 hv => ?_)
        simp only [zS, zO, sp] at hv
        refine uA rfl (uA rfl ?_)
        refine uW k24 (rR ?_)
        refine tR (bZ ?_)
        refine tR (bZ ?_)
        refine tR (bodyPost_ret (res_cell3 rfl rfl (lM 1 glwd178 hv rfl rfl rfl rfl)) rfl ?_)
        have e9 : clsS p i = some (pp.ws, k + 1) := by
         rw [clsS_of (clsS_hyp hneg hk0), hcl, classS_close p (by omega) ⟨by omega, by omega⟩, hpp, ← hws2]
        exact ⟨pp, k + 1, true, rfl, by rw [hpp], hpl, .inl ⟨rfl, e9⟩, (hv.kp [] 0 2)⟩
       refine sK fun _ k26 => rL (uM rfl ?_)
       refine uW k26 (wpIn_cond_split (t := neg) rfl (fun hc27 => ?_) (fun hc27 => ?_))
       ·refine rL (uF (.pointer (some ⟨b5, 1, none⟩)) rfl (glfa178_1 _ _ _) ?_)
        refine xC glcallable122 rfl ((setInvertC B _ _ _ false ws hwl hv).mono ?_) rfl
        rintro e w28 ⟨rfl, hv⟩
        refine ⟨_, rfl, uZ ?_⟩
        exact then_normal (hJ22 (invW ws) _ _ _ _ (by rw [hc27]; rfl) (invW_len.trans hwl) hv)
       refine kS (then_normal (hJ22 ws _ _ _ _ (by rw [hc27]; rfl) hwl hv))
      refine uG (.bool false) rfl (ex_gtr rfl rfl rfl (qF hb21)) (uK rfl ?_)
      refine uW k18 (cF rfl ?_)
      refine kS (tK k17 ?_)
      refine sK fun _ k29 => rL (uA rfl ?_)
      refine uA rfl (uW k29 ?_)
      refine sK fun _ k30 => rL (uM rfl ?_)
      refine uM rfl ?_
      refine xC gmcallable123 rfl ((globLiteral B _ _ p (k) (by omega) hp hv).mono ?_) rfl
      rintro e w31 ⟨rfl, hv⟩
      refine ⟨_, rfl, ?_⟩
      have hlg := litS_gt p (k)
      have hll := litS_le p (show k < p.length by omega)
      refine uM rfl (uE rfl ?_)
      refine uE rfl (uA rfl ?_)
      refine uA rfl (uW k30 ?_)
      refine sK fun _ k32 => rL (uM rfl ?_)
      refine uA rfl (uW k32 ?_)
      refine sK fun K33 k33 => ?_
      have hJ33 : ∀ (hh k2 : Nat) (j52 j53 j54 j55 j56 j57 j58 j59 j60 j61 j62 j63 j64 j65 j66 j67 j68 j69 j70 j71 j72 j73 j74 j75 j76 : Value) (w34 : World), (highS p (litS p k).2 (litS p k).1 = (hh, k2)) → Inv B (Res.cell b5 (Value.bool false :: wordsV ws) 178 :: Res.cell b2 [.bool false, .int .u64 0, .int .u64 0, .int .u64 0, .int .u64 0] 178 :: H) w34 → K33 { tmps := List.toArray (vS p :: vI k2 :: undef :: undef :: vP b2 :: u5 :: u6 :: vP b5 :: .bool neg :: vI k0 :: .int .u8 ((litS p (k)).1 : Int) :: .int .u8 (hh : Int) :: j12 :: j13 :: j14 :: j15 :: j16 :: j17 :: j18 :: j19 :: j20 :: j21 :: j22 :: j23 :: j24 :: vI k0 :: vI k :: vS p :: vI (p.length : Int) :: .bool true :: vS p :: vI k :: .int .u8 (chr p (k) : Int) :: .bool true :: .bool true :: vI k :: vI k0 :: .bool false :: .bool false :: u39 :: u40 :: u41 :: u42 :: u43 :: u44 :: .tuple #[.int .u8 ((litS p (k)).1 : Int), vI ((litS p (k)).2 : Int)] :: vS p :: vI k :: .tuple #[.int .u8 ((litS p (k)).1 : Int), vI ((litS p (k)).2 : Int)] :: .int .u8 ((litS p (k)).1 : Int) :: vI ((litS p (k)).2 : Int) :: .int .u8 ((litS p (k)).1 : Int) :: j52 :: j53 :: j54 :: j55 :: j56 :: j57 :: j58 :: j59 :: j60 :: j61 :: j62 :: j63 :: j64 :: j65 :: j66 :: j67 :: j68 :: j69 :: j70 :: j71 :: j72 :: j73 :: j74 :: j75 :: j76 :: u77 :: u78 :: u79 :: u80 :: undef :: []), defers := [] } w34 := by
       intro hh k2 j52 j53 j54 j55 j56 j57 j58 j59 j60 j61 j62 j63 j64 j65 j66 j67 j68 j69 j70 j71 j72 j73 j74 j75 j76 w34 hhs hv
       refine k33 _ _ ?_
       have hk2a : (litS p k).2 ≤ k2 := by have := highS_ge p (litS p k).2 (litS p k).1; rw [hhs] at this; exact this
       have hk2b : k2 ≤ p.length := by have := highS_le p (i := (litS p k).2) (lo := (litS p k).1) (by omega); rw [hhs] at this; exact this
       have hhl : hh < 256 := by have := highS_lt p (litS p k).2 (litS_lt p k); rw [hhs] at this; exact this
       refine rL (uF (.pointer (some ⟨b5, 1, none⟩)) rfl (glfa178_1 _ _ _) ?_)
       refine uM rfl (uM rfl ?_)
       refine xC gmcallable124 rfl ((setAddRangeC B _ _ _ false ws hwl ((litS p k).1) hh (litS_lt p _) hhl hv).mono ?_) rfl
       rintro e w35 ⟨rfl, hv⟩
       refine ⟨_, rfl, uZ ?_⟩
       refine bN (then_normal ?_)
       simp only [vP, vI, vS]
       go_roundw
       case rel => exact ⟨_, _, rfl, by unfold addRangeW; rw [addUpto_len]; exact hwl, by omega, by rw [hcl, classS_step p (by omega) (by omega), hhs], ((hv.front 1 rfl).front 1 rfl)⟩
       case measure => show p.length - (((k2 : Nat) : Int)).toNat < p.length - ((k : Int)).toNat; omega
      refine sK fun _ k36 => rL (uM rfl ?_)
      refine uG (vI (((litS p (k)).2 + 1 : Nat) : Int)) rfl (ex_add rfl rfl rfl (by rw [i64_in (by omega)]; omega)) (uM rfl ?_)
      refine uG (vI (p.length : Int)) rfl (ex_lenStr Tryz.underlying9 rfl rfl) ?_
      by_cases hb37 : (((litS p (k)).2 + 1 : Nat) : Int) < (p.length : Int)
      ·refine uG (.bool true) rfl (ex_lss rfl rfl rfl (qT hb37)) (uM rfl ?_)
       refine uM rfl ?_
       refine uM rfl ?_
       obtain ⟨y38, hy38⟩ : ∃ y, p[(litS p k).2]? = some y := ⟨_, List.getElem?_eq_getElem (show (litS p k).2 < p.length by omega)⟩
       have hy38c := chr_at hy38
       refine uG (.int .u8 (chr p ((litS p k).2) : Int)) rfl ((by rw [hy38c]; exact ex_sidx0 Tryz.underlying9 rfl rfl rfl hy38)) ?_
       by_cases hb39 : (chr p ((litS p k).2) : Int) = 45
       ·refine uG (.bool true) rfl (ex_eql rfl rfl rfl (qT hb39)) (uK rfl ?_)
        refine uM rfl ?_
        refine uM rfl ?_
        refine uM rfl ?_
        refine uG (vI (((litS p (k)).2 + 1 : Nat) : Int)) rfl (ex_add rfl rfl rfl (by rw [i64_in (by omega)]; omega)) ?_
        obtain ⟨y40, hy40⟩ : ∃ y, p[(litS p k).2 + 1]? = some y := ⟨_, List.getElem?_eq_getElem (show (litS p k).2 + 1 < p.length by omega)⟩
        have hy40c := chr_at hy40
        refine uG (.int .u8 (chr p ((litS p k).2 + 1) : Int)) rfl ((by rw [hy40c]; exact ex_sidx0 Tryz.underlying9 rfl rfl rfl hy40)) ?_
        by_cases hb41 : (chr p ((litS p k).2 + 1) : Int) ≠ 93
        ·refine uG (.bool true) rfl (ex_neq rfl rfl rfl (qT hb41)) (uK rfl ?_)
         refine uW k36 (cT rfl ?_)
         refine rL (uM rfl ?_)
         refine uM rfl ?_
         refine uG (vI (((litS p (k)).2 + 1 : Nat) : Int)) rfl (ex_add rfl rfl rfl (by rw [i64_in (by omega)]; omega)) ?_
         refine xC gmcallable123 rfl ((globLiteral B _ _ p (((litS p (k)).2 + 1 : Nat)) (by omega) hp hv).mono ?_) rfl
         rintro e w42 ⟨rfl, hv⟩
         refine ⟨_, rfl, ?_⟩
         have hlg2 := litS_gt p (((litS p (k)).2 + 1 : Nat))
         have hll2 := litS_le p (show ((litS p (k)).2 + 1 : Nat) < p.length by omega)
         refine uM rfl (uE rfl ?_)
         refine uE rfl (uA rfl ?_)
         refine uA rfl (uZ ?_)
         exact then_normal (hJ33 ((litS p (((litS p (k)).2 + 1 : Nat))).1) ((litS p (((litS p (k)).2 + 1 : Nat))).2) _ _ _ _ _ _ _ _ _ _ _ _ _ _ _ _ _ _ _ _ _ _ _ _ _ _ (if_pos ⟨by omega, by omega, by omega⟩) hv)
        refine uG (.bool false) rfl (ex_neq rfl rfl rfl (qF hb41)) (uK rfl ?_)
        refine uW k36 (cF rfl ?_)
        refine kS (then_normal (hJ33 ((litS p (k)).1) ((litS p (k)).2) _ _ _ _ _ _ _ _ _ _ _ _ _ _ _ _ _ _ _ _ _ _ _ _ _ _ (if_neg (by omega)) hv))
       refine uG (.bool false) rfl (ex_eql rfl rfl rfl (qF hb39)) (uK rfl ?_)
       refine uM rfl ?_
       iterate 5 refine uP rfl ?_
       refine uK rfl (uW k36 ?_)
       refine cF rfl (kS ?_)
       exact then_normal (hJ33 ((litS p (k)).1) ((litS p (k)).2) _ _ _ _ _ _ _ _ _ _ _ _ _ _ _ _ _ _ _ _ _ _ _ _ _ _ (if_neg (by omega)) hv)
      refine uG (.bool false) rfl (ex_lss rfl rfl rfl (qF hb37)) (uM rfl ?_)
      iterate 4 refine uP rfl ?_
      refine uK rfl (uM rfl ?_)
      iterate 5 refine uP rfl ?_
      refine uK rfl (uW k36 ?_)
      refine cF rfl (kS ?_)
      exact then_normal (hJ33 ((litS p (k)).1) ((litS p (k)).2) _ _ _ _ _ _ _ _ _ _ _ _ _ _ _ _ _ _ _ _ _ _ _ _ _ _ (if_neg (by omega)) hv)
     refine uG (.bool false) rfl (ex_eql rfl rfl rfl (qF hb20)) (uM rfl ?_)
     iterate 3 refine uP rfl ?_
     refine uK rfl (uW k18 ?_)
     refine cF rfl (kS ?_)
     refine tK k17 (sK fun _ k43 => ?_)
     refine rL (uA rfl ?_)
     refine uA rfl (uW k43 ?_)
     refine sK fun _ k44 => rL (uM rfl ?_)
     refine uM rfl ?_
     refine xC gmcallable123 rfl ((globLiteral B _ _ p (k) (by omega) hp hv).mono ?_) rfl
     rintro e w45 ⟨rfl, hv⟩
     refine ⟨_, rfl, ?_⟩
     have hlg := litS_gt p (k)
     have hll := litS_le p (show k < p.length by omega)
     refine uM rfl (uE rfl ?_)
     refine uE rfl (uA rfl ?_)
     refine uA rfl (uW k44 ?_)
     refine sK fun _ k46 => rL (uM rfl ?_)
     refine uA rfl (uW k46 ?_)
     refine sK fun K47 k47 => ?_
     have hJ47 : ∀ (hh k2 : Nat) (j52 j53 j54 j55 j56 j57 j58 j59 j60 j61 j62 j63 j64 j65 j66 j67 j68 j69 j70 j71 j72 j73 j74 j75 j76 : Value) (w48 : World), (highS p (litS p k).2 (litS p k).1 = (hh, k2)) → Inv B (Res.cell b5 (Value.bool false :: wordsV ws) 178 :: Res.cell b2 [.bool false, .int .u64 0, .int .u64 0, .int .u64 0, .int .u64 0] 178 :: H) w48 → K47 { tmps := List.toArray (vS p :: vI k2 :: undef :: undef :: vP b2 :: u5 :: u6 :: vP b5 :: .bool neg :: vI k0 :: .int .u8 ((litS p (k)).1 : Int) :: .int .u8 (hh : Int) :: j12 :: j13 :: j14 :: j15 :: j16 :: j17 :: j18 :: j19 :: j20 :: j21 :: j22 :: j23 :: j24 :: vI k0 :: vI k :: vS p :: vI (p.length : Int) :: .bool true :: vS p :: vI k :: .int .u8 (chr p (k) : Int) :: .bool false :: .bool false :: undef :: undef :: undef :: .bool false :: u39 :: u40 :: u41 :: u42 :: u43 :: u44 :: .tuple #[.int .u8 ((litS p (k)).1 : Int), vI ((litS p (k)).2 : Int)] :: vS p :: vI k :: .tuple #[.int .u8 ((litS p (k)).1 : Int), vI ((litS p (k)).2 : Int)] :: .int .u8 ((litS p (k)).1 : Int) :: vI ((litS p (k)).2 : Int) :: .int .u8 ((litS p (k)).1 : Int) :: j52 :: j53 :: j54 :: j55 :: j56 :: j57 :: j58 :: j59 :: j60 :: j61 :: j62 :: j63 :: j64 :: j65 :: j66 :: j67 :: j68 :: j69 :: j70 :: j71 :: j72 :: j73 :: j74 :: j75 :: j76 :: u77 :: u78 :: u79 :: u80 :: undef :: []), defers := [] } w48 := by
      intro hh k2 j52 j53 j54 j55 j56 j57 j58 j59 j60 j61 j62 j63 j64 j65 j66 j67 j68 j69 j70 j71 j72 j73 j74 j75 j76 w48 hhs hv
      refine k47 _ _ ?_
      have hk2a : (litS p k).2 ≤ k2 := by have := highS_ge p (litS p k).2 (litS p k).1; rw [hhs] at this; exact this
      have hk2b : k2 ≤ p.length := by have := highS_le p (i := (litS p k).2) (lo := (litS p k).1) (by omega); rw [hhs] at this; exact this
      have hhl : hh < 256 := by have := highS_lt p (litS p k).2 (litS_lt p k); rw [hhs] at this; exact this
      refine rL (uF (.pointer (some ⟨b5, 1, none⟩)) rfl (glfa178_1 _ _ _) ?_)
      refine uM rfl (uM rfl ?_)
      refine xC gmcallable124 rfl ((setAddRangeC B _ _ _ false ws hwl ((litS p k).1) hh (litS_lt p _) hhl hv).mono ?_) rfl
      rintro e w49 ⟨rfl, hv⟩
      refine ⟨_, rfl, uZ ?_⟩
      refine bN (then_normal ?_)
      simp only [vP, vI, vS]
      go_roundw
      case rel => exact ⟨_, _, rfl, by unfold addRangeW; rw [addUpto_len]; exact hwl, by omega, by rw [hcl, classS_step p (by omega) (by omega), hhs], ((hv.front 1 rfl).front 1 rfl)⟩
      case measure => show p.length - (((k2 : Nat) : Int)).toNat < p.length - ((k : Int)).toNat; omega
     refine sK fun _ k50 => rL (uM rfl ?_)
     refine uG (vI (((litS p (k)).2 + 1 : Nat) : Int)) rfl (ex_add rfl rfl rfl (by rw [i64_in (by omega)]; omega)) (uM rfl ?_)
     refine uG (vI (p.length : Int)) rfl (ex_lenStr Tryz.underlying9 rfl rfl) ?_
     by_cases hb51 : (((litS p (k)).2 + 1 : Nat) : Int) < (p.length : Int)
     ·refine uG (.bool true) rfl (ex_lss rfl rfl rfl (qT hb51)) (uM rfl ?_)
      refine uM rfl ?_
      refine uM rfl ?_
      obtain ⟨y52, hy52⟩ : ∃ y, p[(litS p k).2]? = some y := ⟨_, List.getElem?_eq_getElem (show (litS p k).2 < p.length by omega)⟩
      have hy52c := chr_at hy52
      refine uG (.int .u8 (chr p ((litS p k).2) : Int)) rfl ((by rw [hy52c]; exact ex_sidx0 Tryz.underlying9 rfl rfl rfl hy52)) ?_
      by_cases hb53 : (chr p ((litS p k).2) : Int) = 45
      ·refine uG (.bool true) rfl (ex_eql rfl rfl rfl (qT hb53)) (uK rfl ?_)
       refine uM rfl ?_
       refine uM rfl ?_
       refine uM rfl ?_
       refine uG (vI (((litS p (k)).2 + 1 : Nat) : Int)) rfl (ex_add rfl rfl rfl (by rw [i64_in (by omega)]; omega)) ?_
       obtain ⟨y54, hy54⟩ : ∃ y, p[(litS p k).2 + 1]? = some y := ⟨_, List.getElem?_eq_getElem (show (litS p k).2 + 1 < p.length by omega)⟩
       have hy54c := chr_at hy54
       refine uG (.int .u8 (chr p ((litS p k).2 + 1) : Int)) rfl ((by rw [hy54c]; exact ex_sidx0 Tryz.underlying9 rfl rfl rfl hy54)) ?_
       by_cases hb55 : (chr p ((litS p k).2 + 1) : Int) ≠ 93
       ·refine uG (.bool true) rfl (ex_neq rfl rfl rfl (qT hb55)) (uK rfl ?_)
        refine uW k50 (cT rfl ?_)
        refine rL (uM rfl ?_)
        refine uM rfl ?_
        refine uG (vI (((litS p (k)).2 + 1 : Nat) : Int)) rfl (ex_add rfl rfl rfl (by rw [i64_in (by omega)]; omega)) ?_
        refine xC gmcallable123 rfl ((globLiteral B _ _ p (((litS p (k)).2 + 1 : Nat)) (by omega) hp hv).mono ?_) rfl
        rintro e w56 ⟨rfl, hv⟩
        refine ⟨_, rfl, ?_⟩
        have hlg2 := litS_gt p (((litS p (k)).2 + 1 : Nat))
        have hll2 := litS_le p (show ((litS p (k)).2 + 1 : Nat) < p.length by omega)
        refine uM rfl (uE rfl ?_)
        refine uE rfl (uA rfl ?_)
        refine uA rfl (uZ ?_)
        exact then_normal (hJ47 ((litS p (((litS p (k)).2 + 1 : Nat))).1) ((litS p (((litS p (k)).2 + 1 : Nat))).2) _ _ _ _ _ _ _ _ _ _ _ _ _ _ _ _ _ _ _ _ _ _ _ _ _ _ (if_pos ⟨by omega, by omega, by omega⟩) hv)
       refine uG (.bool false) rfl (ex_neq rfl rfl rfl (qF hb55)) (uK rfl ?_)
       refine uW k50 (cF rfl ?_)
       refine kS (then_normal (hJ47 ((litS p (k)).1) ((litS p (k)).2) _ _ _ _ _ _ _ _ _ _ _ _ _ _ _ _ _ _ _ _ _ _ _ _ _ _ (if_neg (by omega)) hv))
      refine uG (.bool false) rfl (ex_eql rfl rfl rfl (qF hb53)) (uK rfl ?_)
      refine uM rfl ?_
      iterate 5 refine uP rfl ?_
      refine uK rfl (uW k50 ?_)
      refine cF rfl (kS ?_)
      exact then_normal (hJ47 ((litS p (k)).1) ((litS p (k)).2) _ _ _ _ _ _ _ _ _ _ _ _ _ _ _ _ _ _ _ _ _ _ _ _ _ _ (if_neg (by omega)) hv)
     refine uG (.bool false) rfl (ex_lss rfl rfl rfl (qF hb51)) (uM rfl ?_)
     iterate 4 refine uP rfl ?_
     refine uK rfl (uM rfl ?_)
     iterate 5 refine uP rfl ?_
     refine uK rfl (uW k50 ?_)
     refine cF rfl (kS ?_)
     exact then_normal (hJ47 ((litS p (k)).1) ((litS p (k)).2) _ _ _ _ _ _ _ _ _ _ _ _ _ _ _ _ _ _ _ _ _ _ _ _ _ _ (if_neg (by omega)) hv)
    refine uG (.bool false) rfl (ex_lss rfl rfl rfl (qF hb16)) (uW k15 ?_)
    refine cF rfl (xE ?_)
    refine tX (tX ?_)
    refine bH (tK k11 ?_)
    refine sK fun _ k57 => rL (uG (.agg #[.bool false, .int .u64 0, .int .u64 0, .int .u64 0, .int .u64 0]) rfl (ex_buildN (vs := #[]) rfl (by simp only [List.map_toArray, List.map_nil]) (by kernel_rfl)) ?_)
    refine xS 1 rfl hv glsz178 rfl (by exact ⟨rfl, rfl, rfl, rfl, rfl, trivial⟩) (fun w58 hv => ?_)
    simp only [zS, zO, sp] at hv
    refine uA rfl (uA rfl ?_)
    refine uW k57 (rR ?_)
    refine bodyPost_ret (res_cell3 rfl rfl (lM 1 glwd178 hv rfl rfl rfl rfl)) rfl ?_
    have e9 : clsS p i = none := by
     rw [clsS_of (clsS_hyp hneg hk0), hcl, classS_end p (by omega)]
    exact ⟨⟨false, w0⟩, 0, false, rfl, rfl, rfl, .inr ⟨rfl, e9⟩, (hv.kp [] 0 2)⟩
  refine sK fun _ k59 => rL (uM rfl ?_)
  refine uW k59 (wpIn_cond_split (t := neg) rfl (fun hc60 => ?_) (fun hc60 => ?_))
  ·refine rL (uM rfl ?_)
   refine uG (vI ((i + 1 : Nat) : Int)) rfl (ex_add rfl rfl rfl (by rw [i64_in (by omega)]; omega)) (uA rfl ?_)
   refine uZ (then_normal (hJ9 (i + 1 : Nat) _ _ _ _ (.inl ⟨hc60, rfl⟩) hv))
  refine kS (then_normal (hJ9 i _ _ _ _ (.inr ⟨hc60, rfl⟩) hv))
 have hw0 : ([.bool false, .int .u64 0, .int .u64 0, .int .u64 0, .int .u64 0]) = Value.bool false :: wordsV w0 := rfl
 rw [hw0] at hv
 refine rL (uM rfl ?_)
 refine uM rfl ?_
 refine uG (vI (p.length : Int)) rfl (ex_lenStr Tryz.underlying9 rfl rfl) ?_
 by_cases hb61 : (i : Int) < (p.length : Int)
 ·refine uG (.bool true) rfl (ex_lss rfl rfl rfl (qT hb61)) (uM rfl ?_)
  refine uM rfl ?_
  refine uM rfl ?_
  obtain ⟨y62, hy62⟩ : ∃ y, p[i]? = some y := ⟨_, List.getElem?_eq_getElem (show i < p.length by omega)⟩
  have hy62c := chr_at hy62
  refine uG (.int .u8 (chr p (i) : Int)) rfl ((by rw [hy62c]; exact ex_sidx0 Tryz.underlying9 rfl rfl rfl hy62)) ?_
  by_cases hb63 : (chr p (i) : Int) = 94
  ·refine uG (.bool true) rfl (ex_eql rfl rfl rfl (qT hb63)) (uK rfl ?_)
   refine uA rfl (uZ ?_)
   exact then_normal (hJ7 true _ _ _ _ _ _ _ _ _ _ _ (⟨fun _ => ⟨by omega, by omega⟩, fun _ => rfl⟩) hv)
  refine uG (.bool false) rfl (ex_eql rfl rfl rfl (qF hb63)) (uK rfl ?_)
  refine uA rfl (uZ ?_)
  exact then_normal (hJ7 false _ _ _ _ _ _ _ _ _ _ _ (⟨fun h9 => (by cases h9), fun h9 => (by omega)⟩) hv)
 refine uG (.bool false) rfl (ex_lss rfl rfl rfl (qF hb61)) (uM rfl ?_)
 iterate 4 refine uP rfl ?_
 refine uK rfl (uA rfl ?_)
 refine uZ (then_normal (hJ7 false _ _ _ _ _ _ _ _ _ _ _ (⟨fun h9 => (by cases h9), fun h9 => (by omega)⟩) hv))
theorem gdmk178 : (Tryz.prog.info? 178).map (fun i => (i.zero, i.size, i.bytes)) = some (some (.agg #[.bool false, .int .u64 0, .int .u64 0, .int .u64 0, .int .u64 0]), 5, 40) := by kernel_rfl
theorem gdel173 : Elem Tryz.prog 173 178 (.agg #[.bool false, .int .u64 0, .int .u64 0, .int .u64 0, .int .u64 0]) 5 40 := elem_of Tryz.underlying173 gdmk178 (by rfl) (by decide)
theorem gdcallable110 : Callable Tryz.prog 110 := cb Tryz.func110 (by kernel_rfl)
theorem gdcallable111 : Callable Tryz.prog 111 := cb Tryz.func111 (by kernel_rfl)
theorem gdal178 : AL Tryz.prog 178 [.bool false, .int .u64 0, .int .u64 0, .int .u64 0, .int .u64 0] := fun w => by kernel_rfl
theorem gdcallable112 : Callable Tryz.prog 112 := cb Tryz.func112 (by kernel_rfl)
theorem globDivide (B : Base) (H : List Res) (w : World) (p : List UInt8) (hp : p.length ≤ 1000000) (hv : Inv B H w) :
  Calls Tryz.prog 97 #[vS p] w fun e' w' => ∃ D ra rc q, B.Le D ∧ e' = .returned (.slice ra q.length rc) ∧ divS p true 0 = q ∧ q.length ≤ p.length ∧ PartsOk q ∧ SliceOk ra q.length rc ∧ RdV D [] ra (q.flatMap partC) ∧ Inv D H w' := by
 refine cW Tryz.func97 rfl Tryz.ntmps97 ?_
 simp only [al]
 refine sK fun _ k1 => rL (uA rfl ?_)
 refine uW k1 (sK fun _ k2 => ?_)
 refine rL (uA rfl ?_)
 refine uW k2 (sK fun _ k3 => ?_)
 refine rL (uA rfl ?_)
 refine uW k3 (sK fun _ k4 => ?_)
 refine sK fun _ k5 => rL (uA rfl ?_)
 refine uW k5 (bB ?_)
 gi_loopw [3, 4, 5] (fun x3 x4 x5 wr => ∃ (i : Nat) (q : List Part) (e : Bool) (ra : Option Addr) (rc : Nat), x3 = .slice ra q.length rc ∧ x4 = .bool e ∧ x5 = vI i ∧ i ≤ p.length ∧ q.length ≤ i ∧ PartsOk q ∧ divS p true 0 = q ++ divS p e i ∧ Inv B (Res.row 178 5 (.slice ra q.length rc) q.length (q.flatMap partC) :: H) wr) (fun x3 x4 x5 _ => p.length - (intOf x5).toNat)
 case atStart => exact ⟨0, [], true, none, 0, rfl, rfl, rfl, Nat.zero_le _, Nat.le_refl _, (fun x h => (by cases h)), rfl, hv.rowNil 178 5⟩
 case round =>
  obtain ⟨i, q, e, ra, rc, rfl, rfl, rfl, hi, hq, hpo, hdv, hv⟩ := hrel
  refine sK fun _ k7 => sK fun _ k8 => rL (uM rfl ?_)
  refine uM rfl ?_
  refine uG (vI (p.length : Int)) rfl (ex_lenStr Tryz.underlying9 rfl rfl) ?_
  by_cases hb9 : (i : Int) < (p.length : Int)
  ·refine uG (.bool true) rfl (ex_lss rfl rfl rfl (qT hb9)) (uW k8 ?_)
   refine cT rfl (kS ?_)
   refine tK k7 (bB ?_)
   refine sK fun _ k10 => rL (uM rfl ?_)
   refine uM rfl ?_
   obtain ⟨y11, hy11⟩ : ∃ y, p[i]? = some y := ⟨_, List.getElem?_eq_getElem (show i < p.length by omega)⟩
   have hy11c := chr_at hy11
   refine uG (.int .u8 (chr p (i) : Int)) rfl ((by rw [hy11c]; exact ex_sidx0 Tryz.underlying9 rfl rfl rfl hy11)) (uA rfl ?_)
   refine uW k10 (sK fun _ k12 => ?_)
   refine rL (uM rfl ?_)
   refine uG (vI ((i + 1 : Nat) : Int)) rfl (ex_add rfl rfl rfl (by rw [i64_in (by omega)]; omega)) (uA rfl ?_)
   refine uW k12 (bB ?_)
   refine sK fun _ k13 => rL (uM rfl ?_)
   by_cases hb14 : (chr p (i) : Int) = 42
   ·refine uG (.bool true) rfl (ex_eql rfl rfl rfl (qT hb14)) (uA rfl ?_)
    refine uW k13 (cT rfl ?_)
    refine rL (uM rfl ?_)
    refine uG (.agg #[.bool true, .int .u64 0, .int .u64 0, .int .u64 0, .int .u64 0]) rfl (ex_buildN (vs := #[(0, .bool true)]) rfl (by simp only [List.map_toArray, List.map_cons, List.map_nil]; rfl) (by kernel_rfl)) ?_
    refine sl_rowAgg (L := [.bool true, .int .u64 0, .int .u64 0, .int .u64 0, .int .u64 0]) tV (wn rfl) rfl rfl hv gdel173 rfl (by decide) (fun b15 w16 hv => ?_)
    simp only [zP, po]
    replace hv := hv.front 1 rfl
    simp only [eS, eZ] at hv
    refine sl_append (news := [.bool true, .int .u64 0, .int .u64 0, .int .u64 0, .int .u64 0]) tV (wn rfl) rfl rfl rfl gdel173 hv (ok_full (by omega)) rfl (rd_all (hv.get 1 rfl)) (by intro u hu; simp only [List.mem_cons, List.not_mem_nil, or_false] at hu; rcases hu with rfl | rfl | rfl | rfl | rfl <;> rfl) (by unfold maxLen; omega) (by omega) (fun rv17 w20 hv => ?_)
    obtain ⟨ra18, rc19, rfl⟩ := row_slice hv.head
    refine uA rfl (uZ ?_)
    refine bN (bN ?_)
    refine then_normal ?_
    go_roundw
    case rel => exact ⟨i + 1, q ++ [starP], e, _, _, by rw [List.length_append, List.length_singleton], rfl, rfl, by omega, by rw [List.length_append, List.length_singleton]; omega, fun x9 h9 => (List.mem_append.1 h9).elim (hpo x9) (fun h8 => by rw [List.mem_singleton.1 h8]; exact rfl), by rw [hdv, divS_star (by omega) (by omega), List.append_assoc]; rfl, by rw [List.length_append, List.length_singleton, ← parts_snoc]; exact (hv.kp [] 1 1)⟩
    case measure => show p.length - ((i + 1 : Nat) : Int).toNat < p.length - ((i : Int)).toNat; omega
   refine uG (.bool false) rfl (ex_eql rfl rfl rfl (qF hb14)) (uA rfl ?_)
   refine uW k13 (cF rfl ?_)
   refine sK fun _ k21 => rL (uM rfl ?_)
   by_cases hb22 : (chr p (i) : Int) = 63
   ·refine uG (.bool true) rfl (ex_eql rfl rfl rfl (qT hb22)) (uA rfl ?_)
    refine uW k21 (cT rfl ?_)
    refine rL (uM rfl ?_)
    refine xC gdcallable110 rfl ((globAny B _ _ hv).mono ?_) rfl
    rintro e w23 ⟨rfl, hv⟩
    refine ⟨_, rfl, ?_⟩
    simp only [zP, po]
    refine sl_rowAgg (L := [.bool anyP.star, wv (anyP.ws.getD 0 0#64), wv (anyP.ws.getD 1 0#64), wv (anyP.ws.getD 2 0#64), wv (anyP.ws.getD 3 0#64)]) tV (wn rfl) rfl rfl hv gdel173 rfl (by decide) (fun b24 w25 hv => ?_)
    simp only [zP, po]
    replace hv := hv.front 1 rfl
    simp only [eS, eZ] at hv
    refine sl_append (news := [.bool anyP.star, wv (anyP.ws.getD 0 0#64), wv (anyP.ws.getD 1 0#64), wv (anyP.ws.getD 2 0#64), wv (anyP.ws.getD 3 0#64)]) tV (wn rfl) rfl rfl rfl gdel173 hv (ok_full (by omega)) rfl (rd_all (hv.get 1 rfl)) (by intro u hu; simp only [List.mem_cons, List.not_mem_nil, or_false] at hu; rcases hu with rfl | rfl | rfl | rfl | rfl <;> rfl) (by unfold maxLen; omega) (by omega) (fun rv26 w29 hv => ?_)
    obtain ⟨ra27, rc28, rfl⟩ := row_slice hv.head
    refine uA rfl (uZ ?_)
    refine bN (bN ?_)
    refine then_normal ?_
    go_roundw
    case rel => exact ⟨i + 1, q ++ [anyP], e, _, _, by rw [List.length_append, List.length_singleton], rfl, rfl, by omega, by rw [List.length_append, List.length_singleton]; omega, fun x9 h9 => (List.mem_append.1 h9).elim (hpo x9) (fun h8 => by rw [List.mem_singleton.1 h8]; exact invW_len), by rw [hdv, divS_any (by omega) (by omega), List.append_assoc]; rfl, by rw [List.length_append, List.length_singleton, ← parts_snoc]; exact (hv.kp [] 1 1)⟩
    case measure => show p.length - ((i + 1 : Nat) : Int).toNat < p.length - ((i : Int)).toNat; omega
   refine uG (.bool false) rfl (ex_eql rfl rfl rfl (qF hb22)) (uA rfl ?_)
   refine uW k21 (cF rfl ?_)
   refine sK fun _ k30 => rL (uM rfl ?_)
   by_cases hb31 : (chr p (i) : Int) = 91
   ·refine uG (.bool true) rfl (ex_eql rfl rfl rfl (qT hb31)) (uM rfl ?_)
    refine uM rfl (uK rfl ?_)
    refine uA rfl (uW k30 ?_)
    refine wpIn_cond_split (t := e) rfl (fun hc32 => ?_) (fun hc32 => ?_)
    ·refine sK fun _ k33 => rL (uM rfl ?_)
     refine uM rfl ?_
     refine xC gdcallable111 rfl ((globClass B _ _ p hp (i + 1) (by omega) hv).mono ?_) rfl
     rintro e w34 ⟨pp, j, b, rfl, hps, hpl, hcl, hv⟩
     refine ⟨_, rfl, ?_⟩
     rcases hcl with ⟨rfl, hcl⟩ | ⟨rfl, hcl⟩
     ·have hjl := clsS_le p hcl
      refine uM rfl (uE rfl ?_)
      refine uE rfl (uE rfl ?_)
      refine sl_alloc tV (wn rfl) rfl hv gdal178 (fun b35 w36 hv => ?_)
      simp only [zP, po]
      refine xS 0 rfl hv glsz178 rfl (by exact ⟨rfl, rfl, rfl, rfl, rfl, trivial⟩) (fun w37 hv => ?_)
      simp only [zO] at hv
      refine uA rfl (uA rfl ?_)
      refine uW k33 (sK fun _ k38 => ?_)
      refine sK fun _ k39 => rL (uM rfl ?_)
      refine uG (.bool false) rfl (ex_not rfl rfl rfl) (uW k39 ?_)
      refine cF rfl (kS ?_)
      refine tK k38 (sK fun _ k40 => ?_)
      refine rL (uM rfl ?_)
      refine uL (.agg #[.bool pp.star, wv (pp.ws.getD 0 0#64), wv (pp.ws.getD 1 0#64), wv (pp.ws.getD 2 0#64), wv (pp.ws.getD 3 0#64)]) rfl (lM 0 glwd178 hv rfl rfl rfl rfl) ?_
      refine sl_rowAgg (L := [.bool pp.star, wv (pp.ws.getD 0 0#64), wv (pp.ws.getD 1 0#64), wv (pp.ws.getD 2 0#64), wv (pp.ws.getD 3 0#64)]) tV (wn rfl) rfl rfl hv gdel173 rfl (by decide) (fun b41 w42 hv => ?_)
      simp only [zP, po]
      replace hv := hv.front 2 rfl
      simp only [eS, eZ] at hv
      refine sl_append (news := [.bool pp.star, wv (pp.ws.getD 0 0#64), wv (pp.ws.getD 1 0#64), wv (pp.ws.getD 2 0#64), wv (pp.ws.getD 3 0#64)]) tV (wn rfl) rfl rfl rfl gdel173 hv (ok_full (by omega)) rfl (rd_all (hv.get 1 rfl)) (by intro u hu; simp only [List.mem_cons, List.not_mem_nil, or_false] at hu; rcases hu with rfl | rfl | rfl | rfl | rfl <;> rfl) (by unfold maxLen; omega) (by omega) (fun rv43 w46 hv => ?_)
      obtain ⟨ra44, rc45, rfl⟩ := row_slice hv.head
      refine uA rfl (uW k40 ?_)
      refine rL (uM rfl ?_)
      refine uA rfl (uZ ?_)
      refine bN (bN ?_)
      refine then_normal ?_
      go_roundw
      case rel => exact ⟨j, q ++ [pp], e, _, _, by rw [List.length_append, List.length_singleton], rfl, rfl, by omega, by rw [List.length_append, List.length_singleton]; omega, fun x9 h9 => (List.mem_append.1 h9).elim (hpo x9) (fun h8 => by rw [List.mem_singleton.1 h8]; exact hpl), by rw [hdv, divS_class (by omega) (by omega) hc32 hcl, List.append_assoc]; rw [show pp = (⟨false, pp.ws⟩ : Part) from by cases pp; simp only at hps; rw [hps]]; rfl, by rw [List.length_append, List.length_singleton, ← parts_snoc]; exact (hv.kp [] 1 2)⟩
      case measure => show p.length - ((j : Nat) : Int).toNat < p.length - ((i : Int)).toNat; omega
     refine uM rfl (uE rfl ?_)
     refine uE rfl (uE rfl ?_)
     refine sl_alloc tV (wn rfl) rfl hv gdal178 (fun b47 w48 hv => ?_)
     simp only [zP, po]
     refine xS 0 rfl hv glsz178 rfl (by exact ⟨rfl, rfl, rfl, rfl, rfl, trivial⟩) (fun w49 hv => ?_)
     simp only [zO] at hv
     refine uA rfl (uA rfl ?_)
     refine uW k33 (sK fun _ k50 => ?_)
     refine sK fun _ k51 => rL (uM rfl ?_)
     refine uG (.bool true) rfl (ex_not rfl rfl rfl) (uW k51 ?_)
     refine cT rfl (sK fun _ k52 => ?_)
     refine rL (uA rfl ?_)
     refine uW k52 (sK fun _ k53 => ?_)
     refine rL (uM rfl ?_)
     refine uM rfl ?_
     refine xC gdcallable112 rfl ((globOne B _ _ (chr p (i)) (chr_lt p _) hv).mono ?_) rfl
     rintro e w54 ⟨rfl, hv⟩
     refine ⟨_, rfl, ?_⟩
     simp only [zP, po]
     refine sl_rowAgg (L := [.bool ((oneP (chr p (i))).star), wv ((oneP (chr p (i))).ws.getD 0 0#64), wv ((oneP (chr p (i))).ws.getD 1 0#64), wv ((oneP (chr p (i))).ws.getD 2 0#64), wv ((oneP (chr p (i))).ws.getD 3 0#64)]) tV (wn rfl) rfl rfl hv gdel173 rfl (by decide) (fun b55 w56 hv => ?_)
     simp only [zP, po]
     replace hv := hv.front 2 rfl
     simp only [eS, eZ] at hv
     refine sl_append (news := [.bool ((oneP (chr p (i))).star), wv ((oneP (chr p (i))).ws.getD 0 0#64), wv ((oneP (chr p (i))).ws.getD 1 0#64), wv ((oneP (chr p (i))).ws.getD 2 0#64), wv ((oneP (chr p (i))).ws.getD 3 0#64)]) tV (wn rfl) rfl rfl rfl gdel173 hv (ok_full (by omega)) rfl (rd_all (hv.get 1 rfl)) (by intro u hu; simp only [List.mem_cons, List.not_mem_nil, or_false] at hu; rcases hu with rfl | rfl | rfl | rfl | rfl <;> rfl) (by unfold maxLen; omega) (by omega) (fun rv57 w60 hv => ?_)
     obtain ⟨ra58, rc59, rfl⟩ := row_slice hv.head
     refine uA rfl (uW k53 ?_)
     refine xE (tX ?_)
     refine bH (bN ?_)
     refine then_normal ?_
     go_roundw
     case rel => exact ⟨i + 1, q ++ [oneP (chr p (i))], false, _, _, by rw [List.length_append, List.length_singleton], rfl, rfl, by omega, by rw [List.length_append, List.length_singleton]; omega, fun x9 h9 => (List.mem_append.1 h9).elim (hpo x9) (fun h8 => by rw [List.mem_singleton.1 h8]; exact addW_len), by rw [hdv, divS_none (by omega) (by omega) hc32 hcl, List.append_assoc]; rfl, by rw [List.length_append, List.length_singleton, ← parts_snoc]; exact (hv.kp [] 1 2)⟩
     case measure => show p.length - ((i + 1 : Nat) : Int).toNat < p.length - ((i : Int)).toNat; omega
    refine sK fun _ k61 => rL (uM rfl ?_)
    by_cases hb62 : (chr p (i) : Int) = 92
    ·refine uG (.bool true) rfl (ex_eql rfl rfl rfl (qT hb62)) (uM rfl ?_)
     refine uM rfl ?_
     refine uM rfl ?_
     refine uG (vI (p.length : Int)) rfl (ex_lenStr Tryz.underlying9 rfl rfl) ?_
     by_cases hb63 : ((i + 1 : Nat) : Int) < (p.length : Int)
     ·refine uG (.bool true) rfl (ex_lss rfl rfl rfl (qT hb63)) (uK rfl ?_)
      refine uA rfl (uW k61 ?_)
      refine cT rfl (sK fun _ k64 => ?_)
      refine rL (uM rfl ?_)
      refine uM rfl (uM rfl ?_)
      obtain ⟨y65, hy65⟩ : ∃ y, p[i + 1]? = some y := ⟨_, List.getElem?_eq_getElem (show i + 1 < p.length by omega)⟩
      have hy65c := chr_at hy65
      refine uG (.int .u8 (chr p (i + 1) : Int)) rfl ((by rw [hy65c]; exact ex_sidx0 Tryz.underlying9 rfl rfl rfl hy65)) ?_
      refine xC gdcallable112 rfl ((globOne B _ _ (chr p (i + 1)) (chr_lt p _) hv).mono ?_) rfl
      rintro e w66 ⟨rfl, hv⟩
      refine ⟨_, rfl, ?_⟩
      simp only [zP, po]
      refine sl_rowAgg (L := [.bool ((oneP (chr p (i + 1))).star), wv ((oneP (chr p (i + 1))).ws.getD 0 0#64), wv ((oneP (chr p (i + 1))).ws.getD 1 0#64), wv ((oneP (chr p (i + 1))).ws.getD 2 0#64), wv ((oneP (chr p (i + 1))).ws.getD 3 0#64)]) tV (wn rfl) rfl rfl hv gdel173 rfl (by decide) (fun b67 w68 hv => ?_)
      simp only [zP, po]
      replace hv := hv.front 1 rfl
      simp only [eS, eZ] at hv
      refine sl_append (news := [.bool ((oneP (chr p (i + 1))).star), wv ((oneP (chr p (i + 1))).ws.getD 0 0#64), wv ((oneP (chr p (i + 1))).ws.getD 1 0#64), wv ((oneP (chr p (i + 1))).ws.getD 2 0#64), wv ((oneP (chr p (i + 1))).ws.getD 3 0#64)]) tV (wn rfl) rfl rfl rfl gdel173 hv (ok_full (by omega)) rfl (rd_all (hv.get 1 rfl)) (by intro u hu; simp only [List.mem_cons, List.not_mem_nil, or_false] at hu; rcases hu with rfl | rfl | rfl | rfl | rfl <;> rfl) (by unfold maxLen; omega) (by omega) (fun rv69 w72 hv => ?_)
      obtain ⟨ra70, rc71, rfl⟩ := row_slice hv.head
      refine uA rfl (uW k64 ?_)
      refine rL (uM rfl ?_)
      refine uG (vI (((i + 1 : Nat) + 1 : Nat) : Int)) rfl (ex_add rfl rfl rfl (by rw [i64_in (by omega)]; omega)) (uA rfl ?_)
      refine uZ (bN ?_)
      refine bN (then_normal ?_)
      go_roundw
      case rel => exact ⟨i + 2, q ++ [oneP (chr p (i + 1))], e, _, _, by rw [List.length_append, List.length_singleton], rfl, rfl, by omega, by rw [List.length_append, List.length_singleton]; omega, fun x9 h9 => (List.mem_append.1 h9).elim (hpo x9) (fun h8 => by rw [List.mem_singleton.1 h8]; exact addW_len), by rw [hdv, divS_quote (by omega) (by omega) (by omega), List.append_assoc]; rfl, by rw [List.length_append, List.length_singleton, ← parts_snoc]; exact (hv.kp [] 1 1)⟩
      case measure => show p.length - ((i + 2 : Nat) : Int).toNat < p.length - ((i : Int)).toNat; omega
     refine uG (.bool false) rfl (ex_lss rfl rfl rfl (qF hb63)) (uK rfl ?_)
     refine uA rfl (uW k61 ?_)
     refine cF rfl (rL ?_)
     refine uM rfl (uM rfl ?_)
     refine xC gdcallable112 rfl ((globOne B _ _ (chr p (i)) (chr_lt p _) hv).mono ?_) rfl
     rintro e w73 ⟨rfl, hv⟩
     refine ⟨_, rfl, ?_⟩
     simp only [zP, po]
     refine sl_rowAgg (L := [.bool ((oneP (chr p (i))).star), wv ((oneP (chr p (i))).ws.getD 0 0#64), wv ((oneP (chr p (i))).ws.getD 1 0#64), wv ((oneP (chr p (i))).ws.getD 2 0#64), wv ((oneP (chr p (i))).ws.getD 3 0#64)]) tV (wn rfl) rfl rfl hv gdel173 rfl (by decide) (fun b74 w75 hv => ?_)
     simp only [zP, po]
     replace hv := hv.front 1 rfl
     simp only [eS, eZ] at hv
     refine sl_append (news := [.bool ((oneP (chr p (i))).star), wv ((oneP (chr p (i))).ws.getD 0 0#64), wv ((oneP (chr p (i))).ws.getD 1 0#64), wv ((oneP (chr p (i))).ws.getD 2 0#64), wv ((oneP (chr p (i))).ws.getD 3 0#64)]) tV (wn rfl) rfl rfl rfl gdel173 hv (ok_full (by omega)) rfl (rd_all (hv.get 1 rfl)) (by intro u hu; simp only [List.mem_cons, List.not_mem_nil, or_false] at hu; rcases hu with rfl | rfl | rfl | rfl | rfl <;> rfl) (by unfold maxLen; omega) (by omega) (fun rv76 w79 hv => ?_)
     obtain ⟨ra77, rc78, rfl⟩ := row_slice hv.head
     refine uA rfl (uZ ?_)
     refine bN (bN ?_)
     refine then_normal ?_
     go_roundw
     case rel => exact ⟨i + 1, q ++ [oneP (chr p (i))], e, _, _, by rw [List.length_append, List.length_singleton], rfl, rfl, by omega, by rw [List.length_append, List.length_singleton]; omega, fun x9 h9 => (List.mem_append.1 h9).elim (hpo x9) (fun h8 => by rw [List.mem_singleton.1 h8]; exact addW_len), by rw [hdv, divS_one (by omega) (by omega) (by omega) (fun h9 => by rw [hc32] at h9; exact absurd h9.2 (by decide)) (fun h9 => by omega), List.append_assoc]; rfl, by rw [List.length_append, List.length_singleton, ← parts_snoc]; exact (hv.kp [] 1 1)⟩
     case measure => show p.length - ((i + 1 : Nat) : Int).toNat < p.length - ((i : Int)).toNat; omega
    refine uG (.bool false) rfl (ex_eql rfl rfl rfl (qF hb62)) (uM rfl ?_)
    iterate 4 refine uP rfl ?_
    refine uK rfl (uA rfl ?_)
    refine uW k61 (cF rfl ?_)
    refine rL (uM rfl ?_)
    refine uM rfl ?_
    refine xC gdcallable112 rfl ((globOne B _ _ (chr p (i)) (chr_lt p _) hv).mono ?_) rfl
    rintro e w80 ⟨rfl, hv⟩
    refine ⟨_, rfl, ?_⟩
    simp only [zP, po]
    refine sl_rowAgg (L := [.bool ((oneP (chr p (i))).star), wv ((oneP (chr p (i))).ws.getD 0 0#64), wv ((oneP (chr p (i))).ws.getD 1 0#64), wv ((oneP (chr p (i))).ws.getD 2 0#64), wv ((oneP (chr p (i))).ws.getD 3 0#64)]) tV (wn rfl) rfl rfl hv gdel173 rfl (by decide) (fun b81 w82 hv => ?_)
    simp only [zP, po]
    replace hv := hv.front 1 rfl
    simp only [eS, eZ] at hv
    refine sl_append (news := [.bool ((oneP (chr p (i))).star), wv ((oneP (chr p (i))).ws.getD 0 0#64), wv ((oneP (chr p (i))).ws.getD 1 0#64), wv ((oneP (chr p (i))).ws.getD 2 0#64), wv ((oneP (chr p (i))).ws.getD 3 0#64)]) tV (wn rfl) rfl rfl rfl gdel173 hv (ok_full (by omega)) rfl (rd_all (hv.get 1 rfl)) (by intro u hu; simp only [List.mem_cons, List.not_mem_nil, or_false] at hu; rcases hu with rfl | rfl | rfl | rfl | rfl <;> rfl) (by unfold maxLen; omega) (by omega) (fun rv83 w86 hv => ?_)
    obtain ⟨ra84, rc85, rfl⟩ := row_slice hv.head
    refine uA rfl (uZ ?_)
    refine bN (bN ?_)
    refine then_normal ?_
    go_roundw
    case rel => exact ⟨i + 1, q ++ [oneP (chr p (i))], e, _, _, by rw [List.length_append, List.length_singleton], rfl, rfl, by omega, by rw [List.length_append, List.length_singleton]; omega, fun x9 h9 => (List.mem_append.1 h9).elim (hpo x9) (fun h8 => by rw [List.mem_singleton.1 h8]; exact addW_len), by rw [hdv, divS_one (by omega) (by omega) (by omega) (fun h9 => by rw [hc32] at h9; exact absurd h9.2 (by decide)) (fun h9 => by omega), List.append_assoc]; rfl, by rw [List.length_append, List.length_singleton, ← parts_snoc]; exact (hv.kp [] 1 1)⟩
    case measure => show p.length - ((i + 1 : Nat) : Int).toNat < p.length - ((i : Int)).toNat; omega
   refine uG (.bool false) rfl (ex_eql rfl rfl rfl (qF hb31)) (uM rfl ?_)
   refine uP rfl (uK rfl ?_)
   refine uA rfl (uW k30 ?_)
   refine cF rfl (sK fun _ k87 => ?_)
   refine rL (uM rfl ?_)
   by_cases hb88 : (chr p (i) : Int) = 92
   ·refine uG (.bool true) rfl (ex_eql rfl rfl rfl (qT hb88)) (uM rfl ?_)
    refine uM rfl ?_
    refine uM rfl ?_
    refine uG (vI (p.length : Int)) rfl (ex_lenStr Tryz.underlying9 rfl rfl) ?_
    by_cases hb89 : ((i + 1 : Nat) : Int) < (p.length : Int)
    ·refine uG (.bool true) rfl (ex_lss rfl rfl rfl (qT hb89)) (uK rfl ?_)
     refine uA rfl (uW k87 ?_)
     refine cT rfl (sK fun _ k90 => ?_)
     refine rL (uM rfl ?_)
     refine uM rfl (uM rfl ?_)
     obtain ⟨y91, hy91⟩ : ∃ y, p[i + 1]? = some y := ⟨_, List.getElem?_eq_getElem (show i + 1 < p.length by omega)⟩
     have hy91c := chr_at hy91
     refine uG (.int .u8 (chr p (i + 1) : Int)) rfl ((by rw [hy91c]; exact ex_sidx0 Tryz.underlying9 rfl rfl rfl hy91)) ?_
     refine xC gdcallable112 rfl ((globOne B _ _ (chr p (i + 1)) (chr_lt p _) hv).mono ?_) rfl
     rintro e w92 ⟨rfl, hv⟩
     refine ⟨_, rfl, ?_⟩
     simp only [zP, po]
     refine sl_rowAgg (L := [.bool ((oneP (chr p (i + 1))).star), wv ((oneP (chr p (i + 1))).ws.getD 0 0#64), wv ((oneP (chr p (i + 1))).ws.getD 1 0#64), wv ((oneP (chr p (i + 1))).ws.getD 2 0#64), wv ((oneP (chr p (i + 1))).ws.getD 3 0#64)]) tV (wn rfl) rfl rfl hv gdel173 rfl (by decide) (fun b93 w94 hv => ?_)
     simp only [zP, po]
     replace hv := hv.front 1 rfl
     simp only [eS, eZ] at hv
     refine sl_append (news := [.bool ((oneP (chr p (i + 1))).star), wv ((oneP (chr p (i + 1))).ws.getD 0 0#64), wv ((oneP (chr p (i + 1))).ws.getD 1 0#64), wv ((oneP (chr p (i + 1))).ws.getD 2 0#64), wv ((oneP (chr p (i + 1))).ws.getD 3 0#64)]) tV (wn rfl) rfl rfl rfl gdel173 hv (ok_full (by omega)) rfl (rd_all (hv.get 1 rfl)) (by intro u hu; simp only [List.mem_cons, List.not_mem_nil, or_false] at hu; rcases hu with rfl | rfl | rfl | rfl | rfl <;> rfl) (by unfold maxLen; omega) (by omega) (fun rv95 w98 hv => ?_)
     obtain ⟨ra96, rc97, rfl⟩ := row_slice hv.head
     refine uA rfl (uW k90 ?_)
     refine rL (uM rfl ?_)
     refine uG (vI (((i + 1 : Nat) + 1 : Nat) : Int)) rfl (ex_add rfl rfl rfl (by rw [i64_in (by omega)]; omega)) (uA rfl ?_)
     refine uZ (bN ?_)
     refine bN (then_normal ?_)
     go_roundw
     case rel => exact ⟨i + 2, q ++ [oneP (chr p (i + 1))], e, _, _, by rw [List.length_append, List.length_singleton], rfl, rfl, by omega, by rw [List.length_append, List.length_singleton]; omega, fun x9 h9 => (List.mem_append.1 h9).elim (hpo x9) (fun h8 => by rw [List.mem_singleton.1 h8]; exact addW_len), by rw [hdv, divS_quote (by omega) (by omega) (by omega), List.append_assoc]; rfl, by rw [List.length_append, List.length_singleton, ← parts_snoc]; exact (hv.kp [] 1 1)⟩
     case measure => show p.length - ((i + 2 : Nat) : Int).toNat < p.length - ((i : Int)).toNat; omega
    refine uG (.bool false) rfl (ex_lss rfl rfl rfl (qF hb89)) (uK rfl ?_)
    refine uA rfl (uW k87 ?_)
    refine cF rfl (rL ?_)
    refine uM rfl (uM rfl ?_)
    refine xC gdcallable112 rfl ((globOne B _ _ (chr p (i)) (chr_lt p _) hv).mono ?_) rfl
    rintro e w99 ⟨rfl, hv⟩
    refine ⟨_, rfl, ?_⟩
    simp only [zP, po]
    refine sl_rowAgg (L := [.bool ((oneP (chr p (i))).star), wv ((oneP (chr p (i))).ws.getD 0 0#64), wv ((oneP (chr p (i))).ws.getD 1 0#64), wv ((oneP (chr p (i))).ws.getD 2 0#64), wv ((oneP (chr p (i))).ws.getD 3 0#64)]) tV (wn rfl) rfl rfl hv gdel173 rfl (by decide) (fun b100 w101 hv => ?_)
    simp only [zP, po]
    replace hv := hv.front 1 rfl
    simp only [eS, eZ] at hv
    refine sl_append (news := [.bool ((oneP (chr p (i))).star), wv ((oneP (chr p (i))).ws.getD 0 0#64), wv ((oneP (chr p (i))).ws.getD 1 0#64), wv ((oneP (chr p (i))).ws.getD 2 0#64), wv ((oneP (chr p (i))).ws.getD 3 0#64)]) tV (wn rfl) rfl rfl rfl gdel173 hv (ok_full (by omega)) rfl (rd_all (hv.get 1 rfl)) (by intro u hu; simp only [List.mem_cons, List.not_mem_nil, or_false] at hu; rcases hu with rfl | rfl | rfl | rfl | rfl <;> rfl) (by unfold maxLen; omega) (by omega) (fun rv102 w105 hv => ?_)
    obtain ⟨ra103, rc104, rfl⟩ := row_slice hv.head
    refine uA rfl (uZ ?_)
    refine bN (bN ?_)
    refine then_normal ?_
    go_roundw
    case rel => exact ⟨i + 1, q ++ [oneP (chr p (i))], e, _, _, by rw [List.length_append, List.length_singleton], rfl, rfl, by omega, by rw [List.length_append, List.length_singleton]; omega, fun x9 h9 => (List.mem_append.1 h9).elim (hpo x9) (fun h8 => by rw [List.mem_singleton.1 h8]; exact addW_len), by rw [hdv, divS_one (by omega) (by omega) (by omega) (fun h9 => by omega) (fun h9 => by omega), List.append_assoc]; rfl, by rw [List.length_append, List.length_singleton, ← parts_snoc]; exact (hv.kp [] 1 1)⟩
    case measure => show p.length - ((i + 1 : Nat) : Int).toNat < p.length - ((i : Int)).toNat; omega
   refine uG (.bool false) rfl (ex_eql rfl rfl rfl (qF hb88)) (uM rfl ?_)
   iterate 4 refine uP rfl ?_
   refine uK rfl (uA rfl ?_)
   refine uW k87 (cF rfl ?_)
   refine rL (uM rfl ?_)
   refine uM rfl ?_
   refine xC gdcallable112 rfl ((globOne B _ _ (chr p (i)) (chr_lt p _) hv).mono ?_) rfl
   rintro e w106 ⟨rfl, hv⟩
   refine ⟨_, rfl, ?_⟩
   simp only [zP, po]
   refine sl_rowAgg (L := [.bool ((oneP (chr p (i))).star), wv ((oneP (chr p (i))).ws.getD 0 0#64), wv ((oneP (chr p (i))).ws.getD 1 0#64), wv ((oneP (chr p (i))).ws.getD 2 0#64), wv ((oneP (chr p (i))).ws.getD 3 0#64)]) tV (wn rfl) rfl rfl hv gdel173 rfl (by decide) (fun b107 w108 hv => ?_)
   simp only [zP, po]
   replace hv := hv.front 1 rfl
   simp only [eS, eZ] at hv
   refine sl_append (news := [.bool ((oneP (chr p (i))).star), wv ((oneP (chr p (i))).ws.getD 0 0#64), wv ((oneP (chr p (i))).ws.getD 1 0#64), wv ((oneP (chr p (i))).ws.getD 2 0#64), wv ((oneP (chr p (i))).ws.getD 3 0#64)]) tV (wn rfl) rfl rfl rfl gdel173 hv (ok_full (by omega)) rfl (rd_all (hv.get 1 rfl)) (by intro u hu; simp only [List.mem_cons, List.not_mem_nil, or_false] at hu; rcases hu with rfl | rfl | rfl | rfl | rfl <;> rfl) (by unfold maxLen; omega) (by omega) (fun rv109 w112 hv => ?_)
   obtain ⟨ra110, rc111, rfl⟩ := row_slice hv.head
   refine uA rfl (uZ ?_)
   refine bN (bN ?_)
   refine then_normal ?_
   go_roundw
   case rel => exact ⟨i + 1, q ++ [oneP (chr p (i))], e, _, _, by rw [List.length_append, List.length_singleton], rfl, rfl, by omega, by rw [List.length_append, List.length_singleton]; omega, fun x9 h9 => (List.mem_append.1 h9).elim (hpo x9) (fun h8 => by rw [List.mem_singleton.1 h8]; exact addW_len), by rw [hdv, divS_one (by omega) (by omega) (by omega) (fun h9 => by omega) (fun h9 => by omega), List.append_assoc]; rfl, by rw [List.length_append, List.length_singleton, ← parts_snoc]; exact (hv.kp [] 1 1)⟩
   case measure => show p.length - ((i + 1 : Nat) : Int).toNat < p.length - ((i : Int)).toNat; omega
  refine uG (.bool false) rfl (ex_lss rfl rfl rfl (qF hb9)) (uW k8 ?_)
  refine cF rfl (xE ?_)
  refine tX (tX ?_)
  refine bH (tK k4 ?_)
  refine sK fun _ k113 => rL (uM rfl ?_)
  refine uA rfl (uW k113 ?_)
  refine rR (bR rfl rfl ?_)
  obtain rfl : i = p.length := by omega
  rw [divS_end (ended := e) (i := p.length) (by omega), List.append_nil] at hdv
  obtain ⟨D, hD, hv, hro, hoko, -⟩ := (hv).rowBy
  exact ⟨D, ra, rc, q, hD, rfl, hdv, hq, hpo, hoko, hro, hv⟩
theorem part_words {B : Base} {b off : Nat} {x : Part} (hl : x.ws.length = 4) (h : Reads B [] b off (partC x)) : Reads B [] b (off + 1) (wordsV x.ws) := fun C K w hB hR hv j v hj => by
 rw [← partF_eq hl] at h
 have := h C K w hB hR hv (j + 1) v (by rw [← hj]; rfl)
 rw [show off + (j + 1) = off + 1 + j by omega] at this
 exact this
theorem gdcallable97 : Callable Tryz.prog 97 := cb Tryz.func97 (by kernel_rfl)
theorem gdes173 (w : World) : (sizeOf (Tryz.prog.elem 173)).run Tryz.prog w = .ok 5 w := by kernel_rfl
theorem gdfa178_0 : FA Tryz.prog 178 0 0 := fun w b o => by kernel_rfl
theorem gdna4 (w : World) : (isAgg 4).run Tryz.prog w = .ok false w := by kernel_rfl
theorem gdcallable98 : Callable Tryz.prog 98 := cb Tryz.func98 (by kernel_rfl)
theorem globMatch (B : Base) (H : List Res) (w : World) (p : List UInt8) (hp : p.length ≤ 1000000) (s : List UInt8) (hs : s.length ≤ 1000000) (hv : Inv B H w) :
  Calls Tryz.prog 85 #[vS p, vS s] w fun e' w' => ∃ b, e' = .returned (.bool b) ∧ (b = true ↔ MatchP (divS p true 0) s) ∧ Inv B H w' := by
 refine cW Tryz.func85 rfl Tryz.ntmps85 ?_
 simp only [al]
 refine sK fun _ k1 => rL (uA rfl ?_)
 refine uW k1 (sK fun _ k2 => ?_)
 refine rL (uM rfl ?_)
 refine xC gdcallable97 rfl ((globDivide B _ _ p hp hv).mono ?_) rfl
 rintro e w3 ⟨D, ra, rc, q, hD, rfl, hdv, hql, hpo, hoko, hrq, hv⟩
 refine ⟨_, rfl, ?_⟩
 have hS : s.length ≤ 1000000 := hs
 refine uA rfl (uW k2 ?_)
 refine sK fun _ k4 => rL (uA rfl ?_)
 refine uA rfl (uW k4 ?_)
 refine sK fun _ k5 => rL (uA rfl ?_)
 refine uA rfl (uW k5 ?_)
 refine sK fun _ k6 => bB ?_
 gi_loopw [6, 7, 8, 9] (fun x6 x7 x8 x9 wr => ∃ (now i st fr : Nat), x6 = vI now ∧ x7 = vI i ∧ x8 = vI ((st : Int) - 1) ∧ x9 = vI fr ∧ GInv q s now i st fr ∧ fr ≤ i ∧ Inv D H wr) (fun x6 x7 x8 x9 _ => ((q.length + 1 - (intOf x8 + 1).toNat) * (s.length + 1) + (s.length - (intOf x9).toNat)) * (s.length + 1) + (s.length - (intOf x7).toNat))
 case atStart => exact ⟨0, 0, 0, 0, rfl, rfl, rfl, rfl, GInv.start, Nat.le_refl _, hv⟩
 case round =>
  obtain ⟨now, i, st, fr, rfl, rfl, rfl, rfl, hgi, hfi, hv⟩ := hrel
  have hn1 := hgi.n1
  have hn2 := hgi.n2
  have hn3 := hgi.n3
  have hn4 := hgi.n4
  refine sK fun _ k8 => sK fun _ k9 => rL (uM rfl ?_)
  refine uM rfl ?_
  refine uG (vI (s.length : Int)) rfl (ex_lenStr Tryz.underlying9 rfl rfl) ?_
  by_cases hb10 : (i : Int) < (s.length : Int)
  ·refine uG (.bool true) rfl (ex_lss rfl rfl rfl (qT hb10)) (uW k9 ?_)
   refine cT rfl (kS ?_)
   refine tK k8 (bB ?_)
   refine bB (sK fun _ k11 => ?_)
   refine rL (uM rfl ?_)
   refine uM rfl ?_
   refine uG (vI (q.length : Int)) rfl (ex_len0 Tryz.underlying173 rfl rfl) ?_
   by_cases hb12 : (now : Int) < (q.length : Int)
   ·refine uG (.bool true) rfl (ex_lss rfl rfl rfl (qT hb12)) (uM rfl ?_)
    refine uM rfl ?_
    refine uM rfl ?_
    obtain ⟨x, hx⟩ : ∃ x, q[now]? = some x := ⟨_, List.getElem?_eq_getElem (by omega)⟩
    obtain ⟨bb, bo, had, hrdx⟩ := part_reads hrq hx
    subst had
    have hxl := hpo x (List.mem_of_getElem? hx)
    refine uG (.pointer (some ⟨bb, bo + now * 5, none⟩)) rfl (ex_index rfl rfl rfl (run_idx (k := now) Tryz.underlying173 gdes173 (by omega))) ?_
    refine uF (.pointer (some ⟨bb, bo + now * 5, none⟩)) rfl (gdfa178_0 _ _ _) ?_
    refine uL _ rfl (run_load1 gdna4 (hrdx _ _ _ (Base.Le.refl _) no_res hv 0 _ rfl)) (uK rfl ?_)
    refine uA rfl (uW k11 ?_)
    refine wpIn_cond_split (t := x.star) rfl (fun hc13 => ?_) (fun hc13 => ?_)
    ·refine sK fun _ k14 => ?_
     have hxs : x.star = true := hc13
     refine rL (uM rfl ?_)
     refine uM rfl (uA rfl ?_)
     refine uA rfl (uW k14 ?_)
     refine rL (uM rfl ?_)
     refine uG (vI ((now + 1 : Nat) : Int)) rfl (ex_add rfl rfl rfl (by rw [i64_in (by omega)]; omega)) (uA rfl ?_)
     refine uZ (bN ?_)
     refine bN (then_normal ?_)
     go_roundw
     case rel => exact ⟨now + 1, i, now + 1, i, rfl, rfl, by congr 1; omega, rfl, hgi.star hx hxs, by omega, hv⟩
     case measure => show ((q.length + 1 - ((now : Int) + 1).toNat) * (s.length + 1) + (s.length - ((i : Int)).toNat)) * (s.length + 1) + (s.length - ((i : Int)).toNat) < ((q.length + 1 - (((st : Int) - 1) + 1).toNat) * (s.length + 1) + (s.length - ((fr : Int)).toNat)) * (s.length + 1) + (s.length - ((i : Int)).toNat); have hn1 := hgi.n1; have hn2 := hgi.n2; have hn3 := hgi.n3; refine lex3 (by omega) (by omega) ?_; omega
    refine sK fun _ k15 => rW mixed [12] [0,1,2,3,4,5,6,7,8,9,10,11,12,13,14] 76 rfl (by kernel_rfl) hv ?_
    simp only [qm, opAt]
    refine dM (vI now) rfl (dM (.slice (some ⟨bb, bo, none⟩) q.length rc) rfl ?_)
    refine dG (vI (q.length : Int)) rfl (ex_len0 Tryz.underlying173 rfl rfl) ?_
    simp only [zP, po]
    refine dG (.bool true) rfl (ex_lss rfl rfl rfl (qT hb12)) (dM (.bool true) rfl ?_)
    refine dM (.slice (some ⟨bb, bo, none⟩) q.length rc) rfl ?_
    simp only [zP, po]
    refine dM (vI now) rfl (dG (.pointer (some ⟨bb, bo + now * 5, none⟩)) rfl (ex_index rfl rfl rfl (run_idx (k := now) Tryz.underlying173 gdes173 (by omega))) ?_)
    refine dG (.pointer (some ⟨bb, bo + now * 5 + 1, none⟩)) rfl (ex_field rfl rfl (glfa178_1 _ _ _)) ?_
    simp only [zP, po]
    refine dM (vS s) rfl (dM (vI i) rfl ?_)
    obtain ⟨y16, hy16⟩ : ∃ y, s[i]? = some y := ⟨_, List.getElem?_eq_getElem (show i < s.length by omega)⟩
    have hy16c := chr_at hy16
    refine dG (.int .u8 (chr s (i) : Int)) rfl ((by rw [hy16c]; exact ex_sidx0 Tryz.underlying9 rfl rfl rfl hy16)) ?_
    simp only [zP, po]
    refine dS rfl fun w17 hv => mC gdcallable98 rfl ((setHasC D _ _ bb (bo + now * 5 + 1) x.ws hxl (part_words hxl hrdx) (chr s i) (chr_lt s _) hv).mono ?_) rfl
    rintro e w18 ⟨rfl, hv⟩
    refine ⟨_, rfl, dW hv ?_⟩
    refine dK true (.bool (hasW x.ws (chr s i))) rfl (dA (.bool (hasW x.ws (chr s i))) rfl ?_)
    refine dE fun w19 hv => ?_
    simp only [zP, po]
    refine tK k15 (wpIn_cond_split (t := hasW x.ws (chr s i)) rfl (fun hc20 => ?_) (fun hc20 => ?_))
    ·refine sK fun _ k21 => ?_
     have hxs := hc13
     have hyc9 := hy16
     have hxb : hasW x.ws y16.toNat = true := by rw [← hy16c]; exact hc20
     refine rL (uM rfl ?_)
     refine uG (vI ((now + 1 : Nat) : Int)) rfl (ex_add rfl rfl rfl (by rw [i64_in (by omega)]; omega)) (uA rfl ?_)
     refine uW k21 (rL ?_)
     refine uM rfl ?_
     refine uG (vI ((i + 1 : Nat) : Int)) rfl (ex_add rfl rfl rfl (by rw [i64_in (by omega)]; omega)) (uA rfl ?_)
     refine uZ (bN ?_)
     refine bN (then_normal ?_)
     go_roundw
     case rel => exact ⟨now + 1, i + 1, st, fr, rfl, rfl, rfl, rfl, hgi.byte hx hxs hyc9 hxb, by omega, hv⟩
     case measure => show ((q.length + 1 - (((st : Int) - 1) + 1).toNat) * (s.length + 1) + (s.length - ((fr : Int)).toNat)) * (s.length + 1) + (s.length - (((i + 1 : Nat) : Int)).toNat) < ((q.length + 1 - (((st : Int) - 1) + 1).toNat) * (s.length + 1) + (s.length - ((fr : Int)).toNat)) * (s.length + 1) + (s.length - ((i : Int)).toNat); have hn1 := hgi.n1; have hn2 := hgi.n2; have hn3 := hgi.n3; refine lex3 (by omega) (by omega) ?_; omega
    refine sK fun _ k22 => ?_
    obtain ⟨y9, hyc9⟩ : ∃ y, s[i]? = some y := ⟨_, List.getElem?_eq_getElem (show i < s.length by omega)⟩
    have hycc := chr_at hyc9
    have hno : ∀ x9, q[now]? = some x9 → x9.star = false ∧ hasW x9.ws y9.toNat = false := fun x9 h9 => by
     rw [hx] at h9; cases h9
     exact ⟨hc13, by rw [← hycc]; exact hc20⟩
    refine rL (uM rfl ?_)
    by_cases hb23 : ((st : Int) - 1) ≥ 0
    ·refine uG (.bool true) rfl (ex_geq rfl rfl rfl (qT hb23)) (uA rfl ?_)
     refine uW k22 (cT rfl ?_)
     refine sK fun _ k24 => rL (uM rfl ?_)
     refine uG (vI ((fr + 1 : Nat) : Int)) rfl (ex_add rfl rfl rfl (by rw [i64_in (by omega)]; omega)) (uA rfl ?_)
     refine uW k24 (rL ?_)
     refine uM rfl ?_
     refine uG (vI st) rfl (ex_add rfl rfl rfl (by rw [i64_in (by omega)]; omega)) (uM rfl ?_)
     refine uA rfl (uA rfl ?_)
     refine uZ (bN ?_)
     refine bN (then_normal ?_)
     go_roundw
     case rel => exact ⟨st, fr + 1, st, fr + 1, rfl, rfl, rfl, rfl, hgi.back (by omega) hyc9 hno, by omega, hv⟩
     case measure => show ((q.length + 1 - (((st : Int) - 1) + 1).toNat) * (s.length + 1) + (s.length - (((fr + 1 : Nat) : Int)).toNat)) * (s.length + 1) + (s.length - (((fr + 1 : Nat) : Int)).toNat) < ((q.length + 1 - (((st : Int) - 1) + 1).toNat) * (s.length + 1) + (s.length - ((fr : Int)).toNat)) * (s.length + 1) + (s.length - ((i : Int)).toNat); have hn1 := hgi.n1; have hn2 := hgi.n2; have hn3 := hgi.n3; refine lex3 (by omega) (by omega) ?_; omega
    refine uG (.bool false) rfl (ex_geq rfl rfl rfl (qF hb23)) (uA rfl ?_)
    refine uW k22 (cF rfl ?_)
    refine sK fun _ k25 => rL (uA rfl ?_)
    refine uW k25 (rR ?_)
    refine bZ (bZ ?_)
    refine tR (bZ ?_)
    refine tR (bR rfl rfl ?_)
    subst hdv
    exact ⟨false, rfl, ⟨fun h => (by cases h), fun h => absurd h (hgi.fail (by omega) hyc9 hno)⟩, hv.weak hD⟩
   refine uG (.bool false) rfl (ex_lss rfl rfl rfl (qF hb12)) (uM rfl ?_)
   iterate 5 refine uP rfl ?_
   refine uK rfl (uA rfl ?_)
   refine uW k11 (cF rfl ?_)
   refine sK fun _ k26 => rW mixed [12] [0,1,2,3,4,5,6,7,8,9,10,11,12,13,14] 76 rfl (by kernel_rfl) hv ?_
   simp only [qm, opAt]
   refine dM (vI now) rfl (dM (.slice ra q.length rc) rfl ?_)
   refine dG (vI (q.length : Int)) rfl (ex_len0 Tryz.underlying173 rfl rfl) ?_
   simp only [zP, po]
   refine dG (.bool false) rfl (ex_lss rfl rfl rfl (qF hb12)) (dM (.bool false) rfl ?_)
   refine dP rfl ?_
   simp only [zP, po]
   refine dP rfl (dP rfl ?_)
   refine dP rfl ?_
   simp only [zP, po]
   refine dP rfl (dP rfl ?_)
   refine dP rfl ?_
   simp only [zP, po]
   refine dP rfl (dK false (.bool false) rfl ?_)
   refine dA (.bool false) rfl (dE fun w27 hv => ?_)
   simp only [zP, po]
   refine tK k26 (cF rfl ?_)
   refine sK fun _ k28 => ?_
   obtain ⟨y9, hyc9⟩ : ∃ y, s[i]? = some y := ⟨_, List.getElem?_eq_getElem (show i < s.length by omega)⟩
   have hycc := chr_at hyc9
   have hno : ∀ x9, q[now]? = some x9 → x9.star = false ∧ hasW x9.ws y9.toNat = false := fun x9 h9 => by have := (List.getElem?_eq_some_iff.1 h9).1; omega
   refine rL (uM rfl ?_)
   by_cases hb29 : ((st : Int) - 1) ≥ 0
   ·refine uG (.bool true) rfl (ex_geq rfl rfl rfl (qT hb29)) (uA rfl ?_)
    refine uW k28 (cT rfl ?_)
    refine sK fun _ k30 => rL (uM rfl ?_)
    refine uG (vI ((fr + 1 : Nat) : Int)) rfl (ex_add rfl rfl rfl (by rw [i64_in (by omega)]; omega)) (uA rfl ?_)
    refine uW k30 (rL ?_)
    refine uM rfl ?_
    refine uG (vI st) rfl (ex_add rfl rfl rfl (by rw [i64_in (by omega)]; omega)) (uM rfl ?_)
    refine uA rfl (uA rfl ?_)
    refine uZ (bN ?_)
    refine bN (then_normal ?_)
    go_roundw
    case rel => exact ⟨st, fr + 1, st, fr + 1, rfl, rfl, rfl, rfl, hgi.back (by omega) hyc9 hno, by omega, hv⟩
    case measure => show ((q.length + 1 - (((st : Int) - 1) + 1).toNat) * (s.length + 1) + (s.length - (((fr + 1 : Nat) : Int)).toNat)) * (s.length + 1) + (s.length - (((fr + 1 : Nat) : Int)).toNat) < ((q.length + 1 - (((st : Int) - 1) + 1).toNat) * (s.length + 1) + (s.length - ((fr : Int)).toNat)) * (s.length + 1) + (s.length - ((i : Int)).toNat); have hn1 := hgi.n1; have hn2 := hgi.n2; have hn3 := hgi.n3; refine lex3 (by omega) (by omega) ?_; omega
   refine uG (.bool false) rfl (ex_geq rfl rfl rfl (qF hb29)) (uA rfl ?_)
   refine uW k28 (cF rfl ?_)
   refine sK fun _ k31 => rL (uA rfl ?_)
   refine uW k31 (rR ?_)
   refine bZ (bZ ?_)
   refine tR (bZ ?_)
   refine tR (bR rfl rfl ?_)
   subst hdv
   exact ⟨false, rfl, ⟨fun h => (by cases h), fun h => absurd h (hgi.fail (by omega) hyc9 hno)⟩, hv.weak hD⟩
  refine uG (.bool false) rfl (ex_lss rfl rfl rfl (qF hb10)) (uW k9 ?_)
  refine cF rfl (xE ?_)
  refine tX (tX ?_)
  refine bH (tK k6 ?_)
  refine sK fun _ k32 => bB ?_
  have hov := hgi.over (by omega)
  clear hgi
  gi_loopw [6] (fun x6 wr => ∃ (now : Nat), x6 = vI now ∧ now ≤ q.length ∧ (MatchP q s ↔ MatchP (q.drop now) []) ∧ Inv D H wr) (fun x6 _ => q.length - (intOf x6).toNat)
  case atStart => exact ⟨now, rfl, hn2, hov, hv⟩
  case round =>
   obtain ⟨now, rfl, hnq, hmt, hv⟩ := hrel
   refine sK fun _ k34 => sK fun _ k35 => rL (uM rfl ?_)
   refine uM rfl ?_
   refine uG (vI (q.length : Int)) rfl (ex_len0 Tryz.underlying173 rfl rfl) ?_
   by_cases hb36 : (now : Int) < (q.length : Int)
   ·refine uG (.bool true) rfl (ex_lss rfl rfl rfl (qT hb36)) (uM rfl ?_)
    refine uM rfl ?_
    refine uM rfl ?_
    obtain ⟨x, hx⟩ : ∃ x, q[now]? = some x := ⟨_, List.getElem?_eq_getElem (by omega)⟩
    obtain ⟨bb, bo, had, hrdx⟩ := part_reads hrq hx
    subst had
    have hxl := hpo x (List.mem_of_getElem? hx)
    refine uG (.pointer (some ⟨bb, bo + now * 5, none⟩)) rfl (ex_index rfl rfl rfl (run_idx (k := now) Tryz.underlying173 gdes173 (by omega))) ?_
    refine uF (.pointer (some ⟨bb, bo + now * 5, none⟩)) rfl (gdfa178_0 _ _ _) ?_
    refine uL _ rfl (run_load1 gdna4 (hrdx _ _ _ (Base.Le.refl _) no_res hv 0 _ rfl)) (uK rfl ?_)
    refine uW k35 (wpIn_cond_split (t := x.star) rfl (fun hc37 => ?_) (fun hc37 => ?_))
    ·refine kS (tK k34 ?_)
     refine bB (rL ?_)
     refine uM rfl ?_
     refine uG (vI ((now + 1 : Nat) : Int)) rfl (ex_add rfl rfl rfl (by rw [i64_in (by omega)]; omega)) (uA rfl ?_)
     refine uZ (bN ?_)
     refine then_normal ?_
     go_roundw
     case rel => exact ⟨now + 1, rfl, by omega, hmt.trans (tail_star hx hc37), hv⟩
     case measure => show q.length - (((now + 1 : Nat) : Int)).toNat < q.length - ((now : Int)).toNat; omega
    refine xE (tX ?_)
    refine tX (bH ?_)
    refine tK k32 (sK fun _ k38 => ?_)
    refine rL (uM rfl ?_)
    refine uM rfl ?_
    refine uG (vI (q.length : Int)) rfl (ex_len0 Tryz.underlying173 rfl rfl) ?_
    by_cases hb39 : (now : Int) = (q.length : Int)
    ·refine uG (.bool true) rfl (ex_eql rfl rfl rfl (qT hb39)) (uA rfl ?_)
     refine uW k38 (rR ?_)
     refine bR rfl rfl ?_
     obtain rfl : now = q.length := by omega
     subst hdv
     exact ⟨true, rfl, ⟨fun _ => hmt.2 ((matchP_over (Nat.le_refl _)).2 rfl), fun _ => rfl⟩, hv.weak hD⟩
    refine uG (.bool false) rfl (ex_eql rfl rfl rfl (qF hb39)) (uA rfl ?_)
    refine uW k38 (rR ?_)
    refine bR rfl rfl ?_
    subst hdv
    exact ⟨false, rfl, ⟨fun h => (by cases h), fun h => absurd (hmt.1 h) (matchP_nil hx hc37)⟩, hv.weak hD⟩
   refine uG (.bool false) rfl (ex_lss rfl rfl rfl (qF hb36)) (uM rfl ?_)
   iterate 5 refine uP rfl ?_
   refine uK rfl (uW k35 ?_)
   refine cF rfl (xE ?_)
   refine tX (tX ?_)
   refine bH (tK k32 ?_)
   refine sK fun _ k40 => rL (uM rfl ?_)
   refine uM rfl ?_
   refine uG (vI (q.length : Int)) rfl (ex_len0 Tryz.underlying173 rfl rfl) ?_
   by_cases hb41 : (now : Int) = (q.length : Int)
   ·refine uG (.bool true) rfl (ex_eql rfl rfl rfl (qT hb41)) (uA rfl ?_)
    refine uW k40 (rR ?_)
    refine bR rfl rfl ?_
    obtain rfl : now = q.length := by omega
    subst hdv
    exact ⟨true, rfl, ⟨fun _ => hmt.2 ((matchP_over (Nat.le_refl _)).2 rfl), fun _ => rfl⟩, hv.weak hD⟩
   refine uG (.bool false) rfl (ex_eql rfl rfl rfl (qF hb41)) (uA rfl ?_)
   refine uW k40 (rR ?_)
   refine bR rfl rfl ?_
   exfalso; omega
end Go.Proofs.YtngpmolbphinnaaGreatDoor
