/- disk.Crash -/
import Derived.Test.YtkannfkjnohdlaaMsB
namespace Go.Proofs.Ytkannfkjnohdlaa
open Go.RowKit Go.Pm
/-- ints behind an address -/
def Ints (w : World) (a : Option Addr) (l : List Int) : Prop :=
  ∀ i (h : i < l.length), ∃ b off, a = some ⟨b, off, none⟩ ∧ w.cell? ⟨b, off + i, none⟩ = some (.int .i64 l[i])
def boolsOf (n : Nat) (ks : List Int) : List Value := (List.range n).map (fun (j : Nat) => .bool (ks.contains (j : Int)))
theorem boolsOf_nil (n : Nat) : boolsOf n [] = List.replicate n (.bool false) := by
  unfold boolsOf
  apply List.ext_getElem <;> simp
theorem boolsOf_len (n : Nat) (ks : List Int) : (boolsOf n ks).length = n := by simp [boolsOf]
theorem boolsOf_set (n : Nat) (ks : List Int) (j : Nat) (hj : j < n) : (boolsOf n ks).set (0 + j) (.bool true) = boolsOf n (ks ++ [(j : Int)]) := by
  rw [Nat.zero_add]
  apply List.ext_getElem (by simp [boolsOf])
  intro i h1 h2
  rw [List.getElem_set]
  by_cases hij : j = i
  · subst hij; simp [boolsOf]
  · have : ¬ ((i : Int) = (j : Int)) := by omega
    simp [boolsOf, hij, this]
theorem boolsOf_out (n : Nat) (ks : List Int) (v : Int) (hv : v < 0 ∨ (n : Int) ≤ v) : boolsOf n (ks ++ [v]) = boolsOf n ks := by
  unfold boolsOf
  apply List.map_congr_left
  intro j hj
  have : ¬ ((j : Int) = v) := by have := List.mem_range.1 hj; omega
  simp [this]
theorem boolsOf_get (n : Nat) (ks : List Int) (j : Nat) (hj : j < n) {b : Bool} (hb : ks.contains (j : Int) = b) : (boolsOf n ks)[0 + j]? = some (.bool b) := by
  rw [Nat.zero_add, ← hb]
  simp [boolsOf, hj]
/-- those that are kept, of the first ones -/
def keptOf {D : Disk} (ks : List Int) (pre : List (PendEl D)) : List (Nat × List UInt8) := (pre.filter (fun x => ks.contains (x.1.1 : Int))).map (·.1.2)
theorem keptOf_yes {D : Disk} {ks : List Int} {pre : List (PendEl D)} {x : PendEl D} (h : ks.contains (x.1.1 : Int) = true) : keptOf ks (pre ++ [x]) = keptOf ks pre ++ [x.1.2] := by
  simp only [keptOf, List.filter_append, List.map_append, List.filter_cons, h, if_true, List.filter_nil, List.map_cons, List.map_nil]
theorem keptOf_no {D : Disk} {ks : List Int} {pre : List (PendEl D)} {x : PendEl D} (h : ks.contains (x.1.1 : Int) = false) : keptOf ks (pre ++ [x]) = keptOf ks pre := by
  simp only [keptOf, List.filter_append, List.map_append, List.filter_cons, h, List.filter_nil, List.map_nil, List.append_nil]
  simp
theorem keptOf_all {D : Disk} {ks : List Int} {xs : List (PendEl D)} (h : xs.map (·.1) = numbered D) : keptOf ks xs = D.kept ks := by
  have e : keptOf ks xs = ((xs.map (·.1)).filter (fun y => ks.contains (y.1 : Int))).map (·.2) := by
    unfold keptOf
    rw [List.filter_map, List.map_map]
    rfl
  rw [e, h]
  unfold numbered Disk.kept
  rw [List.filter_map, List.map_map]
  rfl
theorem keptOf_le {D : Disk} (ks : List Int) (pre : List (PendEl D)) : (keptOf ks pre).length ≤ pre.length := by
  unfold keptOf
  rw [List.length_map]
  exact List.length_filter_le _ _
theorem wrOne (x : Nat × List UInt8) : ∀ v ∈ wrCells x, v.oneCell' = true := wrCells_one x
theorem crashEnd {B : Base} {p gd : Nat} {D : Disk} {ks : List Int} {H : List Res} {w : World} (hok : D.Ok) (hv : Inv B (Res.cell p [.slice (some ⟨gd, 0, none⟩) D.dur.length D.dur.length, .slice none 0 0, .int .i64 (-1)] 87 :: Res.cell gd (durCells ((D.kept ks).foldl Disk.put D.dur)) 90 :: H) w) : ∃ F', Inv B (diskR p (D.crash ks) F' :: H) w := by
  have h2 := hv.new (Ext.rfl' _) (Res.row 92 65 (.slice none 0 0) 0 []) (World.ownsRow_nil _ _ _ _) (fun b hb => by simp [Value.ownBlock] at hb) (by simp [Value.ownBlock])
  have h3 := (h2.front 2 rfl).front 2 rfl
  have hl : ((D.kept ks).foldl Disk.put D.dur).length = D.dur.length := Disk.foldl_put_length _ _
  refine Inv.diskClose (D := D.crash ks) (gd := gd) (v := .slice none 0 0) (Disk.crash_ok hok ks) ?_
  show Inv B (Res.cell p [.slice (some ⟨gd, 0, none⟩) ((D.kept ks).foldl Disk.put D.dur).length ((D.kept ks).foldl Disk.put D.dur).length, .slice none 0 0, .int .i64 (-1)] 87 :: _) w
  rw [hl]
  exact h3
theorem szWrite (l : List Value) (h : l.length = 65) : (Try.prog.info? 92).map (·.size) = some l.length := by rw [h]; exact wideW.size
theorem wrLen {x : Nat × List UInt8} (h : x.2.length = 64) : (wrCells x).length = 65 := by simp [wrCells, h]

theorem crna36 (w : World) : (isAgg 36).run Try.prog w = .ok false w := by kernel_rfl
theorem crfa87_1 (w : World) (b o : Nat) : (Instr.fieldAt 87 (.pointer (some ⟨b, o, none⟩)) 1).run Try.prog w = .ok (.pointer (some ⟨b, o + 1, none⟩)) w := by kernel_rfl
theorem crna85 (w : World) : (isAgg 85).run Try.prog w = .ok false w := by kernel_rfl
theorem crmk4 : (Try.prog.info? 4).map (fun i => (i.zero, i.size, i.bytes)) = some (some (.bool false), 1, 1) := by kernel_rfl
theorem cral96 (w : World) : (Instr.alloc 96 true (.tuple #[])).run Try.prog w = .ok (.pointer (some ⟨w.heap.size, 0, none⟩)) (w.alloc (.cells ([.slice none 0 0] : List Value).toArray 96)) := by kernel_rfl
theorem crsz96 : (Try.prog.info? 96).map (·.size) = some 1 := by kernel_rfl
theorem cres44 (w : World) : (sizeOf (Try.prog.elem 44)).run Try.prog w = .ok 1 w := by kernel_rfl
theorem crna3 (w : World) : (isAgg 3).run Try.prog w = .ok false w := by kernel_rfl
theorem crna96 (w : World) : (isAgg 96).run Try.prog w = .ok false w := by kernel_rfl
theorem cres96 (w : World) : (sizeOf (Try.prog.elem 96)).run Try.prog w = .ok 1 w := by kernel_rfl
theorem crsz4 : (Try.prog.info? 4).map (·.size) = some 1 := by kernel_rfl
theorem cral3 (w : World) : (Instr.alloc 3 true (.tuple #[])).run Try.prog w = .ok (.pointer (some ⟨w.heap.size, 0, none⟩)) (w.alloc (.cells ([.int .i64 0] : List Value).toArray 3)) := by kernel_rfl
theorem crsz3 : (Try.prog.info? 3).map (·.size) = some 1 := by kernel_rfl
theorem crcallable46 : Callable Try.prog 46 := ⟨_, Try.func46, by kernel_rfl, by kernel_rfl⟩
theorem cral92 (w : World) : (Instr.alloc 92 true (.tuple #[])).run Try.prog w = .ok (.pointer (some ⟨w.heap.size, 0, none⟩)) (w.alloc (.cells ([.int .i64 0, .int .u8 0, .int .u8 0, .int .u8 0, .int .u8 0, .int .u8 0, .int .u8 0, .int .u8 0, .int .u8 0, .int .u8 0, .int .u8 0, .int .u8 0, .int .u8 0, .int .u8 0, .int .u8 0, .int .u8 0, .int .u8 0, .int .u8 0, .int .u8 0, .int .u8 0, .int .u8 0, .int .u8 0, .int .u8 0, .int .u8 0, .int .u8 0, .int .u8 0, .int .u8 0, .int .u8 0, .int .u8 0, .int .u8 0, .int .u8 0, .int .u8 0, .int .u8 0, .int .u8 0, .int .u8 0, .int .u8 0, .int .u8 0, .int .u8 0, .int .u8 0, .int .u8 0, .int .u8 0, .int .u8 0, .int .u8 0, .int .u8 0, .int .u8 0, .int .u8 0, .int .u8 0, .int .u8 0, .int .u8 0, .int .u8 0, .int .u8 0, .int .u8 0, .int .u8 0, .int .u8 0, .int .u8 0, .int .u8 0, .int .u8 0, .int .u8 0, .int .u8 0, .int .u8 0, .int .u8 0, .int .u8 0, .int .u8 0, .int .u8 0, .int .u8 0] : List Value).toArray 92)) := by kernel_rfl
theorem crna4 (w : World) : (isAgg 4).run Try.prog w = .ok false w := by kernel_rfl
theorem crfa87_0 (w : World) (b o : Nat) : (Instr.fieldAt 87 (.pointer (some ⟨b, o, none⟩)) 0).run Try.prog w = .ok (.pointer (some ⟨b, o + 0, none⟩)) w := by kernel_rfl
theorem crna84 (w : World) : (isAgg 84).run Try.prog w = .ok false w := by kernel_rfl
theorem crfa92_0 (w : World) (b o : Nat) : (Instr.fieldAt 92 (.pointer (some ⟨b, o, none⟩)) 0).run Try.prog w = .ok (.pointer (some ⟨b, o + 0, none⟩)) w := by kernel_rfl
theorem crfa92_1 (w : World) (b o : Nat) : (Instr.fieldAt 92 (.pointer (some ⟨b, o, none⟩)) 1).run Try.prog w = .ok (.pointer (some ⟨b, o + 1, none⟩)) w := by kernel_rfl
theorem cres84 (w : World) : (sizeOf (Try.prog.elem 84)).run Try.prog w = .ok 64 w := by kernel_rfl
theorem crsz85 : (Try.prog.info? 85).map (·.size) = some 1 := by kernel_rfl
theorem crfa87_2 (w : World) (b o : Nat) : (Instr.fieldAt 87 (.pointer (some ⟨b, o, none⟩)) 2).run Try.prog w = .ok (.pointer (some ⟨b, o + 2, none⟩)) w := by kernel_rfl
set_option maxRecDepth 100000 in
set_option maxHeartbeats 2000000 in
theorem diskCrash (B : Base) (H : List Res) (w : World) (p : Nat) (D : Disk) (F : List Nat) (ka : Option Addr) (n kc : Nat) (ks : List Int) (hv : Inv B (diskR p D F :: H) w) (hpl : D.pend.length ≤ 1000000000) (hn : ks.length = n) (hm : n ≤ 1000000000) (hks : ∀ w, Inv B H w → Ints w ka ks) (hw : ∀ k ∈ ks, -9223372036854775808 ≤ k ∧ k ≤ 9223372036854775807) :
    Calls Try.prog 25 #[.pointer (some ⟨p, 0, none⟩), .slice ka n kc] w fun e w' => e = .returned (.int .i64 ((D.kept ks).length : Int)) ∧ ∃ F', Inv B (diskR p (D.crash ks) F' :: H) w' := by
  obtain ⟨gd, vad, vc, hok, hv⟩ := Inv.diskOpen hv
  refine (callsIn_wide (n := 5)).1 ?_
  refine callsIn_of_wp_marks Try.func25 rfl trivial ?_ rfl
  simp only [Try.ntmps25, List.size_toArray, List.length_cons, List.length_nil, Nat.reduceAdd, Nat.reduceSub, Array.replicate_succ, Array.replicate_zero, List.push_toArray, List.append_toArray, List.nil_append, List.cons_append]
  refine wpIn_seq_k (fun K1 hK1 => ?_)
  refine wpIn_region_lit ?_
  refine sl_box (L := [.pointer (some ⟨p, 0, none⟩)]) (fun _ => trivial) (wn rfl) rfl (p := .pointer (some ⟨p, 0, none⟩)) rfl hv (fun w => by kernel_rfl) (fun b2 w3 hv => ?_)
  refine wpi_exG (v := .int .i64 0) (fun _ => trivial) (wn rfl) rfl (ex_assign rfl rfl) ?_
  refine wpListIn_nil ?_
  simp only [Act.put, List.setIfInBounds_toArray, List.set_cons_succ, List.set_cons_zero]
  refine then_normal (hK1 _ _ ?_)
  clear hK1 K1
  refine wpIn_seq_k (fun K4 hK4 => ?_)
  refine wpIn_region_lit ?_
  refine wpi_exG (v := .pointer (some ⟨p, 0, none⟩)) (fun _ => trivial) (wn rfl) rfl (ex_load rfl rfl (run_load1 crna36 (hv.load 0 0 rfl rfl))) ?_
  refine wpi_exG (v := .pointer (some ⟨p, 0, none⟩)) (fun _ => trivial) (wn rfl) rfl (ex_nil rfl rfl) ?_
  refine wpi_exG (v := .pointer (some ⟨p, 1, none⟩)) (fun _ => trivial) (wn rfl) rfl (ex_field rfl rfl (crfa87_1 _ _ _)) ?_
  simp only [Act.put, List.setIfInBounds_toArray, List.set_cons_succ, List.set_cons_zero]
  refine wpi_exG (v := .slice vad D.pend.length vc) (fun _ => trivial) (wn rfl) rfl (ex_load rfl rfl (run_load1 crna85 (hv.load 1 1 rfl rfl))) ?_
  refine wpi_exG (v := .int .i64 (D.pend.length : Int)) (fun _ => trivial) (wn rfl) rfl (ex_len0 Try.underlying85 rfl rfl) ?_
  refine sl_make1 (len := D.pend.length) (cap := D.pend.length) (fun _ => trivial) (wn rfl) rfl rfl rfl Try.underlying96 crmk4 rfl (by omega) (by unfold maxLen; omega) (by omega) hv (fun b5 w6 hv => ?_)
  simp only [Act.put, List.setIfInBounds_toArray, List.set_cons_succ, List.set_cons_zero]
  refine sl_alloc (fun _ => trivial) (wn rfl) rfl hv cral96 (fun b7 w8 hv => ?_)
  refine sl_storeAt 0 (v := .slice (some ⟨b5, 0, none⟩) D.pend.length D.pend.length) (L' := [.slice (some ⟨b5, 0, none⟩) D.pend.length D.pend.length]) (fun _ => trivial) (wn rfl) rfl rfl rfl hv rfl crsz96 (by simp) rfl rfl rfl (fun w9 hv => ?_)
  simp only [List.set_cons_succ, List.set_cons_zero] at hv
  refine wpListIn_nil ?_
  simp only [Act.put, List.setIfInBounds_toArray, List.set_cons_succ, List.set_cons_zero]
  refine then_normal (hK4 _ _ ?_)
  clear hK4 K4
  refine wpIn_seq_k (fun K10 hK10 => ?_)
  refine wpIn_seq_k (fun K11 hK11 => ?_)
  refine wpIn_region_lit ?_
  refine wpi_exG (v := .slice ka n kc) (fun _ => trivial) (wn rfl) rfl (ex_move rfl rfl) ?_
  refine wpi_exG (v := .int .i64 (n : Int)) (fun _ => trivial) (wn rfl) rfl (ex_len0 Try.underlying44 rfl rfl) ?_
  refine wpi_exG (v := .int .i64 0) (fun _ => trivial) (wn rfl) rfl (ex_move rfl rfl) ?_
  refine wpListIn_nil ?_
  simp only [Act.put, List.setIfInBounds_toArray, List.set_cons_succ, List.set_cons_zero]
  refine then_normal (hK11 _ _ ?_)
  clear hK11 K11
  refine wpIn_block ?_
  gi_loopw [19] (fun x19 wr => ∃ i : Nat, x19 = .int .i64 (i : Int) ∧ i ≤ n ∧ Inv B (Res.cell b7 [.slice (some ⟨b5, 0, none⟩) D.pend.length D.pend.length] 96 :: Res.cell b5 (boolsOf D.pend.length (ks.take i)) 4 :: Res.cell b2 [.pointer (some ⟨p, 0, none⟩)] 36 :: Res.cell p [.slice (some ⟨gd, 0, none⟩) D.dur.length D.dur.length, .slice vad D.pend.length vc, .int .i64 D.left] 87 :: Res.cell gd (durCells D.dur) 90 :: Res.row 92 65 (.slice vad D.pend.length vc) D.pend.length (pendCells D.pend) :: H) wr) (fun x19 _ => n - (intOf x19).toNat)
  case atStart => exact ⟨0, rfl, by omega, by rw [List.take_zero, boolsOf_nil]; exact hv⟩
  case round =>
    obtain ⟨i, rfl, hi, hv⟩ := hrel
    refine wpIn_seq_k (fun K13 hK13 => ?_)
    refine wpIn_region_lit ?_
    by_cases hb14 : (i : Int) < (n : Int)
    · refine wpi_exG (v := .bool true) (fun _ => trivial) (wn rfl) rfl (ex_lss (k := .i64) (m := (i : Int)) (n := (n : Int)) rfl rfl rfl (decide_eq_true hb14)) ?_
      refine wpListIn_nil ?_
      simp only [Act.put, List.setIfInBounds_toArray, List.set_cons_succ, List.set_cons_zero]
      refine then_normal (hK13 _ _ ?_)
      clear hK13 K13
      refine wpIn_seq_k (fun K15 hK15 => ?_)
      refine wpIn_cond_true rfl ?_
      refine wpIn_skip ?_
      refine then_normal (hK15 _ _ ?_)
      clear hK15 K15
      refine wpIn_seq_k (fun K16 hK16 => ?_)
      refine wpIn_block ?_
      refine wpIn_seq_k (fun K17 hK17 => ?_)
      refine wpIn_region_lit ?_
      have hin : i < n := by omega
      obtain ⟨ab, aoff, rfl, hcell⟩ := hks _ (hv.tail 6) i (by omega)
      have hk64 := hw _ (List.getElem_mem (show i < ks.length by omega))
      have htake : ks.take (i + 1) = ks.take i ++ [ks[i]] := by rw [List.take_succ_eq_append_getElem (by omega)]
      generalize ks[i]'(by omega) = v at *
      refine wpi_exG (v := .pointer (some ⟨ab, aoff + i, none⟩)) (fun _ => trivial) (wn rfl) rfl (ex_index rfl rfl rfl (run_idx1 (k := i) Try.underlying44 cres44 (by omega))) ?_
      refine wpi_exG (v := .int .i64 v) (fun _ => trivial) (wn rfl) rfl (ex_load rfl rfl (run_load1 crna3 hcell)) ?_
      refine wpi_exG (v := .int .i64 v) (fun _ => trivial) (wn rfl) rfl (ex_assign rfl rfl) ?_
      refine wpListIn_nil ?_
      simp only [Act.put, List.setIfInBounds_toArray, List.set_cons_succ, List.set_cons_zero]
      refine then_normal (hK17 _ _ ?_)
      clear hK17 K17
      refine wpIn_seq_k (fun K18 hK18 => ?_)
      refine wpIn_region_lit ?_
      refine wpi_exG (v := .int .i64 v) (fun _ => trivial) (wn rfl) rfl (ex_move rfl rfl) ?_
      by_cases hb19 : v ≥ 0
      · refine wpi_exG (v := .bool true) (fun _ => trivial) (wn rfl) rfl (ex_geq (k := .i64) (m := v) (n := 0) rfl rfl rfl (decide_eq_true hb19)) ?_
        refine wpi_exG (v := .bool true) (fun _ => trivial) (wn rfl) rfl (ex_move rfl rfl) ?_
        simp only [Act.put, List.setIfInBounds_toArray, List.set_cons_succ, List.set_cons_zero]
        refine wpi_exG (v := .int .i64 v) (fun _ => trivial) (wanted_of (j := 2) (d := 25) (b := true) rfl rfl rfl) rfl (ex_move rfl rfl) ?_
        refine wpi_exG (v := .slice (some ⟨b5, 0, none⟩) D.pend.length D.pend.length) (fun _ => trivial) (wanted_of (j := 2) (d := 25) (b := true) rfl rfl rfl) rfl (ex_load rfl rfl (run_load1 crna96 (hv.load 0 0 rfl rfl))) ?_
        refine wpi_exG (v := .int .i64 (D.pend.length : Int)) (fun _ => trivial) (wanted_of (j := 2) (d := 25) (b := true) rfl rfl rfl) rfl (ex_len0 Try.underlying96 rfl rfl) ?_
        simp only [Act.put, List.setIfInBounds_toArray, List.set_cons_succ, List.set_cons_zero]
        by_cases hb20 : v < (D.pend.length : Int)
        · obtain ⟨j, hvj⟩ : ∃ j : Nat, v = (j : Int) := ⟨v.toNat, by omega⟩
          have hj : j < D.pend.length := by omega
          skip
          refine wpi_exG (v := .bool true) (fun _ => trivial) (wanted_of (j := 2) (d := 25) (b := true) rfl rfl rfl) rfl (ex_lss (k := .i64) (m := v) (n := (D.pend.length : Int)) rfl rfl rfl (decide_eq_true hb20)) ?_
          refine wpi_exG (v := .bool true) (fun _ => trivial) (wn rfl) rfl (ex_pick (b := true) rfl rfl rfl) ?_
          refine wpListIn_nil ?_
          simp only [Act.put, List.setIfInBounds_toArray, List.set_cons_succ, List.set_cons_zero]
          refine then_normal (hK18 _ _ ?_)
          clear hK18 K18
          refine wpIn_cond_true rfl ?_
          refine wpIn_region_lit ?_
          refine wpi_exG (v := .slice (some ⟨b5, 0, none⟩) D.pend.length D.pend.length) (fun _ => trivial) (wn rfl) rfl (ex_load rfl rfl (run_load1 crna96 (hv.load 0 0 rfl rfl))) ?_
          refine wpi_exG (v := .int .i64 (j : Int)) (fun _ => trivial) (wn rfl) rfl (ex_move rfl (by rw [← hvj]; rfl)) ?_
          refine wpi_exG (v := .pointer (some ⟨b5, 0 + j, none⟩)) (fun _ => trivial) (wn rfl) rfl (ex_index rfl rfl rfl (run_idx1 (k := j) Try.underlying96 cres96 (by omega))) ?_
          simp only [Act.put, List.setIfInBounds_toArray, List.set_cons_succ, List.set_cons_zero]
          refine sl_storeAt 1 (v := .bool true) (L' := boolsOf D.pend.length (ks.take i ++ [(j : Int)])) (fun _ => trivial) (wn rfl) rfl rfl rfl hv rfl crsz4 (by rw [boolsOf_len]; omega) rfl rfl (boolsOf_set _ _ _ hj) (fun w21 hv => ?_)
          simp only [List.set_cons_succ, List.set_cons_zero] at hv
          refine wpListIn_nil ?_
          simp only [Act.put, List.setIfInBounds_toArray, List.set_cons_succ, List.set_cons_zero]
          refine blk_normal ?_
          refine then_normal (hK16 _ _ ?_)
          clear hK16 K16
          refine wpIn_region_lit ?_
          refine wpi_exG (v := .int .i64 ((i : Int) + 1)) (fun _ => trivial) (wn rfl) rfl (ex_add (m := (i : Int)) (n := 1) rfl rfl rfl (i64_in (by omega))) ?_
          refine wpi_exG (v := .int .i64 ((i : Int) + 1)) (fun _ => trivial) (wn rfl) rfl (ex_move rfl rfl) ?_
          refine wpListIn_nil ?_
          simp only [Act.put, List.setIfInBounds_toArray, List.set_cons_succ, List.set_cons_zero]
          refine then_normal ?_
          go_roundw
          case rel => exact ⟨i + 1, by simp, hin, by rw [htake, hvj]; exact hv⟩
          case measure => show n - ((i : Int) + 1).toNat < n - (i : Int).toNat; omega
        · skip
          refine wpi_exG (v := .bool false) (fun _ => trivial) (wanted_of (j := 2) (d := 25) (b := true) rfl rfl rfl) rfl (ex_lss (k := .i64) (m := v) (n := (D.pend.length : Int)) rfl rfl rfl (decide_eq_false hb20)) ?_
          refine wpi_exG (v := .bool false) (fun _ => trivial) (wn rfl) rfl (ex_pick (b := true) rfl rfl rfl) ?_
          refine wpListIn_nil ?_
          simp only [Act.put, List.setIfInBounds_toArray, List.set_cons_succ, List.set_cons_zero]
          refine then_normal (hK18 _ _ ?_)
          clear hK18 K18
          refine wpIn_cond_false rfl ?_
          refine wpIn_skip ?_
          refine blk_normal ?_
          refine then_normal (hK16 _ _ ?_)
          clear hK16 K16
          refine wpIn_region_lit ?_
          refine wpi_exG (v := .int .i64 ((i : Int) + 1)) (fun _ => trivial) (wn rfl) rfl (ex_add (m := (i : Int)) (n := 1) rfl rfl rfl (i64_in (by omega))) ?_
          refine wpi_exG (v := .int .i64 ((i : Int) + 1)) (fun _ => trivial) (wn rfl) rfl (ex_move rfl rfl) ?_
          refine wpListIn_nil ?_
          simp only [Act.put, List.setIfInBounds_toArray, List.set_cons_succ, List.set_cons_zero]
          refine then_normal ?_
          go_roundw
          case rel => exact ⟨i + 1, by simp, hin, by rw [htake, boolsOf_out _ _ v (.inr (by omega))]; exact hv⟩
          case measure => show n - ((i : Int) + 1).toNat < n - (i : Int).toNat; omega
      · skip
        refine wpi_exG (v := .bool false) (fun _ => trivial) (wn rfl) rfl (ex_geq (k := .i64) (m := v) (n := 0) rfl rfl rfl (decide_eq_false hb19)) ?_
        refine wpi_exG (v := .bool false) (fun _ => trivial) (wn rfl) rfl (ex_move rfl rfl) ?_
        simp only [Act.put, List.setIfInBounds_toArray, List.set_cons_succ, List.set_cons_zero]
        refine wpi_not (fun _ => trivial) (wanted_not (j := 2) (d := 25) (b := true) (b' := false) rfl rfl rfl (by decide)) ?_
        refine wpi_not (fun _ => trivial) (wanted_not (j := 2) (d := 25) (b := true) (b' := false) rfl rfl rfl (by decide)) ?_
        refine wpi_not (fun _ => trivial) (wanted_not (j := 2) (d := 25) (b := true) (b' := false) rfl rfl rfl (by decide)) ?_
        simp only [Act.put, List.setIfInBounds_toArray, List.set_cons_succ, List.set_cons_zero]
        refine wpi_not (fun _ => trivial) (wanted_not (j := 2) (d := 25) (b := true) (b' := false) rfl rfl rfl (by decide)) ?_
        refine wpi_exG (v := .bool false) (fun _ => trivial) (wn rfl) rfl (ex_pick (b := false) rfl rfl rfl) ?_
        refine wpListIn_nil ?_
        simp only [Act.put, List.setIfInBounds_toArray, List.set_cons_succ, List.set_cons_zero]
        refine then_normal (hK18 _ _ ?_)
        clear hK18 K18
        refine wpIn_cond_false rfl ?_
        refine wpIn_skip ?_
        refine blk_normal ?_
        refine then_normal (hK16 _ _ ?_)
        clear hK16 K16
        refine wpIn_region_lit ?_
        refine wpi_exG (v := .int .i64 ((i : Int) + 1)) (fun _ => trivial) (wn rfl) rfl (ex_add (m := (i : Int)) (n := 1) rfl rfl rfl (i64_in (by omega))) ?_
        refine wpi_exG (v := .int .i64 ((i : Int) + 1)) (fun _ => trivial) (wn rfl) rfl (ex_move rfl rfl) ?_
        refine wpListIn_nil ?_
        simp only [Act.put, List.setIfInBounds_toArray, List.set_cons_succ, List.set_cons_zero]
        refine then_normal ?_
        go_roundw
        case rel => exact ⟨i + 1, by simp, hin, by rw [htake, boolsOf_out _ _ v (.inl (by omega))]; exact hv⟩
        case measure => show n - ((i : Int) + 1).toNat < n - (i : Int).toNat; omega
    · rw [List.take_of_length_le (by omega)] at hv
      skip
      refine wpi_exG (v := .bool false) (fun _ => trivial) (wn rfl) rfl (ex_lss (k := .i64) (m := (i : Int)) (n := (n : Int)) rfl rfl rfl (decide_eq_false hb14)) ?_
      refine wpListIn_nil ?_
      simp only [Act.put, List.setIfInBounds_toArray, List.set_cons_succ, List.set_cons_zero]
      refine then_normal (hK13 _ _ ?_)
      clear hK13 K13
      refine wpIn_seq_k (fun K22 hK22 => ?_)
      refine wpIn_cond_false rfl ?_
      refine wpIn_exit ?_
      refine then_exit ?_
      clear hK22 K22
      refine then_exit ?_
      refine blk_hit ?_
      refine then_normal (hK10 _ _ ?_)
      clear hK10 K10
      refine wpIn_seq_k (fun K23 hK23 => ?_)
      refine wpIn_region_lit ?_
      refine sl_alloc (fun _ => trivial) (wn rfl) rfl hv cral3 (fun b24 w25 hv => ?_)
      refine sl_storeAt 0 (v := .int .i64 0) (L' := [.int .i64 0]) (fun _ => trivial) (wn rfl) rfl rfl rfl hv rfl crsz3 (by simp) rfl rfl rfl (fun w26 hv => ?_)
      simp only [List.set_cons_succ, List.set_cons_zero] at hv
      refine wpListIn_nil ?_
      simp only [Act.put, List.setIfInBounds_toArray, List.set_cons_succ, List.set_cons_zero]
      refine then_normal (hK23 _ _ ?_)
      clear hK23 K23
      refine wpIn_seq_k (fun K27 hK27 => ?_)
      refine wpIn_seq_k (fun K28 hK28 => ?_)
      refine wpIn_region_lit ?_
      refine wpi_exG (v := .pointer (some ⟨p, 0, none⟩)) (fun _ => trivial) (wn rfl) rfl (ex_load rfl rfl (run_load1 crna36 (hv.load 3 0 rfl rfl))) ?_
      refine wpi_callG crcallable46 (fun _ => trivial) wideC rfl (wn rfl) rfl (args := #[.pointer (some ⟨p, 0, none⟩)]) (by simp only [List.map_toArray, List.map_cons, List.map_nil]; rfl) ((diskWritesSl B _ _ _ hv).mono ?_)
      rintro e w30 ⟨b29, rfl, hv⟩
      refine ⟨_, rfl, ?_⟩
      refine wpListIn_nil ?_
      simp only [Act.put, List.setIfInBounds_toArray, List.set_cons_succ, List.set_cons_zero]
      refine then_normal (hK28 _ _ ?_)
      clear hK28 K28
      refine wpIn_block ?_
      have hmax := hok.max
      have hP := Inv.diskParts hok (((hv.front 7 rfl).front 7 rfl).front 7 rfl)
      have hcB := hv.load 0 0 (b := b29) rfl rfl
      have hlts := fun (r : Res) (hr : r ∈ ([Res.cell b29 [.pointer (some ⟨p, 0, none⟩)] 36, Res.cell b24 [.int .i64 0] 3, Res.cell b7 [.slice (some ⟨b5, 0, none⟩) D.pend.length D.pend.length] 96, Res.cell b5 (boolsOf D.pend.length ks) 4, Res.cell b2 [.pointer (some ⟨p, 0, none⟩)] 36, Res.cell p [.slice (some ⟨gd, 0, none⟩) D.dur.length D.dur.length, .slice vad D.pend.length vc, .int .i64 D.left] 87, Res.cell gd (durCells D.dur) 90] : List Res)) => hv.lt r (List.mem_append_left (Res.row 92 65 (.slice vad D.pend.length vc) D.pend.length (pendCells D.pend) :: H) hr)
      refine sl_writes (by omega) (bw := b29) (p := p) (gd := gd) (D := D) rfl hP hcB (by omega) rfl (K := [Res.cell b29 [.pointer (some ⟨p, 0, none⟩)] 36, Res.cell b24 [.int .i64 0] 3, Res.cell b7 [.slice (some ⟨b5, 0, none⟩) D.pend.length D.pend.length] 96, Res.cell b5 (boolsOf D.pend.length ks) 4, Res.cell b2 [.pointer (some ⟨p, 0, none⟩)] 36, Res.cell p [.slice (some ⟨gd, 0, none⟩) D.dur.length D.dur.length, .slice vad D.pend.length vc, .int .i64 D.left] 87, Res.cell gd (durCells D.dur) 90]) (H := Res.row 92 65 (.slice vad D.pend.length vc) D.pend.length (pendCells D.pend) :: H) hv (fun g hg => by rw [List.flatMap_cons]; exact List.mem_append_left _ (by simp [hg])) (fun pre => [Res.cell b29 [.pointer (some ⟨p, 0, none⟩)] 36, Res.cell b24 [.int .i64 ((keptOf ks pre).length : Int)] 3, Res.cell b7 [.slice (some ⟨b5, 0, none⟩) D.pend.length D.pend.length] 96, Res.cell b5 (boolsOf D.pend.length ks) 4, Res.cell b2 [.pointer (some ⟨p, 0, none⟩)] 36, Res.cell p [.slice (some ⟨gd, 0, none⟩) D.dur.length D.dur.length, .slice vad D.pend.length vc, .int .i64 D.left] 87, Res.cell gd (durCells ((keptOf ks pre).foldl Disk.put D.dur)) 90]) rfl (fun x b => { tmps := #[.pointer (some ⟨p, 0, none⟩), .slice ka n kc, .pointer (some ⟨b2, 0, none⟩), undef, .int .i64 0, .pointer (some ⟨b7, 0, none⟩), undef, u7, .pointer (some ⟨b24, 0, none⟩), .int .i64 (x.1.1 : Int), .pointer (some ⟨b, 0, none⟩), .pointer (some ⟨p, 0, none⟩), .pointer (some ⟨p, 0, none⟩), .pointer (some ⟨p, 1, none⟩), .slice vad D.pend.length vc, .int .i64 (D.pend.length : Int), .slice (some ⟨b5, 0, none⟩) D.pend.length D.pend.length, .slice ka n kc, .int .i64 (n : Int), .int .i64 (i : Int), .bool false, u21, u22, u23, u24, u25, u26, u27, u28, u29, u30, u31, u32, u33, u34, .pointer (some ⟨p, 0, none⟩), .func (.func 57) #[] #[.pointer (some ⟨b29, 0, none⟩)], .int .i64 (x.1.1 : Int), .agg (wrCells x.1.2).toArray, undef, undef, undef, undef, undef, undef, undef, undef, undef, undef, undef, undef, undef, undef, undef, undef, undef, undef, undef, undef, undef, undef], defers := [] }) ?cel ?fp ?assign ?body ?done
      case cel =>
        intro pre r hr
        simp only [List.mem_cons, List.not_mem_nil, or_false] at hr
        rcases hr with rfl | rfl | rfl | rfl | rfl | rfl | rfl
        all_goals exact celled_cell _ _ _
      case fp =>
        intro pre r hr b hb
        simp only [List.mem_cons, List.not_mem_nil, or_false] at hr
        rcases hr with rfl | rfl | rfl | rfl | rfl | rfl | rfl
        · rw [show b = _ from List.mem_singleton.1 hb]; exact hlts (Res.cell b29 [.pointer (some ⟨p, 0, none⟩)] 36) (by simp) _ (by simp)
        · rw [show b = _ from List.mem_singleton.1 hb]; exact hlts (Res.cell b24 [.int .i64 0] 3) (by simp) _ (by simp)
        · rw [show b = _ from List.mem_singleton.1 hb]; exact hlts (Res.cell b7 [.slice (some ⟨b5, 0, none⟩) D.pend.length D.pend.length] 96) (by simp) _ (by simp)
        · rw [show b = _ from List.mem_singleton.1 hb]; exact hlts (Res.cell b5 (boolsOf D.pend.length ks) 4) (by simp) _ (by simp)
        · rw [show b = _ from List.mem_singleton.1 hb]; exact hlts (Res.cell b2 [.pointer (some ⟨p, 0, none⟩)] 36) (by simp) _ (by simp)
        · rw [show b = _ from List.mem_singleton.1 hb]; exact hlts (Res.cell p [.slice (some ⟨gd, 0, none⟩) D.dur.length D.dur.length, .slice vad D.pend.length vc, .int .i64 D.left] 87) (by simp) _ (by simp)
        · rw [show b = _ from List.mem_singleton.1 hb]; exact hlts (Res.cell gd (durCells D.dur) 90) (by simp) _ (by simp)
      case assign =>
        intro l pre x w B' hB' hv
        have hx := pendEl_len hok x
        simp only [pendEnc, List.zip_toArray, List.zip_cons_cons, List.zip_nil_left, List.zip_nil_right, List.foldl_toArray', List.foldl_cons, List.foldl_nil, List.setIfInBounds_toArray, List.set_cons_succ, List.set_cons_zero]
        refine wpIn_seq_k (fun K31 hK31 => ?_)
        refine wpIn_region_lit ?_
        refine wpi_exG (v := .int .i64 (x.1.1 : Int)) (fun _ => trivial) (wn rfl) rfl (ex_assign rfl rfl) ?_
        refine wpListIn_nil ?_
        simp only [Act.put, List.setIfInBounds_toArray, List.set_cons_succ, List.set_cons_zero]
        refine then_normal (hK31 _ _ ?_)
        clear hK31 K31
        refine wpIn_region_lit ?_
        refine sl_alloc (fun _ => trivial) (wn rfl) rfl hv cral92 (fun b32 w33 hv => ?_)
        refine sl_storeNAt 0 (new := wrCells x.1.2) (pre := []) (mid := [.int .i64 0, .int .u8 0, .int .u8 0, .int .u8 0, .int .u8 0, .int .u8 0, .int .u8 0, .int .u8 0, .int .u8 0, .int .u8 0, .int .u8 0, .int .u8 0, .int .u8 0, .int .u8 0, .int .u8 0, .int .u8 0, .int .u8 0, .int .u8 0, .int .u8 0, .int .u8 0, .int .u8 0, .int .u8 0, .int .u8 0, .int .u8 0, .int .u8 0, .int .u8 0, .int .u8 0, .int .u8 0, .int .u8 0, .int .u8 0, .int .u8 0, .int .u8 0, .int .u8 0, .int .u8 0, .int .u8 0, .int .u8 0, .int .u8 0, .int .u8 0, .int .u8 0, .int .u8 0, .int .u8 0, .int .u8 0, .int .u8 0, .int .u8 0, .int .u8 0, .int .u8 0, .int .u8 0, .int .u8 0, .int .u8 0, .int .u8 0, .int .u8 0, .int .u8 0, .int .u8 0, .int .u8 0, .int .u8 0, .int .u8 0, .int .u8 0, .int .u8 0, .int .u8 0, .int .u8 0, .int .u8 0, .int .u8 0, .int .u8 0, .int .u8 0, .int .u8 0]) (post := []) (L' := wrCells x.1.2) (fun _ => trivial) (wn rfl) rfl rfl rfl hv rfl (szWrite _ (wrLen hx.2)) rfl rfl (by rw [wrLen hx.2]; rfl) (wrOne _) (by simp) (fun w34 hv => ?_)
        simp only [List.set_cons_succ, List.set_cons_zero] at hv
        refine wpListIn_nil ?_
        simp only [Act.put, List.setIfInBounds_toArray, List.set_cons_succ, List.set_cons_zero]
        exact ⟨by trivial, _, rfl, hv⟩
      case body =>
        intro l pre x b w B' hB' hv hN
        have hx := pendEl_len hok x
        have hds : ∀ s ∈ (keptOf ks pre).foldl Disk.put D.dur, s.length = 64 := Disk.foldl_put_mem hok.dur (fun q hq => by obtain ⟨y, _, rfl⟩ := List.mem_map.1 hq; exact (pendEl_len hok y).2)
        have hxd : x.1.2.1 < ((keptOf ks pre).foldl Disk.put D.dur).length := by rw [Disk.foldl_put_length]; exact hx.1
        have hxn : x.1.1 < D.pend.length := (List.getElem?_eq_some_iff.1 x.2).1
        have hkl := keptOf_le ks pre
        refine wpIn_block ?_
        refine wpIn_seq_k (fun K35 hK35 => ?_)
        refine wpIn_region_lit ?_
        refine wpi_exG (v := .slice (some ⟨b5, 0, none⟩) D.pend.length D.pend.length) (fun _ => trivial) (wn rfl) rfl (ex_load rfl rfl (run_load1 crna96 (hv.load 3 0 rfl rfl))) ?_
        refine wpi_exG (v := .int .i64 (x.1.1 : Int)) (fun _ => trivial) (wn rfl) rfl (ex_move rfl rfl) ?_
        refine wpi_exG (v := .pointer (some ⟨b5, 0 + x.1.1, none⟩)) (fun _ => trivial) (wn rfl) rfl (ex_index rfl rfl rfl (run_idx1 (k := x.1.1) Try.underlying96 cres96 (by omega))) ?_
        simp only [Act.put, List.setIfInBounds_toArray, List.set_cons_succ, List.set_cons_zero]
        rcases hkc : ks.contains (x.1.1 : Int)
        · refine wpi_exG (v := .bool false) (fun _ => trivial) (wn rfl) rfl (ex_load rfl rfl (run_load1 crna4 (hv.load 4 (0 + x.1.1) rfl (boolsOf_get _ _ _ hxn hkc)))) ?_
          refine wpListIn_nil ?_
          simp only [Act.put, List.setIfInBounds_toArray, List.set_cons_succ, List.set_cons_zero]
          refine then_normal (hK35 _ _ ?_)
          clear hK35 K35
          refine wpIn_cond_false rfl ?_
          refine wpIn_skip ?_
          refine blk_normal ?_
          rw [keptOf_no hkc]
          exact ⟨by trivial, hv.drop⟩
        · refine wpi_exG (v := .bool true) (fun _ => trivial) (wn rfl) rfl (ex_load rfl rfl (run_load1 crna4 (hv.load 4 (0 + x.1.1) rfl (boolsOf_get _ _ _ hxn hkc)))) ?_
          refine wpListIn_nil ?_
          simp only [Act.put, List.setIfInBounds_toArray, List.set_cons_succ, List.set_cons_zero]
          refine then_normal (hK35 _ _ ?_)
          clear hK35 K35
          refine wpIn_cond_true rfl ?_
          refine wpIn_seq_k (fun K36 hK36 => ?_)
          refine region_stR mixed (fun ⟨_, _, h⟩ => by simp [Exit.then, Exit.inBlock] at h) [.pointer (some ⟨p, 0, none⟩), .pointer (some ⟨p, 0, none⟩), .pointer (some ⟨p, 0, none⟩), .slice (some ⟨gd, 0, none⟩) D.dur.length D.dur.length, .pointer (some ⟨b, 0, none⟩), .int .i64 (x.1.2.1 : Int), .pointer (some ⟨b, 1, none⟩), .agg (x.1.2.2.map B8).toArray, .pointer (some ⟨gd, 0 + x.1.2.1 * 64, none⟩), undef] [9] [⟨fun vals w => vals = [] ∧ Inv B' (Res.cell b (wrCells x.1.2) 92 :: Res.cell b29 [.pointer (some ⟨p, 0, none⟩)] 36 :: Res.cell b24 [.int .i64 ((keptOf ks pre).length : Int)] 3 :: Res.cell b7 [.slice (some ⟨b5, 0, none⟩) D.pend.length D.pend.length] 96 :: Res.cell b5 (boolsOf D.pend.length ks) 4 :: Res.cell b2 [.pointer (some ⟨p, 0, none⟩)] 36 :: Res.cell p [.slice (some ⟨gd, 0, none⟩) D.dur.length D.dur.length, .slice vad D.pend.length vc, .int .i64 D.left] 87 :: Res.cell gd (durCells ((keptOf ks pre).foldl Disk.put D.dur)) 90 :: []) w, fun _ _ _ ⟨h, hi⟩ he => ⟨h, hi.ext he⟩⟩, ⟨fun vals w => vals = [undef] ∧ Inv B' (Res.cell b (wrCells x.1.2) 92 :: Res.cell b29 [.pointer (some ⟨p, 0, none⟩)] 36 :: Res.cell b24 [.int .i64 ((keptOf ks pre).length : Int)] 3 :: Res.cell b7 [.slice (some ⟨b5, 0, none⟩) D.pend.length D.pend.length] 96 :: Res.cell b5 (boolsOf D.pend.length ks) 4 :: Res.cell b2 [.pointer (some ⟨p, 0, none⟩)] 36 :: Res.cell p [.slice (some ⟨gd, 0, none⟩) D.dur.length D.dur.length, .slice vad D.pend.length vc, .int .i64 D.left] 87 :: Res.cell gd (durCells (((keptOf ks pre).foldl Disk.put D.dur).set x.1.2.1 x.1.2.2)) 90 :: []) w, fun _ _ _ ⟨h, hi⟩ he => ⟨h, hi.ext he⟩⟩] 61 rfl (by kernel_rfl) (by kernel_rfl) ⟨rfl, hv⟩ ⟨?_, ?_, ?_, ?_, ?_, ?_, ?_, ?_, ?_, ?_, trivial⟩ ?_
          · intro aa ww vals hJ hR
            have h2 : vals.length ≤ 0 := hR.hi 9 (by simp) rfl
            have hl : vals.length = 0 := by omega
            obtain ⟨hvals, hv⟩ := hJ.at0 hl
            exact add_step' rfl (Ex.adds' (ex_load rfl (show aa.eval (.tmp 2) = _ from hR.keep 2 rfl) (run_load1 crna36 (hv.load 5 0 rfl rfl))) (wn rfl) rfl)
          · intro aa ww vals hJ hR
            exact add_step' rfl (Ex.adds' (ex_nil rfl (show aa.eval (.tmp 43) = _ from hR.v 0 43 rfl rfl rfl rfl)) (wn rfl) rfl)
          · intro aa ww vals hJ hR
            exact add_step' rfl (Ex.adds' (ex_field rfl (show aa.eval (.tmp 44) = _ from hR.v 1 44 rfl rfl rfl rfl) (crfa87_0 _ _ _)) (wn rfl) rfl)
          · intro aa ww vals hJ hR
            have h2 : vals.length ≤ 0 := hR.hi 9 (by simp) rfl
            have hl : vals.length = 0 := by omega
            obtain ⟨hvals, hv⟩ := hJ.at0 hl
            exact add_step' rfl (Ex.adds' (ex_load rfl (show aa.eval (.tmp 45) = _ from hR.v 2 45 rfl rfl rfl rfl) (run_load1 crna84 (hv.load 6 0 rfl rfl))) (wn rfl) rfl)
          · intro aa ww vals hJ hR
            exact add_step' rfl (Ex.adds' (ex_field rfl (show aa.eval (.tmp 10) = _ from hR.keep 10 rfl) (crfa92_0 _ _ _)) (wn rfl) rfl)
          · intro aa ww vals hJ hR
            have h2 : vals.length ≤ 0 := hR.hi 9 (by simp) rfl
            have hl : vals.length = 0 := by omega
            obtain ⟨hvals, hv⟩ := hJ.at0 hl
            exact add_step' rfl (Ex.adds' (ex_load rfl (show aa.eval (.tmp 47) = _ from hR.v 4 47 rfl rfl rfl rfl) (run_load1 crna3 (hv.load 0 0 rfl rfl))) (wn rfl) rfl)
          · intro aa ww vals hJ hR
            exact add_step' rfl (Ex.adds' (ex_field rfl (show aa.eval (.tmp 10) = _ from hR.keep 10 rfl) (crfa92_1 _ _ _)) (wn rfl) rfl)
          · intro aa ww vals hJ hR
            have h2 : vals.length ≤ 0 := hR.hi 9 (by simp) rfl
            have hl : vals.length = 0 := by omega
            obtain ⟨hvals, hv⟩ := hJ.at0 hl
            exact add_step' rfl (Ex.adds' (ex_load rfl (show aa.eval (.tmp 49) = _ from hR.v 6 49 rfl rfl rfl rfl) (loadW1 (x := x.1.2) hx.2 (hv.get 0 rfl))) (wn rfl) rfl)
          · intro aa ww vals hJ hR
            exact add_step' rfl (Ex.adds' (ex_index rfl (show aa.eval (.tmp 46) = _ from hR.v 3 46 rfl rfl rfl rfl) (show aa.eval (.tmp 48) = _ from hR.v 5 48 rfl rfl rfl rfl) (run_idx (k := x.1.2.1) Try.underlying84 cres84 (by omega))) (wn rfl) rfl)
          · intro aa ww vals hJ hR
            refine mem_step' rfl fun hvl => ?_
            have hl : vals.length = 0 := hvl
            obtain ⟨hvals, hv⟩ := hJ.at0 hl
            exact ExU.mem (ex_store rfl (show aa.eval (.tmp 51) = _ from hR.v 8 51 rfl rfl rfl rfl) (show aa.eval (.tmp 50) = _ from hR.v 7 50 rfl rfl rfl rfl) (storeSec (hv.get 7 rfl) hds x.1.2.1 hxd x.1.2.2 hx.2)) (wn rfl) (JS.next hl ⟨by rw [hvals]; rfl, (hv.putAt 7 rfl _)⟩)
          rintro w37 vals ⟨rfl, hv⟩
          rw [show mixV [9] [undef] 0 [.pointer (some ⟨p, 0, none⟩), .pointer (some ⟨p, 0, none⟩), .pointer (some ⟨p, 0, none⟩), .slice (some ⟨gd, 0, none⟩) D.dur.length D.dur.length, .pointer (some ⟨b, 0, none⟩), .int .i64 (x.1.2.1 : Int), .pointer (some ⟨b, 1, none⟩), .agg (x.1.2.2.map B8).toArray, .pointer (some ⟨gd, 0 + x.1.2.1 * 64, none⟩), undef] = [.pointer (some ⟨p, 0, none⟩), .pointer (some ⟨p, 0, none⟩), .pointer (some ⟨p, 0, none⟩), .slice (some ⟨gd, 0, none⟩) D.dur.length D.dur.length, .pointer (some ⟨b, 0, none⟩), .int .i64 (x.1.2.1 : Int), .pointer (some ⟨b, 1, none⟩), .agg (x.1.2.2.map B8).toArray, .pointer (some ⟨gd, 0 + x.1.2.1 * 64, none⟩), undef] from rfl]
          simp only [putAll, Act.put, List.setIfInBounds_toArray, List.set_cons_succ, List.set_cons_zero]
          refine then_normal (hK36 _ _ ?_)
          clear hK36 K36
          refine wpIn_region_lit ?_
          refine wpi_exG (v := .int .i64 ((keptOf ks pre).length : Int)) (fun _ => trivial) (wn rfl) rfl (ex_load rfl rfl (run_load1 crna3 (hv.load 2 0 rfl rfl))) ?_
          refine wpi_exG (v := .int .i64 (((keptOf ks pre).length : Int) + 1)) (fun _ => trivial) (wn rfl) rfl (ex_add (m := ((keptOf ks pre).length : Int)) (n := 1) rfl rfl rfl (i64_in (by omega))) ?_
          refine sl_storeAt 2 (v := .int .i64 (((keptOf ks pre).length : Int) + 1)) (L' := [.int .i64 (((keptOf ks pre).length : Int) + 1)]) (fun _ => trivial) (wn rfl) rfl rfl rfl hv rfl crsz3 (by simp) rfl rfl rfl (fun w38 hv => ?_)
          simp only [List.set_cons_succ, List.set_cons_zero] at hv
          refine wpListIn_nil ?_
          simp only [Act.put, List.setIfInBounds_toArray, List.set_cons_succ, List.set_cons_zero]
          refine blk_normal ?_
          rw [keptOf_yes hkc, List.foldl_append, List.length_append]
          exact ⟨by trivial, hv.drop⟩
      case done =>
        intro d39 xs w40 hS hv
        simp only [List.cons_append, List.nil_append] at hv
        refine blk_normal ?_
        refine then_normal (hK27 _ _ ?_)
        clear hK27 K27
        refine wpIn_seq_k (fun K41 hK41 => ?_)
        refine wpIn_region_lit ?_
        refine wpi_exG (v := .pointer (some ⟨p, 0, none⟩)) (fun _ => trivial) (wn rfl) rfl (ex_load rfl rfl (run_load1 crna36 (hv.load 5 0 rfl rfl))) ?_
        refine wpi_exG (v := .pointer (some ⟨p, 0, none⟩)) (fun _ => trivial) (wn rfl) rfl (ex_nil rfl rfl) ?_
        refine wpi_exG (v := .pointer (some ⟨p, 1, none⟩)) (fun _ => trivial) (wn rfl) rfl (ex_field rfl rfl (crfa87_1 _ _ _)) ?_
        simp only [Act.put, List.setIfInBounds_toArray, List.set_cons_succ, List.set_cons_zero]
        refine sl_storeAt 6 (v := .slice none 0 0) (L' := [.slice (some ⟨gd, 0, none⟩) D.dur.length D.dur.length, .slice none 0 0, .int .i64 D.left]) (fun _ => trivial) (wn rfl) rfl rfl rfl hv rfl crsz85 (by simp) rfl rfl rfl (fun w42 hv => ?_)
        simp only [List.set_cons_succ, List.set_cons_zero] at hv
        refine wpListIn_nil ?_
        simp only [Act.put, List.setIfInBounds_toArray, List.set_cons_succ, List.set_cons_zero]
        refine then_normal (hK41 _ _ ?_)
        clear hK41 K41
        refine wpIn_seq_k (fun K43 hK43 => ?_)
        refine wpIn_region_lit ?_
        refine wpi_exG (v := .pointer (some ⟨p, 0, none⟩)) (fun _ => trivial) (wn rfl) rfl (ex_load rfl rfl (run_load1 crna36 (hv.load 5 0 rfl rfl))) ?_
        refine wpi_exG (v := .pointer (some ⟨p, 0, none⟩)) (fun _ => trivial) (wn rfl) rfl (ex_nil rfl rfl) ?_
        refine wpi_exG (v := .pointer (some ⟨p, 2, none⟩)) (fun _ => trivial) (wn rfl) rfl (ex_field rfl rfl (crfa87_2 _ _ _)) ?_
        simp only [Act.put, List.setIfInBounds_toArray, List.set_cons_succ, List.set_cons_zero]
        refine sl_storeAt 6 (v := .int .i64 (-1)) (L' := [.slice (some ⟨gd, 0, none⟩) D.dur.length D.dur.length, .slice none 0 0, .int .i64 (-1)]) (fun _ => trivial) (wn rfl) rfl rfl rfl hv rfl crsz3 (by simp) rfl rfl rfl (fun w44 hv => ?_)
        simp only [List.set_cons_succ, List.set_cons_zero] at hv
        refine wpListIn_nil ?_
        simp only [Act.put, List.setIfInBounds_toArray, List.set_cons_succ, List.set_cons_zero]
        refine then_normal (hK43 _ _ ?_)
        clear hK43 K43
        refine wpIn_seq_k (fun K45 hK45 => ?_)
        refine wpIn_region_lit ?_
        refine wpi_exG (v := .int .i64 ((keptOf ks xs).length : Int)) (fun _ => trivial) (wn rfl) rfl (ex_load rfl rfl (run_load1 crna3 (hv.load 2 0 rfl rfl))) ?_
        refine wpi_exG (v := .int .i64 ((keptOf ks xs).length : Int)) (fun _ => trivial) (wn rfl) rfl (ex_assign rfl rfl) ?_
        refine wpListIn_nil ?_
        simp only [Act.put, List.setIfInBounds_toArray, List.set_cons_succ, List.set_cons_zero]
        refine then_normal (hK45 _ _ ?_)
        clear hK45 K45
        refine wpIn_ret ?_
        refine sl_end1 hv (fun w46 hv => ⟨_, results_tmp rfl _ _ _, ?_⟩)
        rw [keptOf_all hS] at hv ⊢
        exact ⟨rfl, crashEnd hok ((hv.tail 5).front 2 rfl).drop⟩
end Go.Proofs.Ytkannfkjnohdlaa
/- disk.Read -/
namespace Go.Proofs.Ytkannfkjnohdlaa
open Go.RowKit Go.Pm
theorem Disk.view_len (E : Disk) (l : List (Nat × List UInt8)) (at_ n : Nat) : (E.view l at_ n).length = n := by simp [Disk.view]
theorem Disk.over_len {l : List (Nat × List UInt8)} {s : List UInt8} (hl : ∀ p ∈ l, p.2.length = 64) (hs : s.length = 64) (i : Nat) : (Disk.over l i s).length = 64 := by
  unfold Disk.over
  induction l generalizing s with
  | nil => exact hs
  | cons p l ih =>
    rw [List.foldl_cons]
    refine ih (fun q hq => hl q (by simp [hq])) ?_
    split
    · exact hl p (by simp)
    · exact hs
theorem Disk.view_64 {E : Disk} (hok : E.Ok) {l : List (Nat × List UInt8)} (hl : ∀ p ∈ l, p.2.length = 64) {at_ n : Nat} (h : at_ + n ≤ E.dur.length) : ∀ s ∈ E.view l at_ n, s.length = 64 := by
  intro s hs
  obtain ⟨k, hk, rfl⟩ := List.mem_map.1 hs
  have hk := List.mem_range.1 hk
  refine Disk.over_len hl ?_ _
  rw [List.getD_eq_getElem?_getD, List.getElem?_eq_getElem (by omega)]
  exact hok.dur _ (List.getElem_mem _)
theorem Disk.view_succ (E : Disk) (at_ i : Nat) (h : at_ + i < E.dur.length) : E.view [] at_ (i + 1) = E.view [] at_ i ++ [E.dur[at_ + i]] := by
  unfold Disk.view Disk.over
  rw [List.range_succ, List.map_append]
  simp [List.getD_eq_getElem?_getD, List.getElem?_eq_getElem h]
theorem Disk.over_snoc (l : List (Nat × List UInt8)) (x : Nat × List UInt8) (i : Nat) (s : List UInt8) : Disk.over (l ++ [x]) i s = if x.1 = i then x.2 else Disk.over l i s := by
  unfold Disk.over
  rw [List.foldl_append]
  rfl
theorem Disk.view_in (E : Disk) (l : List (Nat × List UInt8)) (x : Nat × List UInt8) (at_ n : Nat) (h1 : at_ ≤ x.1) : (E.view l at_ n).set (x.1 - at_) x.2 = E.view (l ++ [x]) at_ n := by
  apply List.ext_getElem
  · simp [Disk.view]
  · intro i h2 h3
    rw [List.getElem_set]
    simp only [Disk.view, List.getElem_map, List.getElem_range, Disk.over_snoc]
    by_cases hi : x.1 - at_ = i
    · rw [if_pos hi, if_pos (by omega)]
    · rw [if_neg hi, if_neg (by omega)]
theorem Disk.view_out (E : Disk) (l : List (Nat × List UInt8)) (x : Nat × List UInt8) (at_ n : Nat) (h : x.1 < at_ ∨ at_ + n ≤ x.1) : E.view (l ++ [x]) at_ n = E.view l at_ n := by
  unfold Disk.view
  apply List.map_congr_left
  intro k hk
  have hk := List.mem_range.1 hk
  rw [Disk.over_snoc, if_neg (by omega)]
theorem durCells_app (a b : List (List UInt8)) : durCells (a ++ b) = durCells a ++ durCells b := by simp [durCells]
theorem elem8 : Elem Try.prog 24 5 (.int .u8 0) 1 1 := by
  refine ⟨Try.underlying24, ?_, rfl, by omega⟩
  obtain ⟨i, hi, h⟩ := Option.map_eq_some_iff.1 (show (Try.prog.info? 5).map (fun i => (i.zero, i.size, i.bytes)) = some (some (.int .u8 0), 1, 1) by kernel_rfl)
  simp only [Prod.mk.injEq] at h
  exact ⟨i, hi, h⟩
theorem durSrc {w : World} {gd : Nat} {d : List (List UInt8)} (hb : Blk w gd (durCells d) 90) (hd : ∀ s ∈ d, s.length = 64) (k : Nat) (hk : k < d.length) : Src w (some ⟨gd, 0 + k * 64, none⟩) (d[k].map B8) := by
  rw [durCells_split d k hk] at hb
  refine src_mid hb ?_
  rw [durCells_length (fun s hs => hd s (List.mem_of_mem_take hs)), List.length_take, Nat.min_eq_left (Nat.le_of_lt hk)]
  omega
section
variable {a : Act} {o : Oper} {x y : Operand} {w : World}
theorem rdAppend {bb gd at_ i n : Nat} {E : Disk} (hok : E.Ok) (hin : i < n) (hat : at_ + n ≤ E.dur.length) (ho : o.op = .call { callee := .builtin .append, args := #[x, y], argTypes := #[24, 24] })
    (hx : a.eval x = .slice (some ⟨bb, 0, none⟩) (i * 64) (n * 64)) (hy : a.eval y = .slice (some ⟨gd, 0 + (at_ + i) * 64, none⟩) 64 64) (hb : Blk w bb (durCells (E.view [] at_ i) ++ List.replicate (64 * (n - i)) (.int .u8 0)) 5) (hg : Blk w gd (durCells E.dur) 90) :
    Ex Try.prog a o w (.slice (some ⟨bb, 0, none⟩) (i * 64 + 64) (n * 64)) (setBlk w bb (durCells (E.view [] at_ (i + 1)) ++ List.replicate (64 * (n - (i + 1))) (Value.int .u8 0))) := by
  have hl : (E.dur[at_ + i]).length = 64 := hok.dur _ (List.getElem_mem _)
  have e1 : List.replicate (64 * (n - i)) (Value.int .u8 0) = List.replicate 64 (.int .u8 0) ++ List.replicate (64 * (n - (i + 1))) (Value.int .u8 0) := by rw [List.replicate_append_replicate]; congr 1; omega
  rw [e1, ← List.append_assoc] at hb
  have := ex_appendRoom (P := Try.prog) (l := i * 64) (c := n * 64) (m := 64) (news := (E.dur[at_ + i]).map B8) elem8 ho hx hy hb (by rw [durCells_length (Disk.view_64 hok (by simp) (by omega)), Disk.view_len]) (by simp) (by simp [hl]) (by omega) (durSrc hg hok.dur (at_ + i) (by omega)) (oneCell_bytes _)
  rw [Disk.view_succ E at_ i (by omega), durCells_app]
  simpa [durCells] using this
theorem rdCopy {bb b at_ n : Nat} {E : Disk} (hok : E.Ok) {l : List (Nat × List UInt8)} (hl : ∀ p ∈ l, p.2.length = 64) {q : Nat × List UInt8} (hq : q.2.length = 64) (h1 : at_ ≤ q.1) (h2 : q.1 < at_ + n) (hat : at_ + n ≤ E.dur.length) (ho : o.op = .call { callee := .builtin .copy, args := #[x, y], argTypes := #[24, 24] })
    (hx : a.eval x = .slice (some ⟨bb, 0 + (q.1 - at_) * 64, none⟩) (n * 64 - (q.1 - at_) * 64) (n * 64 - (q.1 - at_) * 64)) (hy : a.eval y = .slice (some ⟨b, 1, none⟩) 64 64) (hb : Blk w bb (durCells (E.view l at_ n)) 5) (hg : Blk w b (wrCells q) 92) :
    Ex Try.prog a o w (.int .i64 64) (setBlk w bb (durCells (E.view (l ++ [q]) at_ n))) := by
  have hv64 := Disk.view_64 hok hl hat
  have hlen := Disk.view_len E l at_ n
  have hk : q.1 - at_ < (E.view l at_ n).length := by omega
  rw [durCells_split _ (q.1 - at_) hk] at hb
  rw [← Disk.view_in E l q at_ n h1, durCells_set _ (q.1 - at_) hk]
  have hs : Src w (some ⟨b, 1, none⟩) (q.2.map B8) := src_mid (pre := [.int .i64 (q.1 : Int)]) (post := []) (t := 92) (by simpa [wrCells] using hg) rfl
  have hc := run_copy_mid (P := Try.prog) (dT := 24) (el := 5) (ty := o.type) (dLen := n * 64 - (q.1 - at_) * 64) (dCap := n * 64 - (q.1 - at_) * 64) (sLen := 64) (sCap := 64) (cs := q.2.map B8) Try.underlying24 (by kernel_rfl) hb (0 + (q.1 - at_) * 64)
    (by rw [durCells_length (fun s hs => hv64 s (List.mem_of_mem_take hs)), List.length_take, Nat.min_eq_left (Nat.le_of_lt hk)]; omega) (by rw [List.length_map, List.length_map, hq]; exact hv64 _ (List.getElem_mem hk)) (by rw [List.length_map, hq]; exact (Nat.min_eq_left (by omega)).symm) ⟨Nat.le_refl _, by unfold maxLen; omega, fun h => by cases h⟩ hs (oneCell_bytes _)
  rw [show goInt (q.2.map B8).length = .int .i64 64 by rw [List.length_map, hq]; rfl] at hc
  exact ex_copy ho hx hy hc
end
theorem pre64 {D : Disk} (hok : D.Ok) (pre : List (PendEl D)) : ∀ p ∈ pre.map (·.1.2), p.2.length = 64 := by
  intro p hp
  obtain ⟨y, _, rfl⟩ := List.mem_map.1 hp
  exact (pendEl_len hok y).2
theorem map_snoc {D : Disk} (pre : List (PendEl D)) (x : PendEl D) : (pre ++ [x]).map (·.1.2) = pre.map (·.1.2) ++ [x.1.2] := by simp
theorem all_pend {D : Disk} {xs : List (PendEl D)} (h : xs.map (·.1) = numbered D) : xs.map (·.1.2) = D.pend := by
  have h1 := congrArg (List.map (·.2)) h
  rw [numbered_snd, List.map_map] at h1
  exact h1

theorem rdna3 (w : World) : (isAgg 3).run Try.prog w = .ok false w := by kernel_rfl
theorem rdcallable44 : Callable Try.prog 44 := ⟨_, Try.func44, by kernel_rfl, by kernel_rfl⟩
set_option maxRecDepth 100000 in
set_option maxHeartbeats 2000000 in
theorem diskReadBad (B : Base) (H : List Res) (w : World) (p : Nat) (D : Disk) (F : List Nat) (at_ n : Int) (hv : Inv B (diskR p D F :: H) w) (ha : -9223372036854775808 ≤ at_ ∧ at_ ≤ 9223372036854775807) (hh : D.has at_ n = false) :
    Calls Try.prog 26 #[.pointer (some ⟨p, 0, none⟩), .int .i64 at_, .int .i64 n] w fun e w' => e = .returned (.tuple #[.slice none 0 0, .int .i64 2]) ∧ Inv B (diskR p D F :: H) w' := by
  refine (callsIn_wide (n := 5)).1 ?_
  refine callsIn_of_wp_marks Try.func26 rfl trivial ?_ rfl
  simp only [Try.ntmps26, List.size_toArray, List.length_cons, List.length_nil, Nat.reduceAdd, Nat.reduceSub, Array.replicate_succ, Array.replicate_zero, List.push_toArray, List.append_toArray, List.nil_append, List.cons_append]
  refine wpIn_seq_k (fun K1 hK1 => ?_)
  refine wpIn_region_lit ?_
  refine sl_box (L := [.int .i64 at_]) (fun _ => trivial) (wn rfl) rfl (p := .int .i64 at_) rfl hv (fun w => by kernel_rfl) (fun b2 w3 hv => ?_)
  refine sl_box (L := [.int .i64 n]) (fun _ => trivial) (wn rfl) rfl (p := .int .i64 n) rfl hv (fun w => by kernel_rfl) (fun b4 w5 hv => ?_)
  refine wpi_exG (v := .slice none 0 0) (fun _ => trivial) (wn rfl) rfl (ex_assign rfl rfl) ?_
  simp only [Act.put, List.setIfInBounds_toArray, List.set_cons_succ, List.set_cons_zero]
  refine wpi_exG (v := .int .i64 0) (fun _ => trivial) (wn rfl) rfl (ex_assign rfl rfl) ?_
  refine wpListIn_nil ?_
  simp only [Act.put, List.setIfInBounds_toArray, List.set_cons_succ, List.set_cons_zero]
  refine then_normal (hK1 _ _ ?_)
  clear hK1 K1
  refine wpIn_seq_k (fun K6 hK6 => ?_)
  refine wpIn_seq_k (fun K7 hK7 => ?_)
  refine wpIn_region_lit ?_
  refine wpi_exG (v := .pointer (some ⟨p, 0, none⟩)) (fun _ => trivial) (wn rfl) rfl (ex_move rfl rfl) ?_
  refine wpi_exG (v := .int .i64 at_) (fun _ => trivial) (wn rfl) rfl (ex_load rfl rfl (run_load1 rdna3 (hv.load 1 0 rfl rfl))) ?_
  refine wpi_exG (v := .int .i64 n) (fun _ => trivial) (wn rfl) rfl (ex_load rfl rfl (run_load1 rdna3 (hv.load 0 0 rfl rfl))) ?_
  simp only [Act.put, List.setIfInBounds_toArray, List.set_cons_succ, List.set_cons_zero]
  refine wpi_callG rdcallable44 (fun _ => trivial) wideC rfl (wn rfl) rfl (args := #[.pointer (some ⟨p, 0, none⟩), .int .i64 at_, .int .i64 n]) (by simp only [List.map_toArray, List.map_cons, List.map_nil]; rfl) ((diskHasSl _ p D F _ _ (b := false) hh (hv.get 2 rfl) ha).mono ?_)
  rintro e w8 ⟨rfl, rfl⟩
  refine ⟨_, rfl, ?_⟩
  refine wpi_exG (v := .bool true) (fun _ => trivial) (wn rfl) rfl (ex_not rfl rfl rfl) ?_
  refine wpListIn_nil ?_
  simp only [Act.put, List.setIfInBounds_toArray, List.set_cons_succ, List.set_cons_zero]
  refine then_normal (hK7 _ _ ?_)
  clear hK7 K7
  refine wpIn_cond_true rfl ?_
  refine wpIn_seq_k (fun K9 hK9 => ?_)
  refine wpIn_region_lit ?_
  refine wpi_exG (v := .slice none 0 0) (fun _ => trivial) (wn rfl) rfl (ex_assign rfl rfl) ?_
  refine wpi_exG (v := .int .i64 2) (fun _ => trivial) (wn rfl) rfl (ex_assign rfl rfl) ?_
  refine wpListIn_nil ?_
  simp only [Act.put, List.setIfInBounds_toArray, List.set_cons_succ, List.set_cons_zero]
  refine then_normal (hK9 _ _ ?_)
  clear hK9 K9
  refine wpIn_ret ?_
  refine then_ret ?_
  clear hK6 K6
  refine sl_end0 (results_tmp2 rfl _ _ _) ?_
  exact ⟨rfl, hv.tail 2⟩
theorem rdcallable45 : Callable Try.prog 45 := ⟨_, Try.func45, by kernel_rfl, by kernel_rfl⟩
theorem rdmk5 : (Try.prog.info? 5).map (fun i => (i.zero, i.size, i.bytes)) = some (some (.int .u8 0), 1, 1) := by kernel_rfl
theorem rdal24 (w : World) : (Instr.alloc 24 true (.tuple #[])).run Try.prog w = .ok (.pointer (some ⟨w.heap.size, 0, none⟩)) (w.alloc (.cells ([.slice none 0 0] : List Value).toArray 24)) := by kernel_rfl
theorem rdsz24 : (Try.prog.info? 24).map (·.size) = some 1 := by kernel_rfl
theorem rdna24 (w : World) : (isAgg 24).run Try.prog w = .ok false w := by kernel_rfl
theorem rdfa87_0 (w : World) (b o : Nat) : (Instr.fieldAt 87 (.pointer (some ⟨b, o, none⟩)) 0).run Try.prog w = .ok (.pointer (some ⟨b, o + 0, none⟩)) w := by kernel_rfl
theorem rdna84 (w : World) : (isAgg 84).run Try.prog w = .ok false w := by kernel_rfl
theorem rdes84 (w : World) : (sizeOf (Try.prog.elem 84)).run Try.prog w = .ok 64 w := by kernel_rfl
theorem rdsa90 (w : World) (b o : Nat) : (Instr.sliceAt 90 (.pointer (some ⟨b, o, none⟩)) none none none).run Try.prog w = .ok (.slice (some ⟨b, o, none⟩) 64 64) w := by kernel_rfl
theorem rdcallable46 : Callable Try.prog 46 := ⟨_, Try.func46, by kernel_rfl, by kernel_rfl⟩
theorem rdal92 (w : World) : (Instr.alloc 92 true (.tuple #[])).run Try.prog w = .ok (.pointer (some ⟨w.heap.size, 0, none⟩)) (w.alloc (.cells ([.int .i64 0, .int .u8 0, .int .u8 0, .int .u8 0, .int .u8 0, .int .u8 0, .int .u8 0, .int .u8 0, .int .u8 0, .int .u8 0, .int .u8 0, .int .u8 0, .int .u8 0, .int .u8 0, .int .u8 0, .int .u8 0, .int .u8 0, .int .u8 0, .int .u8 0, .int .u8 0, .int .u8 0, .int .u8 0, .int .u8 0, .int .u8 0, .int .u8 0, .int .u8 0, .int .u8 0, .int .u8 0, .int .u8 0, .int .u8 0, .int .u8 0, .int .u8 0, .int .u8 0, .int .u8 0, .int .u8 0, .int .u8 0, .int .u8 0, .int .u8 0, .int .u8 0, .int .u8 0, .int .u8 0, .int .u8 0, .int .u8 0, .int .u8 0, .int .u8 0, .int .u8 0, .int .u8 0, .int .u8 0, .int .u8 0, .int .u8 0, .int .u8 0, .int .u8 0, .int .u8 0, .int .u8 0, .int .u8 0, .int .u8 0, .int .u8 0, .int .u8 0, .int .u8 0, .int .u8 0, .int .u8 0, .int .u8 0, .int .u8 0, .int .u8 0, .int .u8 0] : List Value).toArray 92)) := by kernel_rfl
theorem rdfa92_0 (w : World) (b o : Nat) : (Instr.fieldAt 92 (.pointer (some ⟨b, o, none⟩)) 0).run Try.prog w = .ok (.pointer (some ⟨b, o + 0, none⟩)) w := by kernel_rfl
theorem rdes24 (w : World) : (sizeOf (Try.prog.elem 24)).run Try.prog w = .ok 1 w := by kernel_rfl
theorem rdfa92_1 (w : World) (b o : Nat) : (Instr.fieldAt 92 (.pointer (some ⟨b, o, none⟩)) 1).run Try.prog w = .ok (.pointer (some ⟨b, o + 1, none⟩)) w := by kernel_rfl
set_option maxRecDepth 100000 in
set_option maxHeartbeats 2000000 in
theorem diskReadOk (B : Base) (H : List Res) (w : World) (p : Nat) (D : Disk) (F : List Nat) (at_ n : Nat) (hv : Inv B (diskR p D F :: H) w) (E : Disk) (hE : D.tick = E) (hpl : E.pend.length ≤ 1000000000) (hh : D.has at_ n = true) (hl : D.left ≠ 0) (hn1 : n ≤ 65536) (ha1 : at_ ≤ 65536) (hat : at_ + n ≤ E.dur.length) :
    Calls Try.prog 26 #[.pointer (some ⟨p, 0, none⟩), .int .i64 (at_ : Int), .int .i64 (n : Int)] w fun e w' => ∃ b, e = .returned (.tuple #[.slice (some ⟨b, 0, none⟩) (n * 64) (n * 64), .int .i64 0]) ∧ ∃ F', Inv B (Res.cell b (durCells (E.view E.pend at_ n)) 5 :: diskR p E F' :: H) w' := by
  refine (callsIn_wide (n := 5)).1 ?_
  refine callsIn_of_wp_marks Try.func26 rfl trivial ?_ rfl
  simp only [Try.ntmps26, List.size_toArray, List.length_cons, List.length_nil, Nat.reduceAdd, Nat.reduceSub, Array.replicate_succ, Array.replicate_zero, List.push_toArray, List.append_toArray, List.nil_append, List.cons_append]
  refine wpIn_seq_k (fun K1 hK1 => ?_)
  refine wpIn_region_lit ?_
  refine sl_box (L := [.int .i64 (at_ : Int)]) (fun _ => trivial) (wn rfl) rfl (p := .int .i64 (at_ : Int)) rfl hv (fun w => by kernel_rfl) (fun b2 w3 hv => ?_)
  refine sl_box (L := [.int .i64 (n : Int)]) (fun _ => trivial) (wn rfl) rfl (p := .int .i64 (n : Int)) rfl hv (fun w => by kernel_rfl) (fun b4 w5 hv => ?_)
  refine wpi_exG (v := .slice none 0 0) (fun _ => trivial) (wn rfl) rfl (ex_assign rfl rfl) ?_
  simp only [Act.put, List.setIfInBounds_toArray, List.set_cons_succ, List.set_cons_zero]
  refine wpi_exG (v := .int .i64 0) (fun _ => trivial) (wn rfl) rfl (ex_assign rfl rfl) ?_
  refine wpListIn_nil ?_
  simp only [Act.put, List.setIfInBounds_toArray, List.set_cons_succ, List.set_cons_zero]
  refine then_normal (hK1 _ _ ?_)
  clear hK1 K1
  refine wpIn_seq_k (fun K6 hK6 => ?_)
  refine wpIn_seq_k (fun K7 hK7 => ?_)
  refine wpIn_region_lit ?_
  refine wpi_exG (v := .pointer (some ⟨p, 0, none⟩)) (fun _ => trivial) (wn rfl) rfl (ex_move rfl rfl) ?_
  refine wpi_exG (v := .int .i64 (at_ : Int)) (fun _ => trivial) (wn rfl) rfl (ex_load rfl rfl (run_load1 rdna3 (hv.load 1 0 rfl rfl))) ?_
  refine wpi_exG (v := .int .i64 (n : Int)) (fun _ => trivial) (wn rfl) rfl (ex_load rfl rfl (run_load1 rdna3 (hv.load 0 0 rfl rfl))) ?_
  simp only [Act.put, List.setIfInBounds_toArray, List.set_cons_succ, List.set_cons_zero]
  refine wpi_callG rdcallable44 (fun _ => trivial) wideC rfl (wn rfl) rfl (args := #[.pointer (some ⟨p, 0, none⟩), .int .i64 (at_ : Int), .int .i64 (n : Int)]) (by simp only [List.map_toArray, List.map_cons, List.map_nil]; rfl) ((diskHasSl _ p D F _ _ (b := true) hh (hv.get 2 rfl) (by omega)).mono ?_)
  rintro e w8 ⟨rfl, rfl⟩
  refine ⟨_, rfl, ?_⟩
  refine wpi_exG (v := .bool false) (fun _ => trivial) (wn rfl) rfl (ex_not rfl rfl rfl) ?_
  refine wpListIn_nil ?_
  simp only [Act.put, List.setIfInBounds_toArray, List.set_cons_succ, List.set_cons_zero]
  refine then_normal (hK7 _ _ ?_)
  clear hK7 K7
  refine wpIn_cond_false rfl ?_
  refine wpIn_skip ?_
  refine then_normal (hK6 _ _ ?_)
  clear hK6 K6
  refine wpIn_seq_k (fun K9 hK9 => ?_)
  refine wpIn_seq_k (fun K10 hK10 => ?_)
  refine wpIn_region_lit ?_
  refine wpi_exG (v := .pointer (some ⟨p, 0, none⟩)) (fun _ => trivial) (wn rfl) rfl (ex_move rfl rfl) ?_
  refine wpi_callG rdcallable45 (fun _ => trivial) wideC rfl (wn rfl) rfl (args := #[.pointer (some ⟨p, 0, none⟩)]) (by simp only [List.map_toArray, List.map_cons, List.map_nil]; rfl) ((diskCallSl _ _ _ p D F 2 hv rfl (b := true) (by simp [hl])).mono ?_)
  rintro e w11 ⟨rfl, hv⟩
  refine ⟨_, rfl, ?_⟩
  simp only [List.set_cons_succ, List.set_cons_zero] at hv
  refine wpi_exG (v := .bool false) (fun _ => trivial) (wn rfl) rfl (ex_not rfl rfl rfl) ?_
  refine wpListIn_nil ?_
  simp only [Act.put, List.setIfInBounds_toArray, List.set_cons_succ, List.set_cons_zero]
  refine then_normal (hK10 _ _ ?_)
  clear hK10 K10
  refine wpIn_cond_false rfl ?_
  refine wpIn_skip ?_
  refine then_normal (hK9 _ _ ?_)
  clear hK9 K9
  refine wpIn_seq_k (fun K12 hK12 => ?_)
  replace hv := hv.front 2 rfl
  simp only [List.eraseIdx_cons_succ, List.eraseIdx_cons_zero] at hv
  rw [hE] at hv
  obtain ⟨gd, vad, vc, hok, hv⟩ := Inv.diskOpen hv
  have hmax := hok.max
  replace hv := hv.front 4 rfl
  simp only [List.eraseIdx_cons_succ, List.eraseIdx_cons_zero] at hv
  replace hv := hv.front 4 rfl
  simp only [List.eraseIdx_cons_succ, List.eraseIdx_cons_zero] at hv
  refine wpIn_region_lit ?_
  refine wpi_exG (v := .int .i64 (n : Int)) (fun _ => trivial) (wn rfl) rfl (ex_load rfl rfl (run_load1 rdna3 (hv.load 0 0 rfl rfl))) ?_
  refine wpi_exG (v := .int .i64 ((n * 64 : Nat) : Int)) (fun _ => trivial) (wn rfl) rfl (ex_mul (m := (n : Int)) (n := 64) rfl rfl rfl (by rw [i64_in (by omega)]; omega)) ?_
  refine sl_make1 (len := 0) (cap := (n * 64 : Nat)) (fun _ => trivial) (wn rfl) rfl rfl rfl Try.underlying24 rdmk5 rfl (by omega) (by unfold maxLen; omega) (by omega) hv (fun b13 w14 hv => ?_)
  simp only [Act.put, List.setIfInBounds_toArray, List.set_cons_succ, List.set_cons_zero]
  refine sl_alloc (fun _ => trivial) (wn rfl) rfl hv rdal24 (fun b15 w16 hv => ?_)
  refine sl_storeAt 0 (v := .slice (some ⟨b13, 0, none⟩) 0 (n * 64 : Nat)) (L' := [.slice (some ⟨b13, 0, none⟩) 0 (n * 64 : Nat)]) (fun _ => trivial) (wn rfl) rfl rfl rfl hv rfl rdsz24 (by simp) rfl rfl rfl (fun w17 hv => ?_)
  simp only [List.set_cons_succ, List.set_cons_zero] at hv
  refine wpListIn_nil ?_
  simp only [Act.put, List.setIfInBounds_toArray, List.set_cons_succ, List.set_cons_zero]
  refine then_normal (hK12 _ _ ?_)
  clear hK12 K12
  refine wpIn_seq_k (fun K18 hK18 => ?_)
  refine wpIn_seq_k (fun K19 hK19 => ?_)
  refine wpIn_region_lit ?_
  refine wpi_exG (v := .int .i64 (n : Int)) (fun _ => trivial) (wn rfl) rfl (ex_load rfl rfl (run_load1 rdna3 (hv.load 2 0 rfl rfl))) ?_
  refine wpi_exG (v := .int .i64 0) (fun _ => trivial) (wn rfl) rfl (ex_move rfl rfl) ?_
  refine wpListIn_nil ?_
  simp only [Act.put, List.setIfInBounds_toArray, List.set_cons_succ, List.set_cons_zero]
  refine then_normal (hK19 _ _ ?_)
  clear hK19 K19
  refine wpIn_block ?_
  gi_loopw [24] (fun x24 wr => ∃ i : Nat, x24 = .int .i64 (i : Int) ∧ i ≤ n ∧ Inv B (Res.cell b15 [.slice (some ⟨b13, 0, none⟩) (i * 64) (n * 64)] 24 :: Res.cell b13 (durCells (E.view [] at_ i) ++ List.replicate (64 * (n - i)) (Value.int .u8 0)) 5 :: Res.cell b4 [.int .i64 (n : Int)] 3 :: Res.cell b2 [.int .i64 (at_ : Int)] 3 :: Res.cell p [.slice (some ⟨gd, 0, none⟩) E.dur.length E.dur.length, .slice vad E.pend.length vc, .int .i64 E.left] 87 :: Res.cell gd (durCells E.dur) 90 :: Res.row 92 65 (.slice vad E.pend.length vc) E.pend.length (pendCells E.pend) :: H) wr) (fun x24 _ => n - (intOf x24).toNat)
  case atStart => exact ⟨0, rfl, by omega, by simpa [Disk.view, durCells, Nat.mul_comm] using hv⟩
  case round =>
    obtain ⟨i, rfl, hi, hv⟩ := hrel
    refine wpIn_seq_k (fun K21 hK21 => ?_)
    refine wpIn_region_lit ?_
    by_cases hb22 : (i : Int) < (n : Int)
    · refine wpi_exG (v := .bool true) (fun _ => trivial) (wn rfl) rfl (ex_lss (k := .i64) (m := (i : Int)) (n := (n : Int)) rfl rfl rfl (decide_eq_true hb22)) ?_
      refine wpListIn_nil ?_
      simp only [Act.put, List.setIfInBounds_toArray, List.set_cons_succ, List.set_cons_zero]
      refine then_normal (hK21 _ _ ?_)
      clear hK21 K21
      refine wpIn_seq_k (fun K23 hK23 => ?_)
      refine wpIn_cond_true rfl ?_
      refine wpIn_skip ?_
      refine then_normal (hK23 _ _ ?_)
      clear hK23 K23
      refine wpIn_seq_k (fun K24 hK24 => ?_)
      refine wpIn_block ?_
      refine wpIn_seq_k (fun K25 hK25 => ?_)
      refine wpIn_region_lit ?_
      refine wpi_exG (v := .int .i64 (i : Int)) (fun _ => trivial) (wn rfl) rfl (ex_move rfl rfl) ?_
      refine wpi_exG (v := .int .i64 (i : Int)) (fun _ => trivial) (wn rfl) rfl (ex_assign rfl rfl) ?_
      refine wpListIn_nil ?_
      simp only [Act.put, List.setIfInBounds_toArray, List.set_cons_succ, List.set_cons_zero]
      refine then_normal (hK25 _ _ ?_)
      clear hK25 K25
      refine region_st mixed [.slice (some ⟨b13, 0, none⟩) (i * 64) (n * 64), .pointer (some ⟨p, 0, none⟩), .pointer (some ⟨p, 0, none⟩), .pointer (some ⟨p, 0, none⟩), .slice (some ⟨gd, 0, none⟩) E.dur.length E.dur.length, .int .i64 (at_ : Int), .int .i64 (i : Int), .int .i64 ((at_ + i : Nat) : Int), .pointer (some ⟨gd, 0 + (at_ + i : Nat) * 64, none⟩), .slice (some ⟨gd, 0 + (at_ + i : Nat) * 64, none⟩) 64 64, undef, undef] [10, 11] [⟨fun vals w => vals = [] ∧ Inv B (Res.cell b15 [.slice (some ⟨b13, 0, none⟩) (i * 64) (n * 64)] 24 :: Res.cell b13 (durCells (E.view [] at_ i) ++ List.replicate (64 * (n - i)) (Value.int .u8 0)) 5 :: Res.cell b4 [.int .i64 (n : Int)] 3 :: Res.cell b2 [.int .i64 (at_ : Int)] 3 :: Res.cell p [.slice (some ⟨gd, 0, none⟩) E.dur.length E.dur.length, .slice vad E.pend.length vc, .int .i64 E.left] 87 :: Res.cell gd (durCells E.dur) 90 :: Res.row 92 65 (.slice vad E.pend.length vc) E.pend.length (pendCells E.pend) :: H) w, fun _ _ _ ⟨h, hi⟩ he => ⟨h, hi.ext he⟩⟩, ⟨fun vals w => vals = [.slice (some ⟨b13, 0, none⟩) (i * 64 + 64) (n * 64)] ∧ Inv B (Res.cell b15 [.slice (some ⟨b13, 0, none⟩) (i * 64) (n * 64)] 24 :: Res.cell b13 (durCells (E.view [] at_ (i + 1)) ++ List.replicate (64 * (n - (i + 1))) (Value.int .u8 0)) 5 :: Res.cell b4 [.int .i64 (n : Int)] 3 :: Res.cell b2 [.int .i64 (at_ : Int)] 3 :: Res.cell p [.slice (some ⟨gd, 0, none⟩) E.dur.length E.dur.length, .slice vad E.pend.length vc, .int .i64 E.left] 87 :: Res.cell gd (durCells E.dur) 90 :: Res.row 92 65 (.slice vad E.pend.length vc) E.pend.length (pendCells E.pend) :: H) w, fun _ _ _ ⟨h, hi⟩ he => ⟨h, hi.ext he⟩⟩, ⟨fun vals w => vals = [.slice (some ⟨b13, 0, none⟩) (i * 64 + 64) (n * 64), undef] ∧ Inv B (Res.cell b15 [.slice (some ⟨b13, 0, none⟩) (i * 64 + 64) (n * 64)] 24 :: Res.cell b13 (durCells (E.view [] at_ (i + 1)) ++ List.replicate (64 * (n - (i + 1))) (Value.int .u8 0)) 5 :: Res.cell b4 [.int .i64 (n : Int)] 3 :: Res.cell b2 [.int .i64 (at_ : Int)] 3 :: Res.cell p [.slice (some ⟨gd, 0, none⟩) E.dur.length E.dur.length, .slice vad E.pend.length vc, .int .i64 E.left] 87 :: Res.cell gd (durCells E.dur) 90 :: Res.row 92 65 (.slice vad E.pend.length vc) E.pend.length (pendCells E.pend) :: H) w, fun _ _ _ ⟨h, hi⟩ he => ⟨h, hi.ext he⟩⟩] 66 rfl (by kernel_rfl) ⟨rfl, hv⟩ ⟨?_, ?_, ?_, ?_, ?_, ?_, ?_, ?_, ?_, ?_, ?_, ?_, trivial⟩ ?_
      · intro aa ww vals hJ hR
        have h2 : vals.length ≤ 0 := hR.hi 10 (by simp) rfl
        have hl : vals.length = 0 := by omega
        obtain ⟨hvals, hv⟩ := hJ.at0 hl
        exact add_step' rfl (Ex.adds' (ex_load rfl (show aa.eval (.tmp 8) = _ from hR.keep 8 rfl) (run_load1 rdna24 (hv.load 0 0 rfl rfl))) (wn rfl) rfl)
      · intro aa ww vals hJ hR
        exact add_step' rfl (Ex.adds' (ex_move rfl (show aa.eval (.tmp 0) = _ from hR.keep 0 rfl)) (wn rfl) rfl)
      · intro aa ww vals hJ hR
        exact add_step' rfl (Ex.adds' (ex_nil rfl (show aa.eval (.tmp 28) = _ from hR.v 1 28 rfl rfl rfl rfl)) (wn rfl) rfl)
      · intro aa ww vals hJ hR
        exact add_step' rfl (Ex.adds' (ex_field rfl (show aa.eval (.tmp 29) = _ from hR.v 2 29 rfl rfl rfl rfl) (rdfa87_0 _ _ _)) (wn rfl) rfl)
      · intro aa ww vals hJ hR
        have h2 : vals.length ≤ 0 := hR.hi 10 (by simp) rfl
        have hl : vals.length = 0 := by omega
        obtain ⟨hvals, hv⟩ := hJ.at0 hl
        exact add_step' rfl (Ex.adds' (ex_load rfl (show aa.eval (.tmp 30) = _ from hR.v 3 30 rfl rfl rfl rfl) (run_load1 rdna84 (hv.load 4 0 rfl rfl))) (wn rfl) rfl)
      · intro aa ww vals hJ hR
        have h2 : vals.length ≤ 0 := hR.hi 10 (by simp) rfl
        have hl : vals.length = 0 := by omega
        obtain ⟨hvals, hv⟩ := hJ.at0 hl
        exact add_step' rfl (Ex.adds' (ex_load rfl (show aa.eval (.tmp 4) = _ from hR.keep 4 rfl) (run_load1 rdna3 (hv.load 3 0 rfl rfl))) (wn rfl) rfl)
      · intro aa ww vals hJ hR
        exact add_step' rfl (Ex.adds' (ex_move rfl (show aa.eval (.tmp 9) = _ from hR.keep 9 rfl)) (wn rfl) rfl)
      · intro aa ww vals hJ hR
        exact add_step' rfl (Ex.adds' (ex_add (m := (at_ : Int)) (n := (i : Int)) rfl (show aa.eval (.tmp 32) = _ from hR.v 5 32 rfl rfl rfl rfl) (show aa.eval (.tmp 33) = _ from hR.v 6 33 rfl rfl rfl rfl) (by rw [i64_in (by omega)]; omega)) (wn rfl) rfl)
      · intro aa ww vals hJ hR
        exact add_step' rfl (Ex.adds' (ex_index rfl (show aa.eval (.tmp 31) = _ from hR.v 4 31 rfl rfl rfl rfl) (show aa.eval (.tmp 34) = _ from hR.v 7 34 rfl rfl rfl rfl) (run_idx (k := (at_ + i : Nat)) Try.underlying84 rdes84 (by omega))) (wn rfl) rfl)
      · intro aa ww vals hJ hR
        exact add_step' rfl (Ex.adds' (ex_slice rfl (show aa.eval (.tmp 35) = _ from hR.v 8 35 rfl rfl rfl rfl) rfl rfl rfl (rdsa90 _ _ _)) (wn rfl) rfl)
      · intro aa ww vals hJ hR
        refine mem_step' rfl fun hvl => ?_
        have hl : vals.length = 0 := hvl
        obtain ⟨hvals, hv⟩ := hJ.at0 hl
        exact Ex.mem (rdAppend hok (by omega) hat rfl (show aa.eval (.tmp 27) = _ from hR.v 0 27 rfl rfl rfl rfl) (show aa.eval (.tmp 36) = _ from hR.v 9 36 rfl rfl rfl rfl) (hv.get 1 rfl) (hv.get 5 rfl)) (wn rfl) (JS.next hl ⟨by rw [hvals]; rfl, (hv.putAt 1 rfl _)⟩)
      · intro aa ww vals hJ hR
        refine mem_step' rfl fun hvl => ?_
        have hl : vals.length = 1 := hvl
        obtain ⟨hvals, hv⟩ := hJ.at0 hl
        refine mem_storeAt 0 (v := .slice (some ⟨b13, 0, none⟩) (i * 64 + 64) (n * 64)) (L' := [.slice (some ⟨b13, 0, none⟩) (i * 64 + 64) (n * 64)]) (wn rfl) rfl (show aa.eval (.tmp 8) = _ from hR.keep 8 rfl) (show aa.eval (.tmp 37) = _ from (hR.val 10 37 rfl rfl rfl).trans (by rw [hvals]; rfl)) hv rfl rdsz24 (by simp) rfl rfl rfl (fun w26 hv => ?_)
        exact JS.next hl ⟨by rw [hvals]; rfl, hv⟩
      rintro w27 vals ⟨rfl, hv⟩
      rw [show mixV [10, 11] [.slice (some ⟨b13, 0, none⟩) (i * 64 + 64) (n * 64), undef] 0 [.slice (some ⟨b13, 0, none⟩) (i * 64) (n * 64), .pointer (some ⟨p, 0, none⟩), .pointer (some ⟨p, 0, none⟩), .pointer (some ⟨p, 0, none⟩), .slice (some ⟨gd, 0, none⟩) E.dur.length E.dur.length, .int .i64 (at_ : Int), .int .i64 (i : Int), .int .i64 ((at_ + i : Nat) : Int), .pointer (some ⟨gd, 0 + (at_ + i : Nat) * 64, none⟩), .slice (some ⟨gd, 0 + (at_ + i : Nat) * 64, none⟩) 64 64, undef, undef] = [.slice (some ⟨b13, 0, none⟩) (i * 64) (n * 64), .pointer (some ⟨p, 0, none⟩), .pointer (some ⟨p, 0, none⟩), .pointer (some ⟨p, 0, none⟩), .slice (some ⟨gd, 0, none⟩) E.dur.length E.dur.length, .int .i64 (at_ : Int), .int .i64 (i : Int), .int .i64 ((at_ + i : Nat) : Int), .pointer (some ⟨gd, 0 + (at_ + i : Nat) * 64, none⟩), .slice (some ⟨gd, 0 + (at_ + i : Nat) * 64, none⟩) 64 64, .slice (some ⟨b13, 0, none⟩) (i * 64 + 64) (n * 64), undef] from rfl]
      simp only [putAll, Act.put, List.setIfInBounds_toArray, List.set_cons_succ, List.set_cons_zero]
      refine blk_normal ?_
      refine then_normal (hK24 _ _ ?_)
      clear hK24 K24
      refine wpIn_region_lit ?_
      refine wpi_exG (v := .int .i64 ((i : Int) + 1)) (fun _ => trivial) (wn rfl) rfl (ex_add (m := (i : Int)) (n := 1) rfl rfl rfl (i64_in (by omega))) ?_
      refine wpi_exG (v := .int .i64 ((i : Int) + 1)) (fun _ => trivial) (wn rfl) rfl (ex_move rfl rfl) ?_
      refine wpListIn_nil ?_
      simp only [Act.put, List.setIfInBounds_toArray, List.set_cons_succ, List.set_cons_zero]
      refine then_normal ?_
      go_roundw
      case rel => exact ⟨i + 1, by simp, by omega, by rw [Nat.succ_mul]; exact hv⟩
      case measure => show n - ((i : Int) + 1).toNat < n - (i : Int).toNat; omega
    · have hni : i = n := by omega
      rw [hni, Nat.sub_self, Nat.mul_zero, List.replicate_zero, List.append_nil] at hv
      skip
      refine wpi_exG (v := .bool false) (fun _ => trivial) (wn rfl) rfl (ex_lss (k := .i64) (m := (i : Int)) (n := (n : Int)) rfl rfl rfl (decide_eq_false hb22)) ?_
      refine wpListIn_nil ?_
      simp only [Act.put, List.setIfInBounds_toArray, List.set_cons_succ, List.set_cons_zero]
      refine then_normal (hK21 _ _ ?_)
      clear hK21 K21
      refine wpIn_seq_k (fun K28 hK28 => ?_)
      refine wpIn_cond_false rfl ?_
      refine wpIn_exit ?_
      refine then_exit ?_
      clear hK28 K28
      refine then_exit ?_
      refine blk_hit ?_
      refine then_normal (hK18 _ _ ?_)
      clear hK18 K18
      refine wpIn_seq_k (fun K29 hK29 => ?_)
      refine wpIn_seq_k (fun K30 hK30 => ?_)
      refine wpIn_region_lit ?_
      refine wpi_exG (v := .pointer (some ⟨p, 0, none⟩)) (fun _ => trivial) (wn rfl) rfl (ex_move rfl rfl) ?_
      refine wpi_callG rdcallable46 (fun _ => trivial) wideC rfl (wn rfl) rfl (args := #[.pointer (some ⟨p, 0, none⟩)]) (by simp only [List.map_toArray, List.map_cons, List.map_nil]; rfl) ((diskWritesSl B _ _ _ hv).mono ?_)
      rintro e w32 ⟨b31, rfl, hv⟩
      refine ⟨_, rfl, ?_⟩
      refine wpListIn_nil ?_
      simp only [Act.put, List.setIfInBounds_toArray, List.set_cons_succ, List.set_cons_zero]
      refine then_normal (hK30 _ _ ?_)
      clear hK30 K30
      refine wpIn_block ?_
      have hP := Inv.diskParts hok (((hv.front 7 rfl).front 7 rfl).front 7 rfl)
      have hcB := hv.load 0 0 (b := b31) rfl rfl
      have hlts := fun (r : Res) (hr : r ∈ ([Res.cell b31 [.pointer (some ⟨p, 0, none⟩)] 36, Res.cell b15 [.slice (some ⟨b13, 0, none⟩) (n * 64) (n * 64)] 24, Res.cell b13 (durCells (E.view [] at_ n)) 5, Res.cell b4 [.int .i64 (n : Int)] 3, Res.cell b2 [.int .i64 (at_ : Int)] 3, Res.cell p [.slice (some ⟨gd, 0, none⟩) E.dur.length E.dur.length, .slice vad E.pend.length vc, .int .i64 E.left] 87, Res.cell gd (durCells E.dur) 90] : List Res)) => hv.lt r (List.mem_append_left (Res.row 92 65 (.slice vad E.pend.length vc) E.pend.length (pendCells E.pend) :: H) hr)
      refine sl_writes (by omega) (bw := b31) (p := p) (gd := gd) (D := E) rfl hP hcB (by omega) rfl (K := [Res.cell b31 [.pointer (some ⟨p, 0, none⟩)] 36, Res.cell b15 [.slice (some ⟨b13, 0, none⟩) (n * 64) (n * 64)] 24, Res.cell b13 (durCells (E.view [] at_ n)) 5, Res.cell b4 [.int .i64 (n : Int)] 3, Res.cell b2 [.int .i64 (at_ : Int)] 3, Res.cell p [.slice (some ⟨gd, 0, none⟩) E.dur.length E.dur.length, .slice vad E.pend.length vc, .int .i64 E.left] 87, Res.cell gd (durCells E.dur) 90]) (H := Res.row 92 65 (.slice vad E.pend.length vc) E.pend.length (pendCells E.pend) :: H) hv (fun g hg => by rw [List.flatMap_cons]; exact List.mem_append_left _ (by simp [hg])) (fun pre => [Res.cell b31 [.pointer (some ⟨p, 0, none⟩)] 36, Res.cell b15 [.slice (some ⟨b13, 0, none⟩) (n * 64) (n * 64)] 24, Res.cell b13 (durCells (E.view (pre.map (fun y : PendEl E => y.1.2)) at_ n)) 5, Res.cell b4 [.int .i64 (n : Int)] 3, Res.cell b2 [.int .i64 (at_ : Int)] 3, Res.cell p [.slice (some ⟨gd, 0, none⟩) E.dur.length E.dur.length, .slice vad E.pend.length vc, .int .i64 E.left] 87, Res.cell gd (durCells E.dur) 90]) rfl (fun x b => { tmps := #[.pointer (some ⟨p, 0, none⟩), .int .i64 (at_ : Int), .int .i64 (n : Int), undef, .pointer (some ⟨b2, 0, none⟩), .pointer (some ⟨b4, 0, none⟩), .slice none 0 0, .int .i64 0, .pointer (some ⟨b15, 0, none⟩), u9, undef, .pointer (some ⟨b, 0, none⟩), .pointer (some ⟨p, 0, none⟩), .int .i64 (at_ : Int), .int .i64 (n : Int), .bool true, .bool false, .pointer (some ⟨p, 0, none⟩), .bool true, .bool false, .int .i64 (n : Int), .int .i64 ((n * 64 : Nat) : Int), .slice (some ⟨b13, 0, none⟩) 0 (n * 64 : Nat), .int .i64 (n : Int), .int .i64 (i : Int), .bool false, u26, u27, u28, u29, u30, u31, u32, u33, u34, u35, u36, u37, u38, .pointer (some ⟨p, 0, none⟩), .func (.func 57) #[] #[.pointer (some ⟨b31, 0, none⟩)], .int .i64 (x.1.1 : Int), .agg (wrCells x.1.2).toArray, undef, undef, undef, undef, undef, undef, undef, undef, undef, undef, undef, undef, undef, undef, undef, undef, undef, undef, undef, undef, undef, undef, undef], defers := [] }) ?cel ?fp ?assign ?body ?done
      case cel =>
        intro pre r hr
        simp only [List.mem_cons, List.not_mem_nil, or_false] at hr
        rcases hr with rfl | rfl | rfl | rfl | rfl | rfl | rfl
        all_goals exact celled_cell _ _ _
      case fp =>
        intro pre r hr b hb
        simp only [List.mem_cons, List.not_mem_nil, or_false] at hr
        rcases hr with rfl | rfl | rfl | rfl | rfl | rfl | rfl
        · rw [show b = _ from List.mem_singleton.1 hb]; exact hlts (Res.cell b31 [.pointer (some ⟨p, 0, none⟩)] 36) (by simp) _ (by simp)
        · rw [show b = _ from List.mem_singleton.1 hb]; exact hlts (Res.cell b15 [.slice (some ⟨b13, 0, none⟩) (n * 64) (n * 64)] 24) (by simp) _ (by simp)
        · rw [show b = _ from List.mem_singleton.1 hb]; exact hlts (Res.cell b13 (durCells (E.view [] at_ n)) 5) (by simp) _ (by simp)
        · rw [show b = _ from List.mem_singleton.1 hb]; exact hlts (Res.cell b4 [.int .i64 (n : Int)] 3) (by simp) _ (by simp)
        · rw [show b = _ from List.mem_singleton.1 hb]; exact hlts (Res.cell b2 [.int .i64 (at_ : Int)] 3) (by simp) _ (by simp)
        · rw [show b = _ from List.mem_singleton.1 hb]; exact hlts (Res.cell p [.slice (some ⟨gd, 0, none⟩) E.dur.length E.dur.length, .slice vad E.pend.length vc, .int .i64 E.left] 87) (by simp) _ (by simp)
        · rw [show b = _ from List.mem_singleton.1 hb]; exact hlts (Res.cell gd (durCells E.dur) 90) (by simp) _ (by simp)
      case assign =>
        intro l pre x w B' hB' hv
        have hx := pendEl_len hok x
        simp only [pendEnc, List.zip_toArray, List.zip_cons_cons, List.zip_nil_left, List.zip_nil_right, List.foldl_toArray', List.foldl_cons, List.foldl_nil, List.setIfInBounds_toArray, List.set_cons_succ, List.set_cons_zero]
        refine wpIn_region_lit ?_
        refine sl_alloc (fun _ => trivial) (wn rfl) rfl hv rdal92 (fun b33 w34 hv => ?_)
        refine sl_storeNAt 0 (new := wrCells x.1.2) (pre := []) (mid := [.int .i64 0, .int .u8 0, .int .u8 0, .int .u8 0, .int .u8 0, .int .u8 0, .int .u8 0, .int .u8 0, .int .u8 0, .int .u8 0, .int .u8 0, .int .u8 0, .int .u8 0, .int .u8 0, .int .u8 0, .int .u8 0, .int .u8 0, .int .u8 0, .int .u8 0, .int .u8 0, .int .u8 0, .int .u8 0, .int .u8 0, .int .u8 0, .int .u8 0, .int .u8 0, .int .u8 0, .int .u8 0, .int .u8 0, .int .u8 0, .int .u8 0, .int .u8 0, .int .u8 0, .int .u8 0, .int .u8 0, .int .u8 0, .int .u8 0, .int .u8 0, .int .u8 0, .int .u8 0, .int .u8 0, .int .u8 0, .int .u8 0, .int .u8 0, .int .u8 0, .int .u8 0, .int .u8 0, .int .u8 0, .int .u8 0, .int .u8 0, .int .u8 0, .int .u8 0, .int .u8 0, .int .u8 0, .int .u8 0, .int .u8 0, .int .u8 0, .int .u8 0, .int .u8 0, .int .u8 0, .int .u8 0, .int .u8 0, .int .u8 0, .int .u8 0, .int .u8 0]) (post := []) (L' := wrCells x.1.2) (fun _ => trivial) (wn rfl) rfl rfl rfl hv rfl (szWrite _ (wrLen hx.2)) rfl rfl (by rw [wrLen hx.2]; rfl) (wrOne _) (by simp) (fun w35 hv => ?_)
        simp only [List.set_cons_succ, List.set_cons_zero] at hv
        refine wpListIn_nil ?_
        simp only [Act.put, List.setIfInBounds_toArray, List.set_cons_succ, List.set_cons_zero]
        exact ⟨by trivial, _, rfl, hv⟩
      case body =>
        intro l pre x b w B' hB' hv hN
        have hx := pendEl_len hok x
        refine wpIn_block ?_
        refine wpIn_seq_k (fun K36 hK36 => ?_)
        refine wpIn_region_lit ?_
        refine wpi_exG (v := .pointer (some ⟨b, 0, none⟩)) (fun _ => trivial) (wn rfl) rfl (ex_field rfl rfl (rdfa92_0 _ _ _)) ?_
        refine wpi_exG (v := .int .i64 (x.1.2.1 : Int)) (fun _ => trivial) (wn rfl) rfl (ex_load rfl rfl (run_load1 rdna3 (hv.load 0 0 rfl rfl))) ?_
        refine wpi_exG (v := .int .i64 (at_ : Int)) (fun _ => trivial) (wn rfl) rfl (ex_load rfl rfl (run_load1 rdna3 (hv.load 5 0 rfl rfl))) ?_
        simp only [Act.put, List.setIfInBounds_toArray, List.set_cons_succ, List.set_cons_zero]
        by_cases hb37 : (x.1.2.1 : Int) ≥ (at_ : Int)
        · refine wpi_exG (v := .bool true) (fun _ => trivial) (wn rfl) rfl (ex_geq (k := .i64) (m := (x.1.2.1 : Int)) (n := (at_ : Int)) rfl rfl rfl (decide_eq_true hb37)) ?_
          refine wpi_exG (v := .bool true) (fun _ => trivial) (wn rfl) rfl (ex_move rfl rfl) ?_
          refine wpi_exG (v := .pointer (some ⟨b, 0, none⟩)) (fun _ => trivial) (wanted_of (j := 4) (d := 47) (b := true) rfl rfl rfl) rfl (ex_field rfl rfl (rdfa92_0 _ _ _)) ?_
          simp only [Act.put, List.setIfInBounds_toArray, List.set_cons_succ, List.set_cons_zero]
          refine wpi_exG (v := .int .i64 (x.1.2.1 : Int)) (fun _ => trivial) (wanted_of (j := 4) (d := 47) (b := true) rfl rfl rfl) rfl (ex_load rfl rfl (run_load1 rdna3 (hv.load 0 0 rfl rfl))) ?_
          refine wpi_exG (v := .int .i64 (at_ : Int)) (fun _ => trivial) (wanted_of (j := 4) (d := 47) (b := true) rfl rfl rfl) rfl (ex_load rfl rfl (run_load1 rdna3 (hv.load 5 0 rfl rfl))) ?_
          refine wpi_exG (v := .int .i64 ((x.1.2.1 : Int) - (at_ : Int))) (fun _ => trivial) (wanted_of (j := 4) (d := 47) (b := true) rfl rfl rfl) rfl (ex_sub (m := (x.1.2.1 : Int)) (n := (at_ : Int)) rfl rfl rfl (i64_in (by omega))) ?_
          simp only [Act.put, List.setIfInBounds_toArray, List.set_cons_succ, List.set_cons_zero]
          refine wpi_exG (v := .int .i64 (n : Int)) (fun _ => trivial) (wanted_of (j := 4) (d := 47) (b := true) rfl rfl rfl) rfl (ex_load rfl rfl (run_load1 rdna3 (hv.load 4 0 rfl rfl))) ?_
          by_cases hb38 : ((x.1.2.1 : Int) - (at_ : Int)) < (n : Int)
          · refine wpi_exG (v := .bool true) (fun _ => trivial) (wanted_of (j := 4) (d := 47) (b := true) rfl rfl rfl) rfl (ex_lss (k := .i64) (m := ((x.1.2.1 : Int) - (at_ : Int))) (n := (n : Int)) rfl rfl rfl (decide_eq_true hb38)) ?_
            refine wpi_exG (v := .bool true) (fun _ => trivial) (wn rfl) rfl (ex_pick (b := true) rfl rfl rfl) ?_
            refine wpListIn_nil ?_
            simp only [Act.put, List.setIfInBounds_toArray, List.set_cons_succ, List.set_cons_zero]
            refine then_normal (hK36 _ _ ?_)
            clear hK36 K36
            refine wpIn_cond_true rfl ?_
            refine region_stR mixed (fun ⟨_, _, h⟩ => by simp [Exit.then, Exit.inBlock] at h) [.slice (some ⟨b13, 0, none⟩) (n * 64) (n * 64), .pointer (some ⟨b, 0, none⟩), .int .i64 (x.1.2.1 : Int), .int .i64 (at_ : Int), .int .i64 ((x.1.2.1 : Int) - (at_ : Int)), .int .i64 (((x.1.2.1 - at_) * 64 : Nat) : Int), .slice (some ⟨b13, 0 + ((x.1.2.1 - at_) * 64 : Nat), none⟩) (n * 64 - ((x.1.2.1 - at_) * 64 : Nat)) (n * 64 - ((x.1.2.1 - at_) * 64 : Nat)), .pointer (some ⟨b, 1, none⟩), .slice (some ⟨b, 1, none⟩) 64 64, undef] [9] [⟨fun vals w => vals = [] ∧ Inv B' (Res.cell b (wrCells x.1.2) 92 :: Res.cell b31 [.pointer (some ⟨p, 0, none⟩)] 36 :: Res.cell b15 [.slice (some ⟨b13, 0, none⟩) (n * 64) (n * 64)] 24 :: Res.cell b13 (durCells (E.view (pre.map (fun y : PendEl E => y.1.2)) at_ n)) 5 :: Res.cell b4 [.int .i64 (n : Int)] 3 :: Res.cell b2 [.int .i64 (at_ : Int)] 3 :: Res.cell p [.slice (some ⟨gd, 0, none⟩) E.dur.length E.dur.length, .slice vad E.pend.length vc, .int .i64 E.left] 87 :: Res.cell gd (durCells E.dur) 90 :: []) w, fun _ _ _ ⟨h, hi⟩ he => ⟨h, hi.ext he⟩⟩, ⟨fun vals w => vals = [.int .i64 64] ∧ Inv B' (Res.cell b (wrCells x.1.2) 92 :: Res.cell b31 [.pointer (some ⟨p, 0, none⟩)] 36 :: Res.cell b15 [.slice (some ⟨b13, 0, none⟩) (n * 64) (n * 64)] 24 :: Res.cell b13 (durCells (E.view (pre.map (fun y : PendEl E => y.1.2) ++ [x.1.2]) at_ n)) 5 :: Res.cell b4 [.int .i64 (n : Int)] 3 :: Res.cell b2 [.int .i64 (at_ : Int)] 3 :: Res.cell p [.slice (some ⟨gd, 0, none⟩) E.dur.length E.dur.length, .slice vad E.pend.length vc, .int .i64 E.left] 87 :: Res.cell gd (durCells E.dur) 90 :: []) w, fun _ _ _ ⟨h, hi⟩ he => ⟨h, hi.ext he⟩⟩] 66 rfl (by kernel_rfl) (by kernel_rfl) ⟨rfl, hv⟩ ⟨?_, ?_, ?_, ?_, ?_, ?_, ?_, ?_, ?_, ?_, trivial⟩ ?_
            · intro aa ww vals hJ hR
              have h2 : vals.length ≤ 0 := hR.hi 9 (by simp) rfl
              have hl : vals.length = 0 := by omega
              obtain ⟨hvals, hv⟩ := hJ.at0 hl
              exact add_step' rfl (Ex.adds' (ex_load rfl (show aa.eval (.tmp 8) = _ from hR.keep 8 rfl) (run_load1 rdna24 (hv.load 2 0 rfl rfl))) (wn rfl) rfl)
            · intro aa ww vals hJ hR
              exact add_step' rfl (Ex.adds' (ex_field rfl (show aa.eval (.tmp 11) = _ from hR.keep 11 rfl) (rdfa92_0 _ _ _)) (wn rfl) rfl)
            · intro aa ww vals hJ hR
              have h2 : vals.length ≤ 0 := hR.hi 9 (by simp) rfl
              have hl : vals.length = 0 := by omega
              obtain ⟨hvals, hv⟩ := hJ.at0 hl
              exact add_step' rfl (Ex.adds' (ex_load rfl (show aa.eval (.tmp 56) = _ from hR.v 1 56 rfl rfl rfl rfl) (run_load1 rdna3 (hv.load 0 0 rfl rfl))) (wn rfl) rfl)
            · intro aa ww vals hJ hR
              have h2 : vals.length ≤ 0 := hR.hi 9 (by simp) rfl
              have hl : vals.length = 0 := by omega
              obtain ⟨hvals, hv⟩ := hJ.at0 hl
              exact add_step' rfl (Ex.adds' (ex_load rfl (show aa.eval (.tmp 4) = _ from hR.keep 4 rfl) (run_load1 rdna3 (hv.load 5 0 rfl rfl))) (wn rfl) rfl)
            · intro aa ww vals hJ hR
              exact add_step' rfl (Ex.adds' (ex_sub (m := (x.1.2.1 : Int)) (n := (at_ : Int)) rfl (show aa.eval (.tmp 57) = _ from hR.v 2 57 rfl rfl rfl rfl) (show aa.eval (.tmp 58) = _ from hR.v 3 58 rfl rfl rfl rfl) (i64_in (by omega))) (wn rfl) rfl)
            · intro aa ww vals hJ hR
              exact add_step' rfl (Ex.adds' (ex_mul (m := ((x.1.2.1 : Int) - (at_ : Int))) (n := 64) rfl (show aa.eval (.tmp 59) = _ from hR.v 4 59 rfl rfl rfl rfl) rfl (by rw [i64_in (by omega)]; omega)) (wn rfl) rfl)
            · intro aa ww vals hJ hR
              exact add_step' rfl (Ex.adds' (ex_slice (lo' := some (.int .i64 (((x.1.2.1 - at_) * 64 : Nat) : Int))) rfl (show aa.eval (.tmp 55) = _ from hR.v 0 55 rfl rfl rfl rfl) (congrArg some (show aa.eval (.tmp 60) = _ from hR.v 5 60 rfl rfl rfl rfl)) rfl rfl (run_from1 Try.underlying24 rdes24 (by omega) (by omega))) (wn rfl) rfl)
            · intro aa ww vals hJ hR
              exact add_step' rfl (Ex.adds' (ex_field rfl (show aa.eval (.tmp 11) = _ from hR.keep 11 rfl) (rdfa92_1 _ _ _)) (wn rfl) rfl)
            · intro aa ww vals hJ hR
              exact add_step' rfl (Ex.adds' (ex_slice rfl (show aa.eval (.tmp 62) = _ from hR.v 7 62 rfl rfl rfl rfl) rfl rfl rfl (rdsa90 _ _ _)) (wn rfl) rfl)
            · intro aa ww vals hJ hR
              refine mem_step' rfl fun hvl => ?_
              have hl : vals.length = 0 := hvl
              obtain ⟨hvals, hv⟩ := hJ.at0 hl
              exact Ex.mem (rdCopy hok (pre64 hok pre) hx.2 (by omega) (by omega) hat rfl (show aa.eval (.tmp 61) = _ from hR.v 6 61 rfl rfl rfl rfl) (show aa.eval (.tmp 63) = _ from hR.v 8 63 rfl rfl rfl rfl) (hv.get 3 rfl) (hv.get 0 rfl)) (wn rfl) (JS.next hl ⟨by rw [hvals]; rfl, (hv.putAt 3 rfl _)⟩)
            rintro w39 vals ⟨rfl, hv⟩
            rw [show mixV [9] [.int .i64 64] 0 [.slice (some ⟨b13, 0, none⟩) (n * 64) (n * 64), .pointer (some ⟨b, 0, none⟩), .int .i64 (x.1.2.1 : Int), .int .i64 (at_ : Int), .int .i64 ((x.1.2.1 : Int) - (at_ : Int)), .int .i64 (((x.1.2.1 - at_) * 64 : Nat) : Int), .slice (some ⟨b13, 0 + ((x.1.2.1 - at_) * 64 : Nat), none⟩) (n * 64 - ((x.1.2.1 - at_) * 64 : Nat)) (n * 64 - ((x.1.2.1 - at_) * 64 : Nat)), .pointer (some ⟨b, 1, none⟩), .slice (some ⟨b, 1, none⟩) 64 64, undef] = [.slice (some ⟨b13, 0, none⟩) (n * 64) (n * 64), .pointer (some ⟨b, 0, none⟩), .int .i64 (x.1.2.1 : Int), .int .i64 (at_ : Int), .int .i64 ((x.1.2.1 : Int) - (at_ : Int)), .int .i64 (((x.1.2.1 - at_) * 64 : Nat) : Int), .slice (some ⟨b13, 0 + ((x.1.2.1 - at_) * 64 : Nat), none⟩) (n * 64 - ((x.1.2.1 - at_) * 64 : Nat)) (n * 64 - ((x.1.2.1 - at_) * 64 : Nat)), .pointer (some ⟨b, 1, none⟩), .slice (some ⟨b, 1, none⟩) 64 64, .int .i64 64] from rfl]
            simp only [putAll, Act.put, List.setIfInBounds_toArray, List.set_cons_succ, List.set_cons_zero]
            refine blk_normal ?_
            rw [map_snoc]
            exact ⟨by trivial, hv.drop⟩
          · refine wpi_exG (v := .bool false) (fun _ => trivial) (wanted_of (j := 4) (d := 47) (b := true) rfl rfl rfl) rfl (ex_lss (k := .i64) (m := ((x.1.2.1 : Int) - (at_ : Int))) (n := (n : Int)) rfl rfl rfl (decide_eq_false hb38)) ?_
            refine wpi_exG (v := .bool false) (fun _ => trivial) (wn rfl) rfl (ex_pick (b := true) rfl rfl rfl) ?_
            refine wpListIn_nil ?_
            simp only [Act.put, List.setIfInBounds_toArray, List.set_cons_succ, List.set_cons_zero]
            refine then_normal (hK36 _ _ ?_)
            clear hK36 K36
            refine wpIn_cond_false rfl ?_
            refine wpIn_skip ?_
            refine blk_normal ?_
            rw [map_snoc, Disk.view_out _ _ _ _ _ (by omega)]
            exact ⟨by trivial, hv.drop⟩
        · refine wpi_exG (v := .bool false) (fun _ => trivial) (wn rfl) rfl (ex_geq (k := .i64) (m := (x.1.2.1 : Int)) (n := (at_ : Int)) rfl rfl rfl (decide_eq_false hb37)) ?_
          refine wpi_exG (v := .bool false) (fun _ => trivial) (wn rfl) rfl (ex_move rfl rfl) ?_
          refine wpi_not (fun _ => trivial) (wanted_not (j := 4) (d := 47) (b := true) (b' := false) rfl rfl rfl (by decide)) ?_
          simp only [Act.put, List.setIfInBounds_toArray, List.set_cons_succ, List.set_cons_zero]
          refine wpi_not (fun _ => trivial) (wanted_not (j := 4) (d := 47) (b := true) (b' := false) rfl rfl rfl (by decide)) ?_
          refine wpi_not (fun _ => trivial) (wanted_not (j := 4) (d := 47) (b := true) (b' := false) rfl rfl rfl (by decide)) ?_
          refine wpi_not (fun _ => trivial) (wanted_not (j := 4) (d := 47) (b := true) (b' := false) rfl rfl rfl (by decide)) ?_
          simp only [Act.put, List.setIfInBounds_toArray, List.set_cons_succ, List.set_cons_zero]
          refine wpi_not (fun _ => trivial) (wanted_not (j := 4) (d := 47) (b := true) (b' := false) rfl rfl rfl (by decide)) ?_
          refine wpi_not (fun _ => trivial) (wanted_not (j := 4) (d := 47) (b := true) (b' := false) rfl rfl rfl (by decide)) ?_
          refine wpi_exG (v := .bool false) (fun _ => trivial) (wn rfl) rfl (ex_pick (b := false) rfl rfl rfl) ?_
          refine wpListIn_nil ?_
          simp only [Act.put, List.setIfInBounds_toArray, List.set_cons_succ, List.set_cons_zero]
          refine then_normal (hK36 _ _ ?_)
          clear hK36 K36
          refine wpIn_cond_false rfl ?_
          refine wpIn_skip ?_
          refine blk_normal ?_
          rw [map_snoc, Disk.view_out _ _ _ _ _ (by omega)]
          exact ⟨by trivial, hv.drop⟩
      case done =>
        intro d40 xs w41 hS hv
        simp only [List.cons_append, List.nil_append] at hv
        refine blk_normal ?_
        refine then_normal (hK29 _ _ ?_)
        clear hK29 K29
        refine wpIn_seq_k (fun K42 hK42 => ?_)
        refine wpIn_region_lit ?_
        refine wpi_exG (v := .slice (some ⟨b13, 0, none⟩) (n * 64) (n * 64)) (fun _ => trivial) (wn rfl) rfl (ex_load rfl rfl (run_load1 rdna24 (hv.load 2 0 rfl rfl))) ?_
        refine wpi_exG (v := .slice (some ⟨b13, 0, none⟩) (n * 64) (n * 64)) (fun _ => trivial) (wn rfl) rfl (ex_assign rfl rfl) ?_
        refine wpi_exG (v := .int .i64 0) (fun _ => trivial) (wn rfl) rfl (ex_assign rfl rfl) ?_
        refine wpListIn_nil ?_
        simp only [Act.put, List.setIfInBounds_toArray, List.set_cons_succ, List.set_cons_zero]
        refine then_normal (hK42 _ _ ?_)
        clear hK42 K42
        refine wpIn_ret ?_
        refine sl_end1 hv (fun w43 hv => ⟨_, results_tmp2 rfl _ _ _, ?_⟩)
        rw [all_pend hS] at hv
        obtain ⟨F', hv⟩ := Inv.diskClose (v := .slice vad E.pend.length vc) hok (((((hv.front 2 rfl).front 7 rfl).front 7 rfl).front 7 rfl).sub (List.Sublist.cons_cons _ (List.Sublist.cons_cons _ (List.Sublist.cons_cons _ (List.Sublist.cons_cons _ (List.Sublist.cons _ (List.Sublist.cons _ (List.Sublist.cons _ (List.Sublist.cons _ (List.Sublist.refl _))))))))))
        exact ⟨_, rfl, F', (hv.front 1 rfl)⟩
end Go.Proofs.Ytkannfkjnohdlaa
/- The disk's methods, over resources. -/
namespace Go.Proofs.Ytkannfkjnohdlaa
open Go.RowKit Go.Pm

theorem diskNewSl (B : Base) (H : List Res) (w : World) (n : Nat) (h1 : 1 ≤ n) (h2 : n ≤ 65536) (hv : Inv B H w) :
    Calls Try.prog 21 #[.int .i64 (n : Int)] w fun e w' => ∃ p F, e = .returned (.tuple #[.pointer (some ⟨p, 0, none⟩), .int .i64 0]) ∧ Inv B (diskR p (Disk.zero n) F :: H) w' := by
  refine (diskNew w n h1 h2).mono ?_
  rintro e w' ⟨p, F, h1, h2, h3, h4⟩
  refine ⟨p, F, h1, hv.new h3 (diskR p (Disk.zero n) F) h2 (fun b hb => ⟨h4 b hb, h2.lt b hb⟩) ?_⟩
  obtain ⟨_, gd, vp, rfl, hn, _⟩ := h2
  exact hn
theorem diskWriteSl (B : Base) (H : List Res) (w : World) (p : Nat) (D : Disk) (F : List Nat) (at_ : Nat) (a : Option Addr) (n cap : Nat) (l : List UInt8) (hv : Inv B (diskR p D F :: H) w) (hn : l.length = n) (hok : SliceOk a n cap) (hr : RdV B H a (l.map B8))
    (hh : D.has at_ (Disk.nsec l) = true) (hl : D.left ≠ 0) (hpl : D.pend.length ≤ 1000000000) :
    Calls Try.prog 22 #[.pointer (some ⟨p, 0, none⟩), .int .i64 (at_ : Int), .slice a n cap] w fun e w' => ∃ F', e = .returned (.int .i64 0) ∧ Inv B (diskR p (D.write at_ l) F' :: H) w' := by
  refine (diskWriteOk w p D F at_ a n cap l _ hv.head hn hok (hr.bytes hv) (fun k hk => hk) hh hl hpl).mono ?_
  rintro e w' ⟨h1, h2⟩
  obtain ⟨F', h3⟩ := Inv.diskTo hv h2
  exact ⟨F', h1, h3⟩
theorem diskWriteBadSl (B : Base) (H : List Res) (w : World) (p : Nat) (D : Disk) (F : List Nat) (at_ : Int) (a : Option Addr) (n cap : Nat) (l : List UInt8) (hv : Inv B (diskR p D F :: H) w) (ha : -9223372036854775808 ≤ at_ ∧ at_ ≤ 9223372036854775807) (hn : l.length = n) (hm : n ≤ 1000000000) (hh : D.has at_ (Disk.nsec l) = false) :
    Calls Try.prog 22 #[.pointer (some ⟨p, 0, none⟩), .int .i64 at_, .slice a n cap] w fun e w' => e = .returned (.int .i64 2) ∧ Inv B (diskR p D F :: H) w' :=
  (diskWriteBad w p D F at_ a n cap l hv.head ha hn hm hh).mono fun e w' ⟨h1, h2⟩ => ⟨h1, h2 ▸ hv⟩
theorem diskWriteOffSl (B : Base) (H : List Res) (w : World) (p : Nat) (D : Disk) (F : List Nat) (at_ : Int) (a : Option Addr) (n cap : Nat) (l : List UInt8) (hv : Inv B (diskR p D F :: H) w) (ha : -9223372036854775808 ≤ at_ ∧ at_ ≤ 9223372036854775807) (hn : l.length = n) (hm : n ≤ 1000000000) (hh : D.has at_ (Disk.nsec l) = true) (hl : D.left = 0) :
    Calls Try.prog 22 #[.pointer (some ⟨p, 0, none⟩), .int .i64 at_, .slice a n cap] w fun e w' => ∃ F', e = .returned (.int .i64 20) ∧ Inv B (diskR p D F' :: H) w' := by
  refine (diskWriteOff w p D F at_ a n cap l hv.head ha hn hm hh hl).mono ?_
  rintro e w' ⟨h1, h2, h3⟩
  obtain ⟨F', h4⟩ := Inv.diskTo hv ⟨F, h2, h3, fun k hk => .inl hk⟩
  exact ⟨F', h1, h4⟩
theorem diskSyncSl (B : Base) (H : List Res) (w : World) (p : Nat) (D : Disk) (F : List Nat) (hv : Inv B (diskR p D F :: H) w) (hl : D.left ≠ 0) (hpl : D.pend.length ≤ 2000000000) :
    Calls Try.prog 24 #[.pointer (some ⟨p, 0, none⟩)] w fun e w' => ∃ F', e = .returned (.int .i64 0) ∧ Inv B (diskR p D.sync F' :: H) w' := by
  refine (diskSyncOk w p D F hv.head hl hpl).mono ?_
  rintro e w' ⟨h1, h2⟩
  obtain ⟨F', h3⟩ := Inv.diskTo hv h2
  exact ⟨F', h1, h3⟩
theorem diskSyncOffSl (B : Base) (H : List Res) (w : World) (p : Nat) (D : Disk) (F : List Nat) (hv : Inv B (diskR p D F :: H) w) (hl : D.left = 0) :
    Calls Try.prog 24 #[.pointer (some ⟨p, 0, none⟩)] w fun e w' => ∃ F', e = .returned (.int .i64 20) ∧ Inv B (diskR p D F' :: H) w' := by
  refine (diskSyncOff w p D F hv.head hl).mono ?_
  rintro e w' ⟨h1, h2⟩
  obtain ⟨F', h3⟩ := Inv.diskTo hv h2
  exact ⟨F', h1, h3⟩
def intV (n : Int) : Value := .int .i64 n
theorem diskCrashSl (B : Base) (H : List Res) (w : World) (p : Nat) (D : Disk) (F : List Nat) (ka : Option Addr) (n kc : Nat) (ks : List Int) (hv : Inv B (diskR p D F :: H) w) (hpl : D.pend.length ≤ 1000000000) (hn : ks.length = n) (hm : n ≤ 1000000000) (hr : RdV B H ka (ks.map intV)) (hw : ∀ k ∈ ks, -9223372036854775808 ≤ k ∧ k ≤ 9223372036854775807) :
    Calls Try.prog 25 #[.pointer (some ⟨p, 0, none⟩), .slice ka n kc] w fun e w' => ∃ F', e = .returned (.int .i64 ((D.kept ks).length : Int)) ∧ Inv B (diskR p (D.crash ks) F' :: H) w' := by
  refine (diskCrash B H w p D F ka n kc ks hv hpl hn hm (fun w hv i hi => ?_) hw).mono ?_
  · obtain ⟨b, off, h1, h2⟩ := hr.cellAt hv i (by simpa using hi)
    exact ⟨b, off, h1, by simpa [intV] using h2⟩
  · rintro e w' ⟨h1, F', h2⟩
    exact ⟨F', h1, h2⟩
theorem ok_full {b n : Nat} (h : n ≤ 1000000000000) : SliceOk (some ⟨b, 0, none⟩) n n := ⟨Nat.le_refl _, by unfold maxLen; omega, fun h => by cases h⟩
end Go.Proofs.Ytkannfkjnohdlaa
/- slots: number, put, Room, Generation -/
namespace Go.Proofs.Ytkannfkjnohdlaa
open Go.RowKit Go.Pm
theorem num_small (l : List UInt8) (h : l.length ≤ 7) : numOf l < 72057594037927936 := by
  have h1 := numOf_lt l
  have h2 : 256 ^ l.length ≤ 256 ^ 7 := Nat.pow_le_pow_right (by decide) h
  have h3 : (256 : Nat) ^ 7 = 72057594037927936 := by decide
  omega
def putMid (m n : Nat) (mid : List Value) (i : Nat) : List Value := mid.take (m - i) ++ ((beOf m n).map B8).drop (m - i)
theorem putMid_len {m n : Nat} {mid : List Value} {i : Nat} (h : mid.length = m) (hi : i ≤ m) : (putMid m n mid i).length = m := by
  simp [putMid, beOf_length, h]
theorem putMid_zero {m n : Nat} {mid : List Value} (h : mid.length = m) : putMid m n mid 0 = mid := by
  unfold putMid
  rw [Nat.sub_zero, List.take_of_length_le (by omega), List.drop_eq_nil_of_le (by simp [beOf_length]), List.append_nil]
theorem putMid_all {m n : Nat} {mid : List Value} : putMid m n mid m = (beOf m n).map B8 := by simp [putMid]
theorem putMid_succ {m n : Nat} {mid : List Value} {i : Nat} (h : mid.length = m) (hi : i < m) : (putMid m n mid i).set (m - 1 - i) (B8 (UInt8.ofNat (n / 256 ^ i))) = putMid m n mid (i + 1) := by
  apply List.ext_getElem?
  intro j
  unfold putMid
  have hl : ((beOf m n).map B8).length = m := by simp [beOf_length]
  by_cases hj : j = m - 1 - i
  · subst hj
    rw [List.getElem?_set_self (by simp [h, beOf_length]; omega), List.getElem?_append_right (by simp [h]; omega), List.getElem?_drop]
    simp only [List.length_take, h]
    rw [show m - (i + 1) + (m - 1 - i - min (m - (i + 1)) m) = m - 1 - i by omega]
    simp only [beOf, List.map_map, List.getElem?_map, List.getElem?_range (show m - 1 - i < m by omega), Option.map_some, Function.comp_def]
    rw [show m - 1 - (m - 1 - i) = i by omega]
  · rw [List.getElem?_set_ne (by omega)]
    by_cases h1 : j < m - 1 - i
    · rw [List.getElem?_append_left (by simp [h]; omega), List.getElem?_append_left (by simp [h]; omega), List.getElem?_take_of_lt (by omega), List.getElem?_take_of_lt (by omega)]
    · rw [List.getElem?_append_right (by simp [h]; omega), List.getElem?_append_right (by simp [h]; omega), List.getElem?_drop, List.getElem?_drop]
      simp only [List.length_take, h]
      congr 1
      omega
theorem set_mid (pre mid post : List Value) (k : Nat) (v : Value) (hk : k < mid.length) : (pre ++ mid ++ post).set (pre.length + k) v = pre ++ mid.set k v ++ post := by
  rw [List.set_append_left _ _ (by simp; omega), List.set_append_right _ _ (by omega)]
  simp
def roomOf (each : Nat) : Nat := if 1048576 < 64 * (each - 1) then 1048576 else 64 * (each - 1)

theorem s1es24 (w : World) : (sizeOf (Try.prog.elem 24)).run Try.prog w = .ok 1 w := by kernel_rfl
theorem s1na5 (w : World) : (isAgg 5).run Try.prog w = .ok false w := by kernel_rfl
set_option maxRecDepth 100000 in
set_option maxHeartbeats 2000000 in
theorem slotsNumber (B : Base) (H : List Res) (w : World) (a : Option Addr) (n cap : Nat) (l : List UInt8) (hn : l.length = n) (h8 : n ≤ 8) (hr : RdV B H a (l.map B8)) (hv : Inv B H w) :
    Calls Try.prog 58 #[.slice a n cap] w fun e w' => e = .returned (.int .u64 (numOf l : Int)) ∧ Inv B H w' := by
  refine (callsIn_wide (n := 5)).1 ?_
  refine callsIn_of_wp Try.func58 rfl trivial ?_
  simp only [Try.ntmps58, List.size_toArray, List.length_cons, List.length_nil, Nat.reduceAdd, Nat.reduceSub, Array.replicate_succ, Array.replicate_zero, List.push_toArray, List.append_toArray, List.nil_append, List.cons_append]
  refine wpIn_seq_k (fun K1 hK1 => ?_)
  refine wpIn_region_lit ?_
  refine wpi_exG (v := .int .u64 0) (fun _ => trivial) (wn rfl) rfl (ex_assign rfl rfl) ?_
  refine wpListIn_nil ?_
  simp only [Act.put, List.setIfInBounds_toArray, List.set_cons_succ, List.set_cons_zero]
  refine then_normal (hK1 _ _ ?_)
  clear hK1 K1
  refine wpIn_seq_k (fun K2 hK2 => ?_)
  refine wpIn_region_lit ?_
  refine wpi_exG (v := .int .u64 0) (fun _ => trivial) (wn rfl) rfl (ex_assign rfl rfl) ?_
  refine wpListIn_nil ?_
  simp only [Act.put, List.setIfInBounds_toArray, List.set_cons_succ, List.set_cons_zero]
  refine then_normal (hK2 _ _ ?_)
  clear hK2 K2
  refine wpIn_seq_k (fun K3 hK3 => ?_)
  refine wpIn_seq_k (fun K4 hK4 => ?_)
  refine wpIn_region_lit ?_
  refine wpi_exG (v := .slice a n cap) (fun _ => trivial) (wn rfl) rfl (ex_move rfl rfl) ?_
  refine wpi_exG (v := .int .i64 (n : Int)) (fun _ => trivial) (wn rfl) rfl (ex_len0 Try.underlying24 rfl rfl) ?_
  refine wpi_exG (v := .int .i64 0) (fun _ => trivial) (wn rfl) rfl (ex_move rfl rfl) ?_
  refine wpListIn_nil ?_
  simp only [Act.put, List.setIfInBounds_toArray, List.set_cons_succ, List.set_cons_zero]
  refine then_normal (hK4 _ _ ?_)
  clear hK4 K4
  refine wpIn_block ?_
  gi_loopw [3, 7] (fun x3 x7 wr => ∃ i : Nat, x3 = .int .u64 (numOf (l.take i) : Int) ∧ x7 = .int .i64 (i : Int) ∧ i ≤ n ∧ Inv B H wr) (fun x3 x7 _ => n - (intOf x7).toNat)
  case atStart => exact ⟨0, rfl, rfl, by omega, hv⟩
  case round =>
    obtain ⟨i, rfl, rfl, hi, hv⟩ := hrel
    refine wpIn_seq_k (fun K6 hK6 => ?_)
    refine wpIn_region_lit ?_
    by_cases hb7 : (i : Int) < (n : Int)
    · have hm := num_small (l.take i) (by rw [List.length_take]; omega)
      refine wpi_exG (v := .bool true) (fun _ => trivial) (wn rfl) rfl (ex_lss (k := .i64) (m := (i : Int)) (n := (n : Int)) rfl rfl rfl (decide_eq_true hb7)) ?_
      refine wpListIn_nil ?_
      simp only [Act.put, List.setIfInBounds_toArray, List.set_cons_succ, List.set_cons_zero]
      refine then_normal (hK6 _ _ ?_)
      clear hK6 K6
      refine wpIn_seq_k (fun K8 hK8 => ?_)
      refine wpIn_cond_true rfl ?_
      refine wpIn_skip ?_
      refine then_normal (hK8 _ _ ?_)
      clear hK8 K8
      refine wpIn_seq_k (fun K9 hK9 => ?_)
      refine wpIn_block ?_
      refine wpIn_seq_k (fun K10 hK10 => ?_)
      refine wpIn_region_lit ?_
      refine wpi_exG (v := .int .i64 (i : Int)) (fun _ => trivial) (wn rfl) rfl (ex_move rfl rfl) ?_
      refine wpi_exG (v := .int .i64 (i : Int)) (fun _ => trivial) (wn rfl) rfl (ex_assign rfl rfl) ?_
      refine wpListIn_nil ?_
      simp only [Act.put, List.setIfInBounds_toArray, List.set_cons_succ, List.set_cons_zero]
      refine then_normal (hK10 _ _ ?_)
      clear hK10 K10
      refine wpIn_region_lit ?_
      refine wpi_exG (v := .int .u64 (numOf (l.take i) : Int)) (fun _ => trivial) (wn rfl) rfl (ex_move rfl rfl) ?_
      refine wpi_exG (v := .int .u64 ((numOf (l.take i) * 256 : Nat) : Int)) (fun _ => trivial) (wn rfl) rfl (ex_shl (m := (numOf (l.take i) : Int)) (n := 8) rfl rfl rfl (by decide) (shl8 _ hm)) ?_
      refine wpi_exG (v := .slice a n cap) (fun _ => trivial) (wn rfl) rfl (ex_move rfl rfl) ?_
      simp only [Act.put, List.setIfInBounds_toArray, List.set_cons_succ, List.set_cons_zero]
      refine wpi_exG (v := .int .i64 (i : Int)) (fun _ => trivial) (wn rfl) rfl (ex_move rfl rfl) ?_
      have hin : i < l.length := by omega
      obtain ⟨ab, aoff, rfl, hcell⟩ := hr.cellAt hv i (by rw [List.length_map]; exact hin)
      have htake : l.take (i + 1) = l.take i ++ [l[i]] := by rw [List.take_succ_eq_append_getElem hin]
      simp only [List.getElem_map] at hcell
      generalize l[i] = c at *
      have hc := c.toNat_lt
      refine wpi_exG (v := .pointer (some ⟨ab, aoff + i, none⟩)) (fun _ => trivial) (wn rfl) rfl (ex_index rfl rfl rfl (run_idx1 (k := i) Try.underlying24 s1es24 (by omega))) ?_
      refine wpi_exG (v := .int .u8 (c.toNat : Int)) (fun _ => trivial) (wn rfl) rfl (ex_load rfl rfl (run_load1 s1na5 hcell)) ?_
      simp only [Act.put, List.setIfInBounds_toArray, List.set_cons_succ, List.set_cons_zero]
      refine wpi_exG (v := .int .u64 (c.toNat : Int)) (fun _ => trivial) (wn rfl) rfl (ex_int (m := (c.toNat : Int)) Try.underlying5 Try.underlying114 rfl rfl (u64_in (by omega))) ?_
      refine wpi_exG (v := .int .u64 ((numOf (l.take i) * 256 + c.toNat : Nat) : Int)) (fun _ => trivial) (wn rfl) rfl (ex_bits (m := ((numOf (l.take i) * 256 : Nat) : Int)) (n := (c.toNat : Int)) rfl rfl rfl rfl (or_byte _ _ hm hc)) ?_
      refine wpi_exG (v := .int .u64 ((numOf (l.take i) * 256 + c.toNat : Nat) : Int)) (fun _ => trivial) (wn rfl) rfl (ex_assign rfl rfl) ?_
      refine wpListIn_nil ?_
      simp only [Act.put, List.setIfInBounds_toArray, List.set_cons_succ, List.set_cons_zero]
      refine blk_normal ?_
      refine then_normal (hK9 _ _ ?_)
      clear hK9 K9
      refine wpIn_region_lit ?_
      refine wpi_exG (v := .int .i64 ((i : Int) + 1)) (fun _ => trivial) (wn rfl) rfl (ex_add (m := (i : Int)) (n := 1) rfl rfl rfl (i64_in (by omega))) ?_
      refine wpi_exG (v := .int .i64 ((i : Int) + 1)) (fun _ => trivial) (wn rfl) rfl (ex_move rfl rfl) ?_
      refine wpListIn_nil ?_
      simp only [Act.put, List.setIfInBounds_toArray, List.set_cons_succ, List.set_cons_zero]
      refine then_normal ?_
      go_roundw
      case rel => exact ⟨i + 1, by rw [htake, numOf_snoc], by simp, by omega, hv⟩
      case measure => show n - ((i : Int) + 1).toNat < n - (i : Int).toNat; omega
    · refine wpi_exG (v := .bool false) (fun _ => trivial) (wn rfl) rfl (ex_lss (k := .i64) (m := (i : Int)) (n := (n : Int)) rfl rfl rfl (decide_eq_false hb7)) ?_
      refine wpListIn_nil ?_
      simp only [Act.put, List.setIfInBounds_toArray, List.set_cons_succ, List.set_cons_zero]
      refine then_normal (hK6 _ _ ?_)
      clear hK6 K6
      refine wpIn_seq_k (fun K11 hK11 => ?_)
      refine wpIn_cond_false rfl ?_
      refine wpIn_exit ?_
      refine then_exit ?_
      clear hK11 K11
      refine then_exit ?_
      refine blk_hit ?_
      refine then_normal (hK3 _ _ ?_)
      clear hK3 K3
      refine wpIn_seq_k (fun K12 hK12 => ?_)
      refine wpIn_region_lit ?_
      refine wpi_exG (v := .int .u64 (numOf (l.take i) : Int)) (fun _ => trivial) (wn rfl) rfl (ex_move rfl rfl) ?_
      refine wpi_exG (v := .int .u64 (numOf (l.take i) : Int)) (fun _ => trivial) (wn rfl) rfl (ex_assign rfl rfl) ?_
      refine wpListIn_nil ?_
      simp only [Act.put, List.setIfInBounds_toArray, List.set_cons_succ, List.set_cons_zero]
      refine then_normal (hK12 _ _ ?_)
      clear hK12 K12
      refine wpIn_ret ?_
      refine bodyPost_ret (results_tmp rfl _ _ _) rfl ?_
      rw [List.take_of_length_le (by omega)]
      exact ⟨rfl, hv⟩
theorem s1sz5 : (Try.prog.info? 5).map (·.size) = some 1 := by kernel_rfl
set_option maxRecDepth 100000 in
set_option maxHeartbeats 2000000 in
theorem slotsPut (B : Base) (H : List Res) (w : World) (hb o cap m n : Nat) (pre mid post : List Value) (t : TypeId) (ho : pre.length = o) (hmid : mid.length = m) (hm : m ≤ 8) (hn : n < 18446744073709551616) (hv : Inv B (Res.cell hb (pre ++ mid ++ post) t :: H) w) :
    Calls Try.prog 62 #[.slice (some ⟨hb, o, none⟩) m cap, .int .u64 (n : Int)] w fun e w' => e = .returned (.tuple #[]) ∧ Inv B (Res.cell hb (pre ++ (beOf m n).map B8 ++ post) t :: H) w' := by
  refine (callsIn_wide (n := 5)).1 ?_
  refine callsIn_of_wp Try.func62 rfl trivial ?_
  simp only [Try.ntmps62, List.size_toArray, List.length_cons, List.length_nil, Nat.reduceAdd, Nat.reduceSub, Array.replicate_succ, Array.replicate_zero, List.push_toArray, List.append_toArray, List.nil_append, List.cons_append]
  refine wpIn_seq_k (fun K1 hK1 => ?_)
  refine wpIn_region_lit ?_
  refine wpi_exG (v := .slice (some ⟨hb, o, none⟩) m cap) (fun _ => trivial) (wn rfl) rfl (ex_move rfl rfl) ?_
  refine wpi_exG (v := .int .i64 (m : Int)) (fun _ => trivial) (wn rfl) rfl (ex_len0 Try.underlying24 rfl rfl) ?_
  refine wpi_exG (v := .int .i64 0) (fun _ => trivial) (wn rfl) rfl (ex_move rfl rfl) ?_
  refine wpListIn_nil ?_
  simp only [Act.put, List.setIfInBounds_toArray, List.set_cons_succ, List.set_cons_zero]
  refine then_normal (hK1 _ _ ?_)
  clear hK1 K1
  refine wpIn_block ?_
  gi_loopw [1, 7] (fun x1 x7 wr => ∃ i : Nat, x1 = .int .u64 ((n / 256 ^ i : Nat) : Int) ∧ x7 = .int .i64 (i : Int) ∧ i ≤ m ∧ Inv B (Res.cell hb (pre ++ putMid m n mid i ++ post) t :: H) wr) (fun x1 x7 _ => m - (intOf x7).toNat)
  case atStart => exact ⟨0, by simp, rfl, by omega, by rw [putMid_zero hmid]; exact hv⟩
  case round =>
    obtain ⟨i, rfl, rfl, hi, hv⟩ := hrel
    refine wpIn_seq_k (fun K3 hK3 => ?_)
    refine wpIn_region_lit ?_
    by_cases hb4 : (i : Int) < (m : Int)
    · refine wpi_exG (v := .bool true) (fun _ => trivial) (wn rfl) rfl (ex_lss (k := .i64) (m := (i : Int)) (n := (m : Int)) rfl rfl rfl (decide_eq_true hb4)) ?_
      refine wpListIn_nil ?_
      simp only [Act.put, List.setIfInBounds_toArray, List.set_cons_succ, List.set_cons_zero]
      refine then_normal (hK3 _ _ ?_)
      clear hK3 K3
      refine wpIn_seq_k (fun K5 hK5 => ?_)
      refine wpIn_cond_true rfl ?_
      refine wpIn_skip ?_
      refine then_normal (hK5 _ _ ?_)
      clear hK5 K5
      refine wpIn_seq_k (fun K6 hK6 => ?_)
      refine wpIn_block ?_
      refine wpIn_seq_k (fun K7 hK7 => ?_)
      refine wpIn_region_lit ?_
      refine wpi_exG (v := .int .i64 (i : Int)) (fun _ => trivial) (wn rfl) rfl (ex_move rfl rfl) ?_
      refine wpi_exG (v := .int .i64 (i : Int)) (fun _ => trivial) (wn rfl) rfl (ex_assign rfl rfl) ?_
      refine wpListIn_nil ?_
      simp only [Act.put, List.setIfInBounds_toArray, List.set_cons_succ, List.set_cons_zero]
      refine then_normal (hK7 _ _ ?_)
      clear hK7 K7
      refine wpIn_seq_k (fun K8 hK8 => ?_)
      refine wpIn_region_lit ?_
      refine wpi_exG (v := .slice (some ⟨hb, o, none⟩) m cap) (fun _ => trivial) (wn rfl) rfl (ex_move rfl rfl) ?_
      refine wpi_exG (v := .slice (some ⟨hb, o, none⟩) m cap) (fun _ => trivial) (wn rfl) rfl (ex_move rfl rfl) ?_
      refine wpi_exG (v := .int .i64 (m : Int)) (fun _ => trivial) (wn rfl) rfl (ex_len0 Try.underlying24 rfl rfl) ?_
      simp only [Act.put, List.setIfInBounds_toArray, List.set_cons_succ, List.set_cons_zero]
      refine wpi_exG (v := .int .i64 ((m : Int) - 1)) (fun _ => trivial) (wn rfl) rfl (ex_sub (m := (m : Int)) (n := 1) rfl rfl rfl (i64_in (by omega))) ?_
      refine wpi_exG (v := .int .i64 (i : Int)) (fun _ => trivial) (wn rfl) rfl (ex_move rfl rfl) ?_
      refine wpi_exG (v := .int .i64 ((m - 1 - i : Nat) : Int)) (fun _ => trivial) (wn rfl) rfl (ex_sub (m := ((m : Int) - 1)) (n := (i : Int)) rfl rfl rfl (by rw [i64_in (by omega)]; omega)) ?_
      simp only [Act.put, List.setIfInBounds_toArray, List.set_cons_succ, List.set_cons_zero]
      refine wpi_exG (v := .int .u64 ((n / 256 ^ i : Nat) : Int)) (fun _ => trivial) (wn rfl) rfl (ex_move rfl rfl) ?_
      refine wpi_exG (v := .int .u8 ((UInt8.ofNat (n / 256 ^ i)).toNat : Int)) (fun _ => trivial) (wn rfl) rfl (ex_int (m := ((n / 256 ^ i : Nat) : Int)) Try.underlying114 Try.underlying5 rfl rfl (u8_of _)) ?_
      refine wpi_exG (v := .pointer (some ⟨hb, o + (m - 1 - i : Nat), none⟩)) (fun _ => trivial) (wn rfl) rfl (ex_index rfl rfl rfl (run_idx1 (k := (m - 1 - i : Nat)) Try.underlying24 s1es24 (by omega))) ?_
      simp only [Act.put, List.setIfInBounds_toArray, List.set_cons_succ, List.set_cons_zero]
      refine sl_storeAt 0 (v := B8 (UInt8.ofNat (n / 256 ^ i))) (L' := pre ++ putMid m n mid (i + 1) ++ post) (fun _ => trivial) (wn rfl) rfl rfl rfl hv rfl s1sz5 (by simp [putMid_len hmid (show i ≤ m by omega)]; omega) rfl rfl (by rw [← ho, set_mid _ _ _ _ _ (by rw [putMid_len hmid (by omega)]; omega), putMid_succ hmid (by omega)]) (fun w9 hv => ?_)
      simp only [List.set_cons_succ, List.set_cons_zero] at hv
      refine wpListIn_nil ?_
      simp only [Act.put, List.setIfInBounds_toArray, List.set_cons_succ, List.set_cons_zero]
      refine then_normal (hK8 _ _ ?_)
      clear hK8 K8
      refine wpIn_region_lit ?_
      refine wpi_exG (v := .int .u64 ((n / 256 ^ i : Nat) : Int)) (fun _ => trivial) (wn rfl) rfl (ex_move rfl rfl) ?_
      refine wpi_exG (v := .int .u64 ((n / 256 ^ (i + 1) : Nat) : Int)) (fun _ => trivial) (wn rfl) rfl (ex_shr (m := ((n / 256 ^ i : Nat) : Int)) (n := 8) rfl rfl rfl (by decide) (by rw [shr8, Nat.div_div_eq_div_mul, ← Nat.pow_succ])) ?_
      refine wpi_exG (v := .int .u64 ((n / 256 ^ (i + 1) : Nat) : Int)) (fun _ => trivial) (wn rfl) rfl (ex_assign rfl rfl) ?_
      refine wpListIn_nil ?_
      simp only [Act.put, List.setIfInBounds_toArray, List.set_cons_succ, List.set_cons_zero]
      refine blk_normal ?_
      refine then_normal (hK6 _ _ ?_)
      clear hK6 K6
      refine wpIn_region_lit ?_
      refine wpi_exG (v := .int .i64 ((i : Int) + 1)) (fun _ => trivial) (wn rfl) rfl (ex_add (m := (i : Int)) (n := 1) rfl rfl rfl (i64_in (by omega))) ?_
      refine wpi_exG (v := .int .i64 ((i : Int) + 1)) (fun _ => trivial) (wn rfl) rfl (ex_move rfl rfl) ?_
      refine wpListIn_nil ?_
      simp only [Act.put, List.setIfInBounds_toArray, List.set_cons_succ, List.set_cons_zero]
      refine then_normal ?_
      go_roundw
      case rel => exact ⟨i + 1, rfl, by simp, by omega, hv⟩
      case measure => show m - ((i : Int) + 1).toNat < m - (i : Int).toNat; omega
    · refine wpi_exG (v := .bool false) (fun _ => trivial) (wn rfl) rfl (ex_lss (k := .i64) (m := (i : Int)) (n := (m : Int)) rfl rfl rfl (decide_eq_false hb4)) ?_
      refine wpListIn_nil ?_
      simp only [Act.put, List.setIfInBounds_toArray, List.set_cons_succ, List.set_cons_zero]
      refine then_normal (hK3 _ _ ?_)
      clear hK3 K3
      refine wpIn_seq_k (fun K10 hK10 => ?_)
      refine wpIn_cond_false rfl ?_
      refine wpIn_exit ?_
      refine then_exit ?_
      clear hK10 K10
      refine then_exit ?_
      refine blk_hit ?_
      go_end0
      obtain rfl : i = m := by omega
      rw [putMid_all] at hv
      exact ⟨rfl, hv⟩
theorem s1fa102_2 (w : World) (b o : Nat) : (Instr.fieldAt 102 (.pointer (some ⟨b, o, none⟩)) 2).run Try.prog w = .ok (.pointer (some ⟨b, o + 2, none⟩)) w := by kernel_rfl
theorem s1na3 (w : World) : (isAgg 3).run Try.prog w = .ok false w := by kernel_rfl
set_option maxRecDepth 100000 in
set_option maxHeartbeats 2000000 in
theorem slotsRoom (B : Base) (H : List Res) (w : World) (q p from_ each gen : Nat) (failed : Bool) (h1 : 1 ≤ each) (h2 : each ≤ 65536) (hv : Inv B (Res.cell q [.pointer (some ⟨p, 0, none⟩), .int .i64 (from_ : Int), .int .i64 (each : Int), .int .i64 (gen : Int), .bool failed] 102 :: H) w) :
    Calls Try.prog 34 #[.pointer (some ⟨q, 0, none⟩)] w fun e w' => e = .returned (.int .i64 (roomOf each : Int)) ∧ w = w' := by
  refine (callsIn_wide (n := 5)).1 ?_
  refine callsIn_of_wp Try.func34 rfl trivial ?_
  simp only [Try.ntmps34, List.size_toArray, List.length_cons, List.length_nil, Nat.reduceAdd, Nat.reduceSub, Array.replicate_succ, Array.replicate_zero, List.push_toArray, List.append_toArray, List.nil_append, List.cons_append]
  refine wpIn_seq_k (fun K1 hK1 => ?_)
  refine wpIn_region_lit ?_
  refine wpi_exG (v := .int .i64 0) (fun _ => trivial) (wn rfl) rfl (ex_assign rfl rfl) ?_
  refine wpListIn_nil ?_
  simp only [Act.put, List.setIfInBounds_toArray, List.set_cons_succ, List.set_cons_zero]
  refine then_normal (hK1 _ _ ?_)
  clear hK1 K1
  refine wpIn_seq_k (fun K2 hK2 => ?_)
  refine wpIn_region_lit ?_
  refine wpi_exG (v := .pointer (some ⟨q, 0, none⟩)) (fun _ => trivial) (wn rfl) rfl (ex_move rfl rfl) ?_
  refine wpi_exG (v := .pointer (some ⟨q, 0, none⟩)) (fun _ => trivial) (wn rfl) rfl (ex_nil rfl rfl) ?_
  refine wpi_exG (v := .pointer (some ⟨q, 2, none⟩)) (fun _ => trivial) (wn rfl) rfl (ex_field rfl rfl (s1fa102_2 _ _ _)) ?_
  simp only [Act.put, List.setIfInBounds_toArray, List.set_cons_succ, List.set_cons_zero]
  refine wpi_exG (v := .int .i64 (each : Int)) (fun _ => trivial) (wn rfl) rfl (ex_load rfl rfl (run_load1 s1na3 (hv.load 0 2 rfl rfl))) ?_
  refine wpi_exG (v := .int .i64 ((each : Int) - 1)) (fun _ => trivial) (wn rfl) rfl (ex_sub (m := (each : Int)) (n := 1) rfl rfl rfl (i64_in (by omega))) ?_
  refine wpi_exG (v := .int .i64 (64 * ((each : Int) - 1))) (fun _ => trivial) (wn rfl) rfl (ex_mul (m := 64) (n := ((each : Int) - 1)) rfl rfl rfl (i64_in (by omega))) ?_
  simp only [Act.put, List.setIfInBounds_toArray, List.set_cons_succ, List.set_cons_zero]
  refine wpi_exG (v := .int .i64 (roomOf each : Int)) (fun _ => trivial) (wn rfl) rfl (ex_min2 (m := (64 * ((each : Int) - 1))) (n := 1048576) rfl rfl rfl (by unfold roomOf; split <;> split <;> omega)) ?_
  refine wpi_exG (v := .int .i64 (roomOf each : Int)) (fun _ => trivial) (wn rfl) rfl (ex_assign rfl rfl) ?_
  refine wpListIn_nil ?_
  simp only [Act.put, List.setIfInBounds_toArray, List.set_cons_succ, List.set_cons_zero]
  refine then_normal (hK2 _ _ ?_)
  clear hK2 K2
  refine wpIn_ret ?_
  refine bodyPost_ret (results_tmp rfl _ _ _) rfl ?_
  exact ⟨rfl, rfl⟩
theorem s1fa102_3 (w : World) (b o : Nat) : (Instr.fieldAt 102 (.pointer (some ⟨b, o, none⟩)) 3).run Try.prog w = .ok (.pointer (some ⟨b, o + 3, none⟩)) w := by kernel_rfl
set_option maxRecDepth 100000 in
set_option maxHeartbeats 2000000 in
theorem slotsGeneration (B : Base) (H : List Res) (w : World) (q p from_ each gen : Nat) (failed : Bool) (hv : Inv B (Res.cell q [.pointer (some ⟨p, 0, none⟩), .int .i64 (from_ : Int), .int .i64 (each : Int), .int .i64 (gen : Int), .bool failed] 102 :: H) w) :
    Calls Try.prog 33 #[.pointer (some ⟨q, 0, none⟩)] w fun e w' => e = .returned (.int .i64 (gen : Int)) ∧ w = w' := by
  refine (callsIn_wide (n := 5)).1 ?_
  refine callsIn_of_wp Try.func33 rfl trivial ?_
  simp only [Try.ntmps33, List.size_toArray, List.length_cons, List.length_nil, Nat.reduceAdd, Nat.reduceSub, Array.replicate_succ, Array.replicate_zero, List.push_toArray, List.append_toArray, List.nil_append, List.cons_append]
  refine wpIn_seq_k (fun K1 hK1 => ?_)
  refine wpIn_region_lit ?_
  refine wpi_exG (v := .int .i64 0) (fun _ => trivial) (wn rfl) rfl (ex_assign rfl rfl) ?_
  refine wpListIn_nil ?_
  simp only [Act.put, List.setIfInBounds_toArray, List.set_cons_succ, List.set_cons_zero]
  refine then_normal (hK1 _ _ ?_)
  clear hK1 K1
  refine wpIn_seq_k (fun K2 hK2 => ?_)
  refine wpIn_region_lit ?_
  refine wpi_exG (v := .pointer (some ⟨q, 0, none⟩)) (fun _ => trivial) (wn rfl) rfl (ex_move rfl rfl) ?_
  refine wpi_exG (v := .pointer (some ⟨q, 0, none⟩)) (fun _ => trivial) (wn rfl) rfl (ex_nil rfl rfl) ?_
  refine wpi_exG (v := .pointer (some ⟨q, 3, none⟩)) (fun _ => trivial) (wn rfl) rfl (ex_field rfl rfl (s1fa102_3 _ _ _)) ?_
  simp only [Act.put, List.setIfInBounds_toArray, List.set_cons_succ, List.set_cons_zero]
  refine wpi_exG (v := .int .i64 (gen : Int)) (fun _ => trivial) (wn rfl) rfl (ex_load rfl rfl (run_load1 s1na3 (hv.load 0 3 rfl rfl))) ?_
  refine wpi_exG (v := .int .i64 (gen : Int)) (fun _ => trivial) (wn rfl) rfl (ex_assign rfl rfl) ?_
  refine wpListIn_nil ?_
  simp only [Act.put, List.setIfInBounds_toArray, List.set_cons_succ, List.set_cons_zero]
  refine then_normal (hK2 _ _ ?_)
  clear hK2 K2
  refine wpIn_ret ?_
  refine bodyPost_ret (results_tmp rfl _ _ _) rfl ?_
  exact ⟨rfl, rfl⟩
end Go.Proofs.Ytkannfkjnohdlaa
/- Slots, as plain data. -/
namespace Go.Pm
def piece (s : List UInt8) (i n : Nat) : List UInt8 := (s.drop i).take n
def ckG (s : List UInt8) : Nat := numOf (piece s 1 8)
def ckT (s : List UInt8) : Nat := numOf (piece s 9 8)
def ckN (s : List UInt8) : Nat := numOf (piece s 17 4)
def ckB (s : List UInt8) : List UInt8 := piece s 64 (ckN s)
/-- slot i of these octets has a checkpoint -/
structure CkOk (s : List UInt8) (i : Nat) : Prop where
  mark : s[0]? = some 83
  zeros : ∀ j, j < 39 → s[25 + j]? = some 0
  g1 : 1 ≤ ckG s
  g2 : ckG s < 9223372036854775808
  turn : ckG s % 2 = i
  stamp : ckT s ≤ 1152921504606846975
  n1 : ckN s ≤ 1048576
  n2 : ckN s + 64 ≤ s.length
  sum : Crc.sum (ckB s) = numOf (piece s 21 4)
theorem piece_length {s : List UInt8} {i n : Nat} (h : i + n ≤ s.length) : (piece s i n).length = n := by simp [piece]; omega
theorem piece_get {s : List UInt8} {i n j : Nat} (h : j < n) : (piece s i n)[j]? = s[i + j]? := by simp [piece, List.getElem?_take_of_lt h]
theorem num8 (s : List UInt8) (i : Nat) : numOf (piece s i 8) < 18446744073709551616 := by
  have h1 := numOf_lt (piece s i 8)
  have h2 : 256 ^ (piece s i 8).length ≤ 256 ^ 8 := Nat.pow_le_pow_right (by decide) (by simp [piece]; omega)
  have h3 : (256 : Nat) ^ 8 = 18446744073709551616 := by decide
  omega
theorem num4 (s : List UInt8) (i : Nat) : numOf (piece s i 4) < 4294967296 := by
  have h1 := numOf_lt (piece s i 4)
  have h2 : 256 ^ (piece s i 4).length ≤ 256 ^ 4 := Nat.pow_le_pow_right (by decide) (by simp [piece]; omega)
  have h3 : (256 : Nat) ^ 4 = 4294967296 := by decide
  omega
end Go.Pm
/- Structs: built, loaded, stored; results in cells. -/
namespace Go.Pm
open Go.RowKit
section
variable {P : Program} {a : Act} {w w' : World} {o : Oper} {v : Value} {x y : Operand} {t e : TypeId}
theorem ex_buildN {parts : Array (Nat × Operand)} {vs : Array (Nat × Value)} (ho : o.op = .build t parts) (hp : parts.map (fun (p : Nat × Operand) => (p.1, a.eval p.2)) = vs) (hr : (Instr.build t vs).run P w = .ok v w) : Ex P a o w v w := by
  unfold Ex
  have : (parts.map fun (i, x) => (i, a.eval x)) = vs := hp
  simp [execOp, ho, this, hr]
theorem one_nil : ∀ v ∈ ([] : List Value), v.oneCell' = true := fun _ h => by cases h
theorem one_cons {v : Value} {l : List Value} (h : v.oneCell' = true) (k : ∀ v ∈ l, v.oneCell' = true) : ∀ u ∈ v :: l, u.oneCell' = true := List.forall_mem_cons.2 ⟨h, k⟩
theorem wide_of {n : Nat} (h1 : ∀ w, (isAgg t).run P w = .ok true w) (h2 : (P.info? t).map (·.size) = some n) : Wide P t n := ⟨h1, h2⟩
theorem res_cell3 {fn : Func} {r i j : Nat} (h : fn.results = #[.cell r t, .tmp i, .tmp j]) {tmps : Array Value} {ad : Addr} (hr : tmps.getD r undef = .pointer (some ad)) (hl : (Instr.loadAt t (.pointer (some ad))).run P w = .ok v w) : (results fn tmps).run P w = .ok (.tuple #[v, tmps.getD i undef, tmps.getD j undef]) w := by
  have hl' : (loadVar t ad).run P w = .ok v w := by simpa [Instr.loadAt, Instr.sureAddr] using hl
  have hr' : tmps[r]?.getD undef = .pointer (some ad) := by rw [← hr, Array.getD_eq_getD_getElem?]
  simp [results, h, hr', asAddr, hl']
theorem res_tcell4 {fn : Func} {r i j k : Nat} (h : fn.results = #[.tmp i, .cell r t, .tmp j, .tmp k]) {tmps : Array Value} {ad : Addr} (hr : tmps.getD r undef = .pointer (some ad)) (hl : (Instr.loadAt t (.pointer (some ad))).run P w = .ok v w) : (results fn tmps).run P w = .ok (.tuple #[tmps.getD i undef, v, tmps.getD j undef, tmps.getD k undef]) w := by
  have hl' : (loadVar t ad).run P w = .ok v w := by simpa [Instr.loadAt, Instr.sureAddr] using hl
  have hr' : tmps[r]?.getD undef = .pointer (some ad) := by rw [← hr, Array.getD_eq_getD_getElem?]
  simp [results, h, hr', asAddr, hl']
end
section
variable {F : Fence} {n : Nat} {P : Program} {ops : Array Oper} {Q : Exit → Act → World → Prop} {a : Act} {w : World} {rest : List Oper} {o : Oper} {v : Value} {B : Base} {H : List Res} {t e : TypeId} {x y : Operand}
/-- append to nothing -/
theorem sl_appendNew {ad : Option Addr} {m c size bytes : Nat} {zv : Value} {news : List Value} (hF : ∀ f, F.fn f) (hg : Region.wanted o (yielded ops a.tmps) = true) (ho : o.op = .call { callee := .builtin .append, args := #[x, y], argTypes := #[t, t] }) (hx : a.eval x = .slice none 0 0) (hy : a.eval y = .slice ad m c) (E : Elem P t e zv size bytes)
    (hv : Inv B H w) (hok : SliceOk ad m c) (hl : news.length = m * size) (hsrc : Src w ad news) (h1 : ∀ u ∈ news, u.oneCell' = true) (h63 : m ≤ maxLen) (hbytes : m * bytes ≤ 140737488355328)
    (h : ∀ v' w', Inv B (Res.row e size v' m news :: H) w' → wpListIn F n P ops Q rest (a.put o.dst v') w') : wpListIn F n P ops Q (o :: rest) a w := by
  have h0 := hv.new (Ext.rfl' _) (Res.row e size (.slice none 0 0) 0 []) (World.ownsRow_nil _ _ _ _) (fun b hb => by simp [Value.ownBlock] at hb) (by simp [Value.ownBlock])
  refine sl_append (n := n) hF hg ho hx hy E h0 hok hl hsrc h1 (by omega) (by simpa using hbytes) (fun v' w' hv' => h v' w' ?_)
  simpa using hv'
end
section
variable {P : Program} {ops : Array Oper} {Q : Exit → Act → World → Prop} {J : List Value → World → Prop} {a : Act} {w : World} {vals : List Value} {o : Oper} {B : Base} {H : List Res} {t e : TypeId} {x y : Operand} {L : List Value}
theorem mem_storeNAt (k : Nat) {b off : Nat} {new L' pre mid post : List Value} (hg : Region.wanted o (yielded ops a.tmps) = true) (ho : o.op = .store t x y) (hx : a.eval x = .pointer (some ⟨b, off, none⟩)) (hy : a.eval y = .agg new.toArray) (hv : Inv B H w) (hk : H[k]? = some (Res.cell b L e))
    (hz : (P.info? t).map (·.size) = some new.length) (hL : L = pre ++ mid ++ post) (hoff : pre.length = off) (hn : new.length = mid.length) (h1 : ∀ v ∈ new, v.oneCell' = true) (hL' : pre ++ new ++ post = L')
    (h : ∀ w', Inv B (H.set k (Res.cell b L' e)) w' → J (vals ++ [undef]) w') : StepMem P ops J Q o a w vals := by
  subst hL'; subst hL
  exact ExU.mem (ex_store ho hx hy (run_store_mid hz (hv.get k hk : Blk w b _ e) hoff hn h1)) hg (h _ (hv.putAt k hk _))
end
/-- a row's value is a slice -/
theorem row_slice {w : World} {e : TypeId} {size : Nat} {v : Value} {n : Nat} {xs : List Value} (h : w.ownsRow 0 e size v n xs) : ∃ ad c, v = .slice ad n c := by
  rcases h.2 with ⟨rfl, rfl⟩ | ⟨g, cap, cur, rfl, _⟩
  · exact ⟨_, _, rfl⟩
  · exact ⟨_, _, rfl⟩
end Go.Pm
