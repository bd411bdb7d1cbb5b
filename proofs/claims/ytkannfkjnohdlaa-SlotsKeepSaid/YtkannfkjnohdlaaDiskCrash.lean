/- disk.Crash -/
import Derived.Test.YtkannfkjnohdlaaDiskSl
namespace Go.Proofs.Ytkannfkjnohdlaa
open Go.RowKit Go.Pm
/-- ints behind an address -/
def Ints (w : World) (a : Option Addr) (l : List Int) : Prop :=
  ∀ i (h : i < l.length), ∃ b off, a = some ⟨b, off, none⟩ ∧ w.cell? ⟨b, off + i, none⟩ = some (.int .i64 l[i])
def boolsOf (n : Nat) (ks : List Int) : List Value := (List.range n).map (fun (j : Nat) => .bool (ks.contains (j : Int)))
theorem boolsOf_nil (n : Nat) : boolsOf n [] = List.replicate n (.bool false) := by
  unfold boolsOf
  apply List.ext_getElem <;> simp
theorem boolsOf_len (n : Nat) (ks : List Int) : (boolsOf n ks).length = n := by simp [boolsOf]
theorem boolsOf_set (n : Nat) (ks : List Int) (j : Nat) (hj : j < n) : (boolsOf n ks).set (0 + j) (.bool true) = boolsOf n (ks ++ [(j : Int)]) := by
  rw [Nat.zero_add]
  apply List.ext_getElem (by simp [boolsOf])
  intro i h1 h2
  rw [List.getElem_set]
  by_cases hij : j = i
  · subst hij; simp [boolsOf]
  · have : ¬ ((i : Int) = (j : Int)) := by omega
    simp [boolsOf, hij, this]
theorem boolsOf_out (n : Nat) (ks : List Int) (v : Int) (hv : v < 0 ∨ (n : Int) ≤ v) : boolsOf n (ks ++ [v]) = boolsOf n ks := by
  unfold boolsOf
  apply List.map_congr_left
  intro j hj
  have : ¬ ((j : Int) = v) := by have := List.mem_range.1 hj; omega
  simp [this]
theorem boolsOf_get (n : Nat) (ks : List Int) (j : Nat) (hj : j < n) {b : Bool} (hb : ks.contains (j : Int) = b) : (boolsOf n ks)[0 + j]? = some (.bool b) := by
  rw [Nat.zero_add, ← hb]
  simp [boolsOf, hj]
/-- those that are kept, of the first ones -/
def keptOf {D : Disk} (ks : List Int) (pre : List (PendEl D)) : List (Nat × List UInt8) := (pre.filter (fun x => ks.contains (x.1.1 : Int))).map (·.1.2)
theorem keptOf_yes {D : Disk} {ks : List Int} {pre : List (PendEl D)} {x : PendEl D} (h : ks.contains (x.1.1 : Int) = true) : keptOf ks (pre ++ [x]) = keptOf ks pre ++ [x.1.2] := by
  simp only [keptOf, List.filter_append, List.map_append, List.filter_cons, h, if_true, List.filter_nil, List.map_cons, List.map_nil]
theorem keptOf_no {D : Disk} {ks : List Int} {pre : List (PendEl D)} {x : PendEl D} (h : ks.contains (x.1.1 : Int) = false) : keptOf ks (pre ++ [x]) = keptOf ks pre := by
  simp only [keptOf, List.filter_append, List.map_append, List.filter_cons, h, List.filter_nil, List.map_nil, List.append_nil]
  simp
theorem keptOf_all {D : Disk} {ks : List Int} {xs : List (PendEl D)} (h : xs.map (·.1) = numbered D) : keptOf ks xs = D.kept ks := by
  have e : keptOf ks xs = ((xs.map (·.1)).filter (fun y => ks.contains (y.1 : Int))).map (·.2) := by
    unfold keptOf
    rw [List.filter_map, List.map_map]
    rfl
  rw [e, h]
  unfold numbered Disk.kept
  rw [List.filter_map, List.map_map]
  rfl
theorem keptOf_le {D : Disk} (ks : List Int) (pre : List (PendEl D)) : (keptOf ks pre).length ≤ pre.length := by
  unfold keptOf
  rw [List.length_map]
  exact List.length_filter_le _ _
theorem wrOne (x : Nat × List UInt8) : ∀ v ∈ wrCells x, v.oneCell' = true := wrCells_one x
theorem crashEnd {B : Base} {p gd : Nat} {D : Disk} {ks : List Int} {H : List Res} {w : World} (hok : D.Ok) (hv : Inv B (Res.cell p [.slice (some ⟨gd, 0, none⟩) D.dur.length D.dur.length, .slice none 0 0, .int .i64 (-1)] 87 :: Res.cell gd (durCells ((D.kept ks).foldl Disk.put D.dur)) 90 :: H) w) : ∃ F', Inv B (diskR p (D.crash ks) F' :: H) w := by
  have h2 := hv.new (Ext.rfl' _) (Res.row 92 65 (.slice none 0 0) 0 []) (World.ownsRow_nil _ _ _ _) (fun b hb => by simp [Value.ownBlock] at hb) (by simp [Value.ownBlock])
  have h3 := (h2.front 2 rfl).front 2 rfl
  have hl : ((D.kept ks).foldl Disk.put D.dur).length = D.dur.length := Disk.foldl_put_length _ _
  refine Inv.diskClose (D := D.crash ks) (gd := gd) (v := .slice none 0 0) (Disk.crash_ok hok ks) ?_
  show Inv B (Res.cell p [.slice (some ⟨gd, 0, none⟩) ((D.kept ks).foldl Disk.put D.dur).length ((D.kept ks).foldl Disk.put D.dur).length, .slice none 0 0, .int .i64 (-1)] 87 :: _) w
  rw [hl]
  exact h3
theorem szWrite (l : List Value) (h : l.length = 65) : (Try.prog.info? 92).map (·.size) = some l.length := by rw [h]; exact wideW.size
theorem wrLen {x : Nat × List UInt8} (h : x.2.length = 64) : (wrCells x).length = 65 := by simp [wrCells, h]

theorem crna36 (w : World) : (isAgg 36).run Try.prog w = .ok false w := by kernel_rfl
theorem crfa87_1 (w : World) (b o : Nat) : (Instr.fieldAt 87 (.pointer (some ⟨b, o, none⟩)) 1).run Try.prog w = .ok (.pointer (some ⟨b, o + 1, none⟩)) w := by kernel_rfl
theorem crna85 (w : World) : (isAgg 85).run Try.prog w = .ok false w := by kernel_rfl
theorem crmk4 : (Try.prog.info? 4).map (fun i => (i.zero, i.size, i.bytes)) = some (some (.bool false), 1, 1) := by kernel_rfl
theorem cral96 (w : World) : (Instr.alloc 96 true (.tuple #[])).run Try.prog w = .ok (.pointer (some ⟨w.heap.size, 0, none⟩)) (w.alloc (.cells ([.slice none 0 0] : List Value).toArray 96)) := by kernel_rfl
theorem crsz96 : (Try.prog.info? 96).map (·.size) = some 1 := by kernel_rfl
theorem cres44 (w : World) : (sizeOf (Try.prog.elem 44)).run Try.prog w = .ok 1 w := by kernel_rfl
theorem crna3 (w : World) : (isAgg 3).run Try.prog w = .ok false w := by kernel_rfl
theorem crna96 (w : World) : (isAgg 96).run Try.prog w = .ok false w := by kernel_rfl
theorem cres96 (w : World) : (sizeOf (Try.prog.elem 96)).run Try.prog w = .ok 1 w := by kernel_rfl
theorem crsz4 : (Try.prog.info? 4).map (·.size) = some 1 := by kernel_rfl
theorem cral3 (w : World) : (Instr.alloc 3 true (.tuple #[])).run Try.prog w = .ok (.pointer (some ⟨w.heap.size, 0, none⟩)) (w.alloc (.cells ([.int .i64 0] : List Value).toArray 3)) := by kernel_rfl
theorem crsz3 : (Try.prog.info? 3).map (·.size) = some 1 := by kernel_rfl
theorem crcallable46 : Callable Try.prog 46 := ⟨_, Try.func46, by kernel_rfl, by kernel_rfl⟩
theorem cral92 (w : World) : (Instr.alloc 92 true (.tuple #[])).run Try.prog w = .ok (.pointer (some ⟨w.heap.size, 0, none⟩)) (w.alloc (.cells ([.int .i64 0, .int .u8 0, .int .u8 0, .int .u8 0, .int .u8 0, .int .u8 0, .int .u8 0, .int .u8 0, .int .u8 0, .int .u8 0, .int .u8 0, .int .u8 0, .int .u8 0, .int .u8 0, .int .u8 0, .int .u8 0, .int .u8 0, .int .u8 0, .int .u8 0, .int .u8 0, .int .u8 0, .int .u8 0, .int .u8 0, .int .u8 0, .int .u8 0, .int .u8 0, .int .u8 0, .int .u8 0, .int .u8 0, .int .u8 0, .int .u8 0, .int .u8 0, .int .u8 0, .int .u8 0, .int .u8 0, .int .u8 0, .int .u8 0, .int .u8 0, .int .u8 0, .int .u8 0, .int .u8 0, .int .u8 0, .int .u8 0, .int .u8 0, .int .u8 0, .int .u8 0, .int .u8 0, .int .u8 0, .int .u8 0, .int .u8 0, .int .u8 0, .int .u8 0, .int .u8 0, .int .u8 0, .int .u8 0, .int .u8 0, .int .u8 0, .int .u8 0, .int .u8 0, .int .u8 0, .int .u8 0, .int .u8 0, .int .u8 0, .int .u8 0, .int .u8 0] : List Value).toArray 92)) := by kernel_rfl
theorem crna4 (w : World) : (isAgg 4).run Try.prog w = .ok false w := by kernel_rfl
theorem crfa87_0 (w : World) (b o : Nat) : (Instr.fieldAt 87 (.pointer (some ⟨b, o, none⟩)) 0).run Try.prog w = .ok (.pointer (some ⟨b, o + 0, none⟩)) w := by kernel_rfl
theorem crna84 (w : World) : (isAgg 84).run Try.prog w = .ok false w := by kernel_rfl
theorem crfa92_0 (w : World) (b o : Nat) : (Instr.fieldAt 92 (.pointer (some ⟨b, o, none⟩)) 0).run Try.prog w = .ok (.pointer (some ⟨b, o + 0, none⟩)) w := by kernel_rfl
theorem crfa92_1 (w : World) (b o : Nat) : (Instr.fieldAt 92 (.pointer (some ⟨b, o, none⟩)) 1).run Try.prog w = .ok (.pointer (some ⟨b, o + 1, none⟩)) w := by kernel_rfl
theorem cres84 (w : World) : (sizeOf (Try.prog.elem 84)).run Try.prog w = .ok 64 w := by kernel_rfl
theorem crsz85 : (Try.prog.info? 85).map (·.size) = some 1 := by kernel_rfl
theorem crfa87_2 (w : World) (b o : Nat) : (Instr.fieldAt 87 (.pointer (some ⟨b, o, none⟩)) 2).run Try.prog w = .ok (.pointer (some ⟨b, o + 2, none⟩)) w := by kernel_rfl
set_option maxRecDepth 100000 in
set_option maxHeartbeats 2000000 in
theorem diskCrash (B : Base) (H : List Res) (w : World) (p : Nat) (D : Disk) (F : List Nat) (ka : Option Addr) (n kc : Nat) (ks : List Int) (hv : Inv B (diskR p D F :: H) w) (hpl : D.pend.length ≤ 1000000000) (hn : ks.length = n) (hm : n ≤ 1000000000) (hks : ∀ w, Inv B H w → Ints w ka ks) (hw : ∀ k ∈ ks, -9223372036854775808 ≤ k ∧ k ≤ 9223372036854775807) :
    Calls Try.prog 25 #[.pointer (some ⟨p, 0, none⟩), .slice ka n kc] w fun e w' => e = .returned (.int .i64 ((D.kept ks).length : Int)) ∧ ∃ F', Inv B (diskR p (D.crash ks) F' :: H) w' := by
  obtain ⟨gd, vad, vc, hok, hv⟩ := Inv.diskOpen hv
  refine (callsIn_wide (n := 5)).1 ?_
  refine callsIn_of_wp_marks Try.func25 rfl trivial ?_ rfl
  simp only [Try.ntmps25, List.size_toArray, List.length_cons, List.length_nil, Nat.reduceAdd, Nat.reduceSub, Array.replicate_succ, Array.replicate_zero, List.push_toArray, List.append_toArray, List.nil_append, List.cons_append]
  refine wpIn_seq_k (fun K1 hK1 => ?_)
  refine wpIn_region_lit ?_
  refine sl_box (L := [.pointer (some ⟨p, 0, none⟩)]) (fun _ => trivial) (wn rfl) rfl (p := .pointer (some ⟨p, 0, none⟩)) rfl hv (fun w => by kernel_rfl) (fun b2 w3 hv => ?_)
  refine wpi_exG (v := .int .i64 0) (fun _ => trivial) (wn rfl) rfl (ex_assign rfl rfl) ?_
  refine wpListIn_nil ?_
  simp only [Act.put, List.setIfInBounds_toArray, List.set_cons_succ, List.set_cons_zero]
  refine then_normal (hK1 _ _ ?_)
  clear hK1 K1
  refine wpIn_seq_k (fun K4 hK4 => ?_)
  refine wpIn_region_lit ?_
  refine wpi_exG (v := .pointer (some ⟨p, 0, none⟩)) (fun _ => trivial) (wn rfl) rfl (ex_load rfl rfl (run_load1 crna36 (hv.load 0 0 rfl rfl))) ?_
  refine wpi_exG (v := .pointer (some ⟨p, 0, none⟩)) (fun _ => trivial) (wn rfl) rfl (ex_nil rfl rfl) ?_
  refine wpi_exG (v := .pointer (some ⟨p, 1, none⟩)) (fun _ => trivial) (wn rfl) rfl (ex_field rfl rfl (crfa87_1 _ _ _)) ?_
  simp only [Act.put, List.setIfInBounds_toArray, List.set_cons_succ, List.set_cons_zero]
  refine wpi_exG (v := .slice vad D.pend.length vc) (fun _ => trivial) (wn rfl) rfl (ex_load rfl rfl (run_load1 crna85 (hv.load 1 1 rfl rfl))) ?_
  refine wpi_exG (v := .int .i64 (D.pend.length : Int)) (fun _ => trivial) (wn rfl) rfl (ex_len0 Try.underlying85 rfl rfl) ?_
  refine sl_make1 (len := D.pend.length) (cap := D.pend.length) (fun _ => trivial) (wn rfl) rfl rfl rfl Try.underlying96 crmk4 rfl (by omega) (by unfold maxLen; omega) (by omega) hv (fun b5 w6 hv => ?_)
  simp only [Act.put, List.setIfInBounds_toArray, List.set_cons_succ, List.set_cons_zero]
  refine sl_alloc (fun _ => trivial) (wn rfl) rfl hv cral96 (fun b7 w8 hv => ?_)
  refine sl_storeAt 0 (v := .slice (some ⟨b5, 0, none⟩) D.pend.length D.pend.length) (L' := [.slice (some ⟨b5, 0, none⟩) D.pend.length D.pend.length]) (fun _ => trivial) (wn rfl) rfl rfl rfl hv rfl crsz96 (by simp) rfl rfl rfl (fun w9 hv => ?_)
  simp only [List.set_cons_succ, List.set_cons_zero] at hv
  refine wpListIn_nil ?_
  simp only [Act.put, List.setIfInBounds_toArray, List.set_cons_succ, List.set_cons_zero]
  refine then_normal (hK4 _ _ ?_)
  clear hK4 K4
  refine wpIn_seq_k (fun K10 hK10 => ?_)
  refine wpIn_seq_k (fun K11 hK11 => ?_)
  refine wpIn_region_lit ?_
  refine wpi_exG (v := .slice ka n kc) (fun _ => trivial) (wn rfl) rfl (ex_move rfl rfl) ?_
  refine wpi_exG (v := .int .i64 (n : Int)) (fun _ => trivial) (wn rfl) rfl (ex_len0 Try.underlying44 rfl rfl) ?_
  refine wpi_exG (v := .int .i64 0) (fun _ => trivial) (wn rfl) rfl (ex_move rfl rfl) ?_
  refine wpListIn_nil ?_
  simp only [Act.put, List.setIfInBounds_toArray, List.set_cons_succ, List.set_cons_zero]
  refine then_normal (hK11 _ _ ?_)
  clear hK11 K11
  refine wpIn_block ?_
  gi_loopw [19] (fun x19 wr => ∃ i : Nat, x19 = .int .i64 (i : Int) ∧ i ≤ n ∧ Inv B (Res.cell b7 [.slice (some ⟨b5, 0, none⟩) D.pend.length D.pend.length] 96 :: Res.cell b5 (boolsOf D.pend.length (ks.take i)) 4 :: Res.cell b2 [.pointer (some ⟨p, 0, none⟩)] 36 :: Res.cell p [.slice (some ⟨gd, 0, none⟩) D.dur.length D.dur.length, .slice vad D.pend.length vc, .int .i64 D.left] 87 :: Res.cell gd (durCells D.dur) 90 :: Res.row 92 65 (.slice vad D.pend.length vc) D.pend.length (pendCells D.pend) :: H) wr) (fun x19 _ => n - (intOf x19).toNat)
  case atStart => exact ⟨0, rfl, by omega, by rw [List.take_zero, boolsOf_nil]; exact hv⟩
  case round =>
    obtain ⟨i, rfl, hi, hv⟩ := hrel
    refine wpIn_seq_k (fun K13 hK13 => ?_)
    refine wpIn_region_lit ?_
    by_cases hb14 : (i : Int) < (n : Int)
    · refine wpi_exG (v := .bool true) (fun _ => trivial) (wn rfl) rfl (ex_lss (k := .i64) (m := (i : Int)) (n := (n : Int)) rfl rfl rfl (decide_eq_true hb14)) ?_
      refine wpListIn_nil ?_
      simp only [Act.put, List.setIfInBounds_toArray, List.set_cons_succ, List.set_cons_zero]
      refine then_normal (hK13 _ _ ?_)
      clear hK13 K13
      refine wpIn_seq_k (fun K15 hK15 => ?_)
      refine wpIn_cond_true rfl ?_
      refine wpIn_skip ?_
      refine then_normal (hK15 _ _ ?_)
      clear hK15 K15
      refine wpIn_seq_k (fun K16 hK16 => ?_)
      refine wpIn_block ?_
      refine wpIn_seq_k (fun K17 hK17 => ?_)
      refine wpIn_region_lit ?_
      have hin : i < n := by omega
      obtain ⟨ab, aoff, rfl, hcell⟩ := hks _ (hv.tail 6) i (by omega)
      have hk64 := hw _ (List.getElem_mem (show i < ks.length by omega))
      have htake : ks.take (i + 1) = ks.take i ++ [ks[i]] := by rw [List.take_succ_eq_append_getElem (by omega)]
      generalize ks[i]'(by omega) = v at *
      refine wpi_exG (v := .pointer (some ⟨ab, aoff + i, none⟩)) (fun _ => trivial) (wn rfl) rfl (ex_index rfl rfl rfl (run_idx1 (k := i) Try.underlying44 cres44 (by omega))) ?_
      refine wpi_exG (v := .int .i64 v) (fun _ => trivial) (wn rfl) rfl (ex_load rfl rfl (run_load1 crna3 hcell)) ?_
      refine wpi_exG (v := .int .i64 v) (fun _ => trivial) (wn rfl) rfl (ex_assign rfl rfl) ?_
      refine wpListIn_nil ?_
      simp only [Act.put, List.setIfInBounds_toArray, List.set_cons_succ, List.set_cons_zero]
      refine then_normal (hK17 _ _ ?_)
      clear hK17 K17
      refine wpIn_seq_k (fun K18 hK18 => ?_)
      refine wpIn_region_lit ?_
      refine wpi_exG (v := .int .i64 v) (fun _ => trivial) (wn rfl) rfl (ex_move rfl rfl) ?_
      by_cases hb19 : v ≥ 0
      · refine wpi_exG (v := .bool true) (fun _ => trivial) (wn rfl) rfl (ex_geq (k := .i64) (m := v) (n := 0) rfl rfl rfl (decide_eq_true hb19)) ?_
        refine wpi_exG (v := .bool true) (fun _ => trivial) (wn rfl) rfl (ex_move rfl rfl) ?_
        simp only [Act.put, List.setIfInBounds_toArray, List.set_cons_succ, List.set_cons_zero]
        refine wpi_exG (v := .int .i64 v) (fun _ => trivial) (wanted_of (j := 2) (d := 25) (b := true) rfl rfl rfl) rfl (ex_move rfl rfl) ?_
        refine wpi_exG (v := .slice (some ⟨b5, 0, none⟩) D.pend.length D.pend.length) (fun _ => trivial) (wanted_of (j := 2) (d := 25) (b := true) rfl rfl rfl) rfl (ex_load rfl rfl (run_load1 crna96 (hv.load 0 0 rfl rfl))) ?_
        refine wpi_exG (v := .int .i64 (D.pend.length : Int)) (fun _ => trivial) (wanted_of (j := 2) (d := 25) (b := true) rfl rfl rfl) rfl (ex_len0 Try.underlying96 rfl rfl) ?_
        simp only [Act.put, List.setIfInBounds_toArray, List.set_cons_succ, List.set_cons_zero]
        by_cases hb20 : v < (D.pend.length : Int)
        · obtain ⟨j, hvj⟩ : ∃ j : Nat, v = (j : Int) := ⟨v.toNat, by omega⟩
          have hj : j < D.pend.length := by omega
          skip
          refine wpi_exG (v := .bool true) (fun _ => trivial) (wanted_of (j := 2) (d := 25) (b := true) rfl rfl rfl) rfl (ex_lss (k := .i64) (m := v) (n := (D.pend.length : Int)) rfl rfl rfl (decide_eq_true hb20)) ?_
          refine wpi_exG (v := .bool true) (fun _ => trivial) (wn rfl) rfl (ex_pick (b := true) rfl rfl rfl) ?_
          refine wpListIn_nil ?_
          simp only [Act.put, List.setIfInBounds_toArray, List.set_cons_succ, List.set_cons_zero]
          refine then_normal (hK18 _ _ ?_)
          clear hK18 K18
          refine wpIn_cond_true rfl ?_
          refine wpIn_region_lit ?_
          refine wpi_exG (v := .slice (some ⟨b5, 0, none⟩) D.pend.length D.pend.length) (fun _ => trivial) (wn rfl) rfl (ex_load rfl rfl (run_load1 crna96 (hv.load 0 0 rfl rfl))) ?_
          refine wpi_exG (v := .int .i64 (j : Int)) (fun _ => trivial) (wn rfl) rfl (ex_move rfl (by rw [← hvj]; rfl)) ?_
          refine wpi_exG (v := .pointer (some ⟨b5, 0 + j, none⟩)) (fun _ => trivial) (wn rfl) rfl (ex_index rfl rfl rfl (run_idx1 (k := j) Try.underlying96 cres96 (by omega))) ?_
          simp only [Act.put, List.setIfInBounds_toArray, List.set_cons_succ, List.set_cons_zero]
          refine sl_storeAt 1 (v := .bool true) (L' := boolsOf D.pend.length (ks.take i ++ [(j : Int)])) (fun _ => trivial) (wn rfl) rfl rfl rfl hv rfl crsz4 (by rw [boolsOf_len]; omega) rfl rfl (boolsOf_set _ _ _ hj) (fun w21 hv => ?_)
          simp only [List.set_cons_succ, List.set_cons_zero] at hv
          refine wpListIn_nil ?_
          simp only [Act.put, List.setIfInBounds_toArray, List.set_cons_succ, List.set_cons_zero]
          refine blk_normal ?_
          refine then_normal (hK16 _ _ ?_)
          clear hK16 K16
          refine wpIn_region_lit ?_
          refine wpi_exG (v := .int .i64 ((i : Int) + 1)) (fun _ => trivial) (wn rfl) rfl (ex_add (m := (i : Int)) (n := 1) rfl rfl rfl (i64_in (by omega))) ?_
          refine wpi_exG (v := .int .i64 ((i : Int) + 1)) (fun _ => trivial) (wn rfl) rfl (ex_move rfl rfl) ?_
          refine wpListIn_nil ?_
          simp only [Act.put, List.setIfInBounds_toArray, List.set_cons_succ, List.set_cons_zero]
          refine then_normal ?_
          go_roundw
          case rel => exact ⟨i + 1, by simp, hin, by rw [htake, hvj]; exact hv⟩
          case measure => show n - ((i : Int) + 1).toNat < n - (i : Int).toNat; omega
        · skip
          refine wpi_exG (v := .bool false) (fun _ => trivial) (wanted_of (j := 2) (d := 25) (b := true) rfl rfl rfl) rfl (ex_lss (k := .i64) (m := v) (n := (D.pend.length : Int)) rfl rfl rfl (decide_eq_false hb20)) ?_
          refine wpi_exG (v := .bool false) (fun _ => trivial) (wn rfl) rfl (ex_pick (b := true) rfl rfl rfl) ?_
          refine wpListIn_nil ?_
          simp only [Act.put, List.setIfInBounds_toArray, List.set_cons_succ, List.set_cons_zero]
          refine then_normal (hK18 _ _ ?_)
          clear hK18 K18
          refine wpIn_cond_false rfl ?_
          refine wpIn_skip ?_
          refine blk_normal ?_
          refine then_normal (hK16 _ _ ?_)
          clear hK16 K16
          refine wpIn_region_lit ?_
          refine wpi_exG (v := .int .i64 ((i : Int) + 1)) (fun _ => trivial) (wn rfl) rfl (ex_add (m := (i : Int)) (n := 1) rfl rfl rfl (i64_in (by omega))) ?_
          refine wpi_exG (v := .int .i64 ((i : Int) + 1)) (fun _ => trivial) (wn rfl) rfl (ex_move rfl rfl) ?_
          refine wpListIn_nil ?_
          simp only [Act.put, List.setIfInBounds_toArray, List.set_cons_succ, List.set_cons_zero]
          refine then_normal ?_
          go_roundw
          case rel => exact ⟨i + 1, by simp, hin, by rw [htake, boolsOf_out _ _ v (.inr (by omega))]; exact hv⟩
          case measure => show n - ((i : Int) + 1).toNat < n - (i : Int).toNat; omega
      · skip
        refine wpi_exG (v := .bool false) (fun _ => trivial) (wn rfl) rfl (ex_geq (k := .i64) (m := v) (n := 0) rfl rfl rfl (decide_eq_false hb19)) ?_
        refine wpi_exG (v := .bool false) (fun _ => trivial) (wn rfl) rfl (ex_move rfl rfl) ?_
        simp only [Act.put, List.setIfInBounds_toArray, List.set_cons_succ, List.set_cons_zero]
        refine wpi_not (fun _ => trivial) (wanted_not (j := 2) (d := 25) (b := true) (b' := false) rfl rfl rfl (by decide)) ?_
        refine wpi_not (fun _ => trivial) (wanted_not (j := 2) (d := 25) (b := true) (b' := false) rfl rfl rfl (by decide)) ?_
        refine wpi_not (fun _ => trivial) (wanted_not (j := 2) (d := 25) (b := true) (b' := false) rfl rfl rfl (by decide)) ?_
        simp only [Act.put, List.setIfInBounds_toArray, List.set_cons_succ, List.set_cons_zero]
        refine wpi_not (fun _ => trivial) (wanted_not (j := 2) (d := 25) (b := true) (b' := false) rfl rfl rfl (by decide)) ?_
        refine wpi_exG (v := .bool false) (fun _ => trivial) (wn rfl) rfl (ex_pick (b := false) rfl rfl rfl) ?_
        refine wpListIn_nil ?_
        simp only [Act.put, List.setIfInBounds_toArray, List.set_cons_succ, List.set_cons_zero]
        refine then_normal (hK18 _ _ ?_)
        clear hK18 K18
        refine wpIn_cond_false rfl ?_
        refine wpIn_skip ?_
        refine blk_normal ?_
        refine then_normal (hK16 _ _ ?_)
        clear hK16 K16
        refine wpIn_region_lit ?_
        refine wpi_exG (v := .int .i64 ((i : Int) + 1)) (fun _ => trivial) (wn rfl) rfl (ex_add (m := (i : Int)) (n := 1) rfl rfl rfl (i64_in (by omega))) ?_
        refine wpi_exG (v := .int .i64 ((i : Int) + 1)) (fun _ => trivial) (wn rfl) rfl (ex_move rfl rfl) ?_
        refine wpListIn_nil ?_
        simp only [Act.put, List.setIfInBounds_toArray, List.set_cons_succ, List.set_cons_zero]
        refine then_normal ?_
        go_roundw
        case rel => exact ⟨i + 1, by simp, hin, by rw [htake, boolsOf_out _ _ v (.inl (by omega))]; exact hv⟩
        case measure => show n - ((i : Int) + 1).toNat < n - (i : Int).toNat; omega
    · rw [List.take_of_length_le (by omega)] at hv
      skip
      refine wpi_exG (v := .bool false) (fun _ => trivial) (wn rfl) rfl (ex_lss (k := .i64) (m := (i : Int)) (n := (n : Int)) rfl rfl rfl (decide_eq_false hb14)) ?_
      refine wpListIn_nil ?_
      simp only [Act.put, List.setIfInBounds_toArray, List.set_cons_succ, List.set_cons_zero]
      refine then_normal (hK13 _ _ ?_)
      clear hK13 K13
      refine wpIn_seq_k (fun K22 hK22 => ?_)
      refine wpIn_cond_false rfl ?_
      refine wpIn_exit ?_
      refine then_exit ?_
      clear hK22 K22
      refine then_exit ?_
      refine blk_hit ?_
      refine then_normal (hK10 _ _ ?_)
      clear hK10 K10
      refine wpIn_seq_k (fun K23 hK23 => ?_)
      refine wpIn_region_lit ?_
      refine sl_alloc (fun _ => trivial) (wn rfl) rfl hv cral3 (fun b24 w25 hv => ?_)
      refine sl_storeAt 0 (v := .int .i64 0) (L' := [.int .i64 0]) (fun _ => trivial) (wn rfl) rfl rfl rfl hv rfl crsz3 (by simp) rfl rfl rfl (fun w26 hv => ?_)
      simp only [List.set_cons_succ, List.set_cons_zero] at hv
      refine wpListIn_nil ?_
      simp only [Act.put, List.setIfInBounds_toArray, List.set_cons_succ, List.set_cons_zero]
      refine then_normal (hK23 _ _ ?_)
      clear hK23 K23
      refine wpIn_seq_k (fun K27 hK27 => ?_)
      refine wpIn_seq_k (fun K28 hK28 => ?_)
      refine wpIn_region_lit ?_
      refine wpi_exG (v := .pointer (some ⟨p, 0, none⟩)) (fun _ => trivial) (wn rfl) rfl (ex_load rfl rfl (run_load1 crna36 (hv.load 3 0 rfl rfl))) ?_
      refine wpi_callG crcallable46 (fun _ => trivial) wideC rfl (wn rfl) rfl (args := #[.pointer (some ⟨p, 0, none⟩)]) (by simp only [List.map_toArray, List.map_cons, List.map_nil]; rfl) ((diskWritesSl B _ _ _ hv).mono ?_)
      rintro e w30 ⟨b29, rfl, hv⟩
      refine ⟨_, rfl, ?_⟩
      refine wpListIn_nil ?_
      simp only [Act.put, List.setIfInBounds_toArray, List.set_cons_succ, List.set_cons_zero]
      refine then_normal (hK28 _ _ ?_)
      clear hK28 K28
      refine wpIn_block ?_
      have hmax := hok.max
      have hP := Inv.diskParts hok (((hv.front 7 rfl).front 7 rfl).front 7 rfl)
      have hcB := hv.load 0 0 (b := b29) rfl rfl
      have hlts := fun (r : Res) (hr : r ∈ ([Res.cell b29 [.pointer (some ⟨p, 0, none⟩)] 36, Res.cell b24 [.int .i64 0] 3, Res.cell b7 [.slice (some ⟨b5, 0, none⟩) D.pend.length D.pend.length] 96, Res.cell b5 (boolsOf D.pend.length ks) 4, Res.cell b2 [.pointer (some ⟨p, 0, none⟩)] 36, Res.cell p [.slice (some ⟨gd, 0, none⟩) D.dur.length D.dur.length, .slice vad D.pend.length vc, .int .i64 D.left] 87, Res.cell gd (durCells D.dur) 90] : List Res)) => hv.lt r (List.mem_append_left (Res.row 92 65 (.slice vad D.pend.length vc) D.pend.length (pendCells D.pend) :: H) hr)
      refine sl_writes (by omega) (bw := b29) (p := p) (gd := gd) (D := D) rfl hP hcB (by omega) rfl (K := [Res.cell b29 [.pointer (some ⟨p, 0, none⟩)] 36, Res.cell b24 [.int .i64 0] 3, Res.cell b7 [.slice (some ⟨b5, 0, none⟩) D.pend.length D.pend.length] 96, Res.cell b5 (boolsOf D.pend.length ks) 4, Res.cell b2 [.pointer (some ⟨p, 0, none⟩)] 36, Res.cell p [.slice (some ⟨gd, 0, none⟩) D.dur.length D.dur.length, .slice vad D.pend.length vc, .int .i64 D.left] 87, Res.cell gd (durCells D.dur) 90]) (H := Res.row 92 65 (.slice vad D.pend.length vc) D.pend.length (pendCells D.pend) :: H) hv (fun g hg => by rw [List.flatMap_cons]; exact List.mem_append_left _ (by simp [hg])) (fun pre => [Res.cell b29 [.pointer (some ⟨p, 0, none⟩)] 36, Res.cell b24 [.int .i64 ((keptOf ks pre).length : Int)] 3, Res.cell b7 [.slice (some ⟨b5, 0, none⟩) D.pend.length D.pend.length] 96, Res.cell b5 (boolsOf D.pend.length ks) 4, Res.cell b2 [.pointer (some ⟨p, 0, none⟩)] 36, Res.cell p [.slice (some ⟨gd, 0, none⟩) D.dur.length D.dur.length, .slice vad D.pend.length vc, .int .i64 D.left] 87, Res.cell gd (durCells ((keptOf ks pre).foldl Disk.put D.dur)) 90]) rfl (fun x b => { tmps := #[.pointer (some ⟨p, 0, none⟩), .slice ka n kc, .pointer (some ⟨b2, 0, none⟩), undef, .int .i64 0, .pointer (some ⟨b7, 0, none⟩), undef, u7, .pointer (some ⟨b24, 0, none⟩), .int .i64 (x.1.1 : Int), .pointer (some ⟨b, 0, none⟩), .pointer (some ⟨p, 0, none⟩), .pointer (some ⟨p, 0, none⟩), .pointer (some ⟨p, 1, none⟩), .slice vad D.pend.length vc, .int .i64 (D.pend.length : Int), .slice (some ⟨b5, 0, none⟩) D.pend.length D.pend.length, .slice ka n kc, .int .i64 (n : Int), .int .i64 (i : Int), .bool false, u21, u22, u23, u24, u25, u26, u27, u28, u29, u30, u31, u32, u33, u34, .pointer (some ⟨p, 0, none⟩), .func (.func 57) #[] #[.pointer (some ⟨b29, 0, none⟩)], .int .i64 (x.1.1 : Int), .agg (wrCells x.1.2).toArray, undef, undef, undef, undef, undef, undef, undef, undef, undef, undef, undef, undef, undef, undef, undef, undef, undef, undef, undef, undef, undef, undef], defers := [] }) ?cel ?fp ?assign ?body ?done
      case cel =>
        intro pre r hr
        simp only [List.mem_cons, List.not_mem_nil, or_false] at hr
        rcases hr with rfl | rfl | rfl | rfl | rfl | rfl | rfl
        all_goals exact celled_cell _ _ _
      case fp =>
        intro pre r hr b hb
        simp only [List.mem_cons, List.not_mem_nil, or_false] at hr
        rcases hr with rfl | rfl | rfl | rfl | rfl | rfl | rfl
        · rw [show b = _ from List.mem_singleton.1 hb]; exact hlts (Res.cell b29 [.pointer (some ⟨p, 0, none⟩)] 36) (by simp) _ (by simp)
        · rw [show b = _ from List.mem_singleton.1 hb]; exact hlts (Res.cell b24 [.int .i64 0] 3) (by simp) _ (by simp)
        · rw [show b = _ from List.mem_singleton.1 hb]; exact hlts (Res.cell b7 [.slice (some ⟨b5, 0, none⟩) D.pend.length D.pend.length] 96) (by simp) _ (by simp)
        · rw [show b = _ from List.mem_singleton.1 hb]; exact hlts (Res.cell b5 (boolsOf D.pend.length ks) 4) (by simp) _ (by simp)
        · rw [show b = _ from List.mem_singleton.1 hb]; exact hlts (Res.cell b2 [.pointer (some ⟨p, 0, none⟩)] 36) (by simp) _ (by simp)
        · rw [show b = _ from List.mem_singleton.1 hb]; exact hlts (Res.cell p [.slice (some ⟨gd, 0, none⟩) D.dur.length D.dur.length, .slice vad D.pend.length vc, .int .i64 D.left] 87) (by simp) _ (by simp)
        · rw [show b = _ from List.mem_singleton.1 hb]; exact hlts (Res.cell gd (durCells D.dur) 90) (by simp) _ (by simp)
      case assign =>
        intro l pre x w B' hB' hv
        have hx := pendEl_len hok x
        simp only [pendEnc, List.zip_toArray, List.zip_cons_cons, List.zip_nil_left, List.zip_nil_right, List.foldl_toArray', List.foldl_cons, List.foldl_nil, List.setIfInBounds_toArray, List.set_cons_succ, List.set_cons_zero]
        refine wpIn_seq_k (fun K31 hK31 => ?_)
        refine wpIn_region_lit ?_
        refine wpi_exG (v := .int .i64 (x.1.1 : Int)) (fun _ => trivial) (wn rfl) rfl (ex_assign rfl rfl) ?_
        refine wpListIn_nil ?_
        simp only [Act.put, List.setIfInBounds_toArray, List.set_cons_succ, List.set_cons_zero]
        refine then_normal (hK31 _ _ ?_)
        clear hK31 K31
        refine wpIn_region_lit ?_
        refine sl_alloc (fun _ => trivial) (wn rfl) rfl hv cral92 (fun b32 w33 hv => ?_)
        refine sl_storeNAt 0 (new := wrCells x.1.2) (pre := []) (mid := [.int .i64 0, .int .u8 0, .int .u8 0, .int .u8 0, .int .u8 0, .int .u8 0, .int .u8 0, .int .u8 0, .int .u8 0, .int .u8 0, .int .u8 0, .int .u8 0, .int .u8 0, .int .u8 0, .int .u8 0, .int .u8 0, .int .u8 0, .int .u8 0, .int .u8 0, .int .u8 0, .int .u8 0, .int .u8 0, .int .u8 0, .int .u8 0, .int .u8 0, .int .u8 0, .int .u8 0, .int .u8 0, .int .u8 0, .int .u8 0, .int .u8 0, .int .u8 0, .int .u8 0, .int .u8 0, .int .u8 0, .int .u8 0, .int .u8 0, .int .u8 0, .int .u8 0, .int .u8 0, .int .u8 0, .int .u8 0, .int .u8 0, .int .u8 0, .int .u8 0, .int .u8 0, .int .u8 0, .int .u8 0, .int .u8 0, .int .u8 0, .int .u8 0, .int .u8 0, .int .u8 0, .int .u8 0, .int .u8 0, .int .u8 0, .int .u8 0, .int .u8 0, .int .u8 0, .int .u8 0, .int .u8 0, .int .u8 0, .int .u8 0, .int .u8 0, .int .u8 0]) (post := []) (L' := wrCells x.1.2) (fun _ => trivial) (wn rfl) rfl rfl rfl hv rfl (szWrite _ (wrLen hx.2)) rfl rfl (by rw [wrLen hx.2]; rfl) (wrOne _) (by simp) (fun w34 hv => ?_)
        simp only [List.set_cons_succ, List.set_cons_zero] at hv
        refine wpListIn_nil ?_
        simp only [Act.put, List.setIfInBounds_toArray, List.set_cons_succ, List.set_cons_zero]
        exact ⟨by trivial, _, rfl, hv⟩
      case body =>
        intro l pre x b w B' hB' hv hN
        have hx := pendEl_len hok x
        have hds : ∀ s ∈ (keptOf ks pre).foldl Disk.put D.dur, s.length = 64 := Disk.foldl_put_mem hok.dur (fun q hq => by obtain ⟨y, _, rfl⟩ := List.mem_map.1 hq; exact (pendEl_len hok y).2)
        have hxd : x.1.2.1 < ((keptOf ks pre).foldl Disk.put D.dur).length := by rw [Disk.foldl_put_length]; exact hx.1
        have hxn : x.1.1 < D.pend.length := (List.getElem?_eq_some_iff.1 x.2).1
        have hkl := keptOf_le ks pre
        refine wpIn_block ?_
        refine wpIn_seq_k (fun K35 hK35 => ?_)
        refine wpIn_region_lit ?_
        refine wpi_exG (v := .slice (some ⟨b5, 0, none⟩) D.pend.length D.pend.length) (fun _ => trivial) (wn rfl) rfl (ex_load rfl rfl (run_load1 crna96 (hv.load 3 0 rfl rfl))) ?_
        refine wpi_exG (v := .int .i64 (x.1.1 : Int)) (fun _ => trivial) (wn rfl) rfl (ex_move rfl rfl) ?_
        refine wpi_exG (v := .pointer (some ⟨b5, 0 + x.1.1, none⟩)) (fun _ => trivial) (wn rfl) rfl (ex_index rfl rfl rfl (run_idx1 (k := x.1.1) Try.underlying96 cres96 (by omega))) ?_
        simp only [Act.put, List.setIfInBounds_toArray, List.set_cons_succ, List.set_cons_zero]
        rcases hkc : ks.contains (x.1.1 : Int)
        · refine wpi_exG (v := .bool false) (fun _ => trivial) (wn rfl) rfl (ex_load rfl rfl (run_load1 crna4 (hv.load 4 (0 + x.1.1) rfl (boolsOf_get _ _ _ hxn hkc)))) ?_
          refine wpListIn_nil ?_
          simp only [Act.put, List.setIfInBounds_toArray, List.set_cons_succ, List.set_cons_zero]
          refine then_normal (hK35 _ _ ?_)
          clear hK35 K35
          refine wpIn_cond_false rfl ?_
          refine wpIn_skip ?_
          refine blk_normal ?_
          rw [keptOf_no hkc]
          exact ⟨by trivial, hv.drop⟩
        · refine wpi_exG (v := .bool true) (fun _ => trivial) (wn rfl) rfl (ex_load rfl rfl (run_load1 crna4 (hv.load 4 (0 + x.1.1) rfl (boolsOf_get _ _ _ hxn hkc)))) ?_
          refine wpListIn_nil ?_
          simp only [Act.put, List.setIfInBounds_toArray, List.set_cons_succ, List.set_cons_zero]
          refine then_normal (hK35 _ _ ?_)
          clear hK35 K35
          refine wpIn_cond_true rfl ?_
          refine wpIn_seq_k (fun K36 hK36 => ?_)
          refine region_stR mixed (fun ⟨_, _, h⟩ => by simp [Exit.then, Exit.inBlock] at h) [.pointer (some ⟨p, 0, none⟩), .pointer (some ⟨p, 0, none⟩), .pointer (some ⟨p, 0, none⟩), .slice (some ⟨gd, 0, none⟩) D.dur.length D.dur.length, .pointer (some ⟨b, 0, none⟩), .int .i64 (x.1.2.1 : Int), .pointer (some ⟨b, 1, none⟩), .agg (x.1.2.2.map B8).toArray, .pointer (some ⟨gd, 0 + x.1.2.1 * 64, none⟩), undef] [9] [⟨fun vals w => vals = [] ∧ Inv B' (Res.cell b (wrCells x.1.2) 92 :: Res.cell b29 [.pointer (some ⟨p, 0, none⟩)] 36 :: Res.cell b24 [.int .i64 ((keptOf ks pre).length : Int)] 3 :: Res.cell b7 [.slice (some ⟨b5, 0, none⟩) D.pend.length D.pend.length] 96 :: Res.cell b5 (boolsOf D.pend.length ks) 4 :: Res.cell b2 [.pointer (some ⟨p, 0, none⟩)] 36 :: Res.cell p [.slice (some ⟨gd, 0, none⟩) D.dur.length D.dur.length, .slice vad D.pend.length vc, .int .i64 D.left] 87 :: Res.cell gd (durCells ((keptOf ks pre).foldl Disk.put D.dur)) 90 :: []) w, fun _ _ _ ⟨h, hi⟩ he => ⟨h, hi.ext he⟩⟩, ⟨fun vals w => vals = [undef] ∧ Inv B' (Res.cell b (wrCells x.1.2) 92 :: Res.cell b29 [.pointer (some ⟨p, 0, none⟩)] 36 :: Res.cell b24 [.int .i64 ((keptOf ks pre).length : Int)] 3 :: Res.cell b7 [.slice (some ⟨b5, 0, none⟩) D.pend.length D.pend.length] 96 :: Res.cell b5 (boolsOf D.pend.length ks) 4 :: Res.cell b2 [.pointer (some ⟨p, 0, none⟩)] 36 :: Res.cell p [.slice (some ⟨gd, 0, none⟩) D.dur.length D.dur.length, .slice vad D.pend.length vc, .int .i64 D.left] 87 :: Res.cell gd (durCells (((keptOf ks pre).foldl Disk.put D.dur).set x.1.2.1 x.1.2.2)) 90 :: []) w, fun _ _ _ ⟨h, hi⟩ he => ⟨h, hi.ext he⟩⟩] 61 rfl (by kernel_rfl) (by kernel_rfl) ⟨rfl, hv⟩ ⟨?_, ?_, ?_, ?_, ?_, ?_, ?_, ?_, ?_, ?_, trivial⟩ ?_
          · intro aa ww vals hJ hR
            have h2 : vals.length ≤ 0 := hR.hi 9 (by simp) rfl
            have hl : vals.length = 0 := by omega
            obtain ⟨hvals, hv⟩ := hJ.at0 hl
            exact add_step' rfl (Ex.adds' (ex_load rfl (show aa.eval (.tmp 2) = _ from hR.keep 2 rfl) (run_load1 crna36 (hv.load 5 0 rfl rfl))) (wn rfl) rfl)
          · intro aa ww vals hJ hR
            exact add_step' rfl (Ex.adds' (ex_nil rfl (show aa.eval (.tmp 43) = _ from hR.v 0 43 rfl rfl rfl rfl)) (wn rfl) rfl)
          · intro aa ww vals hJ hR
            exact add_step' rfl (Ex.adds' (ex_field rfl (show aa.eval (.tmp 44) = _ from hR.v 1 44 rfl rfl rfl rfl) (crfa87_0 _ _ _)) (wn rfl) rfl)
          · intro aa ww vals hJ hR
            have h2 : vals.length ≤ 0 := hR.hi 9 (by simp) rfl
            have hl : vals.length = 0 := by omega
            obtain ⟨hvals, hv⟩ := hJ.at0 hl
            exact add_step' rfl (Ex.adds' (ex_load rfl (show aa.eval (.tmp 45) = _ from hR.v 2 45 rfl rfl rfl rfl) (run_load1 crna84 (hv.load 6 0 rfl rfl))) (wn rfl) rfl)
          · intro aa ww vals hJ hR
            exact add_step' rfl (Ex.adds' (ex_field rfl (show aa.eval (.tmp 10) = _ from hR.keep 10 rfl) (crfa92_0 _ _ _)) (wn rfl) rfl)
          · intro aa ww vals hJ hR
            have h2 : vals.length ≤ 0 := hR.hi 9 (by simp) rfl
            have hl : vals.length = 0 := by omega
            obtain ⟨hvals, hv⟩ := hJ.at0 hl
            exact add_step' rfl (Ex.adds' (ex_load rfl (show aa.eval (.tmp 47) = _ from hR.v 4 47 rfl rfl rfl rfl) (run_load1 crna3 (hv.load 0 0 rfl rfl))) (wn rfl) rfl)
          · intro aa ww vals hJ hR
            exact add_step' rfl (Ex.adds' (ex_field rfl (show aa.eval (.tmp 10) = _ from hR.keep 10 rfl) (crfa92_1 _ _ _)) (wn rfl) rfl)
          · intro aa ww vals hJ hR
            have h2 : vals.length ≤ 0 := hR.hi 9 (by simp) rfl
            have hl : vals.length = 0 := by omega
            obtain ⟨hvals, hv⟩ := hJ.at0 hl
            exact add_step' rfl (Ex.adds' (ex_load rfl (show aa.eval (.tmp 49) = _ from hR.v 6 49 rfl rfl rfl rfl) (loadW1 (x := x.1.2) hx.2 (hv.get 0 rfl))) (wn rfl) rfl)
          · intro aa ww vals hJ hR
            exact add_step' rfl (Ex.adds' (ex_index rfl (show aa.eval (.tmp 46) = _ from hR.v 3 46 rfl rfl rfl rfl) (show aa.eval (.tmp 48) = _ from hR.v 5 48 rfl rfl rfl rfl) (run_idx (k := x.1.2.1) Try.underlying84 cres84 (by omega))) (wn rfl) rfl)
          · intro aa ww vals hJ hR
            refine mem_step' rfl fun hvl => ?_
            have hl : vals.length = 0 := hvl
            obtain ⟨hvals, hv⟩ := hJ.at0 hl
            exact ExU.mem (ex_store rfl (show aa.eval (.tmp 51) = _ from hR.v 8 51 rfl rfl rfl rfl) (show aa.eval (.tmp 50) = _ from hR.v 7 50 rfl rfl rfl rfl) (storeSec (hv.get 7 rfl) hds x.1.2.1 hxd x.1.2.2 hx.2)) (wn rfl) (JS.next hl ⟨by rw [hvals]; rfl, (hv.putAt 7 rfl _)⟩)
          rintro w37 vals ⟨rfl, hv⟩
          rw [show mixV [9] [undef] 0 [.pointer (some ⟨p, 0, none⟩), .pointer (some ⟨p, 0, none⟩), .pointer (some ⟨p, 0, none⟩), .slice (some ⟨gd, 0, none⟩) D.dur.length D.dur.length, .pointer (some ⟨b, 0, none⟩), .int .i64 (x.1.2.1 : Int), .pointer (some ⟨b, 1, none⟩), .agg (x.1.2.2.map B8).toArray, .pointer (some ⟨gd, 0 + x.1.2.1 * 64, none⟩), undef] = [.pointer (some ⟨p, 0, none⟩), .pointer (some ⟨p, 0, none⟩), .pointer (some ⟨p, 0, none⟩), .slice (some ⟨gd, 0, none⟩) D.dur.length D.dur.length, .pointer (some ⟨b, 0, none⟩), .int .i64 (x.1.2.1 : Int), .pointer (some ⟨b, 1, none⟩), .agg (x.1.2.2.map B8).toArray, .pointer (some ⟨gd, 0 + x.1.2.1 * 64, none⟩), undef] from rfl]
          simp only [putAll, Act.put, List.setIfInBounds_toArray, List.set_cons_succ, List.set_cons_zero]
          refine then_normal (hK36 _ _ ?_)
          clear hK36 K36
          refine wpIn_region_lit ?_
          refine wpi_exG (v := .int .i64 ((keptOf ks pre).length : Int)) (fun _ => trivial) (wn rfl) rfl (ex_load rfl rfl (run_load1 crna3 (hv.load 2 0 rfl rfl))) ?_
          refine wpi_exG (v := .int .i64 (((keptOf ks pre).length : Int) + 1)) (fun _ => trivial) (wn rfl) rfl (ex_add (m := ((keptOf ks pre).length : Int)) (n := 1) rfl rfl rfl (i64_in (by omega))) ?_
          refine sl_storeAt 2 (v := .int .i64 (((keptOf ks pre).length : Int) + 1)) (L' := [.int .i64 (((keptOf ks pre).length : Int) + 1)]) (fun _ => trivial) (wn rfl) rfl rfl rfl hv rfl crsz3 (by simp) rfl rfl rfl (fun w38 hv => ?_)
          simp only [List.set_cons_succ, List.set_cons_zero] at hv
          refine wpListIn_nil ?_
          simp only [Act.put, List.setIfInBounds_toArray, List.set_cons_succ, List.set_cons_zero]
          refine blk_normal ?_
          rw [keptOf_yes hkc, List.foldl_append, List.length_append]
          exact ⟨by trivial, hv.drop⟩
      case done =>
        intro d39 xs w40 hS hv
        simp only [List.cons_append, List.nil_append] at hv
        refine blk_normal ?_
        refine then_normal (hK27 _ _ ?_)
        clear hK27 K27
        refine wpIn_seq_k (fun K41 hK41 => ?_)
        refine wpIn_region_lit ?_
        refine wpi_exG (v := .pointer (some ⟨p, 0, none⟩)) (fun _ => trivial) (wn rfl) rfl (ex_load rfl rfl (run_load1 crna36 (hv.load 5 0 rfl rfl))) ?_
        refine wpi_exG (v := .pointer (some ⟨p, 0, none⟩)) (fun _ => trivial) (wn rfl) rfl (ex_nil rfl rfl) ?_
        refine wpi_exG (v := .pointer (some ⟨p, 1, none⟩)) (fun _ => trivial) (wn rfl) rfl (ex_field rfl rfl (crfa87_1 _ _ _)) ?_
        simp only [Act.put, List.setIfInBounds_toArray, List.set_cons_succ, List.set_cons_zero]
        refine sl_storeAt 6 (v := .slice none 0 0) (L' := [.slice (some ⟨gd, 0, none⟩) D.dur.length D.dur.length, .slice none 0 0, .int .i64 D.left]) (fun _ => trivial) (wn rfl) rfl rfl rfl hv rfl crsz85 (by simp) rfl rfl rfl (fun w42 hv => ?_)
        simp only [List.set_cons_succ, List.set_cons_zero] at hv
        refine wpListIn_nil ?_
        simp only [Act.put, List.setIfInBounds_toArray, List.set_cons_succ, List.set_cons_zero]
        refine then_normal (hK41 _ _ ?_)
        clear hK41 K41
        refine wpIn_seq_k (fun K43 hK43 => ?_)
        refine wpIn_region_lit ?_
        refine wpi_exG (v := .pointer (some ⟨p, 0, none⟩)) (fun _ => trivial) (wn rfl) rfl (ex_load rfl rfl (run_load1 crna36 (hv.load 5 0 rfl rfl))) ?_
        refine wpi_exG (v := .pointer (some ⟨p, 0, none⟩)) (fun _ => trivial) (wn rfl) rfl (ex_nil rfl rfl) ?_
        refine wpi_exG (v := .pointer (some ⟨p, 2, none⟩)) (fun _ => trivial) (wn rfl) rfl (ex_field rfl rfl (crfa87_2 _ _ _)) ?_
        simp only [Act.put, List.setIfInBounds_toArray, List.set_cons_succ, List.set_cons_zero]
        refine sl_storeAt 6 (v := .int .i64 (-1)) (L' := [.slice (some ⟨gd, 0, none⟩) D.dur.length D.dur.length, .slice none 0 0, .int .i64 (-1)]) (fun _ => trivial) (wn rfl) rfl rfl rfl hv rfl crsz3 (by simp) rfl rfl rfl (fun w44 hv => ?_)
        simp only [List.set_cons_succ, List.set_cons_zero] at hv
        refine wpListIn_nil ?_
        simp only [Act.put, List.setIfInBounds_toArray, List.set_cons_succ, List.set_cons_zero]
        refine then_normal (hK43 _ _ ?_)
        clear hK43 K43
        refine wpIn_seq_k (fun K45 hK45 => ?_)
        refine wpIn_region_lit ?_
        refine wpi_exG (v := .int .i64 ((keptOf ks xs).length : Int)) (fun _ => trivial) (wn rfl) rfl (ex_load rfl rfl (run_load1 crna3 (hv.load 2 0 rfl rfl))) ?_
        refine wpi_exG (v := .int .i64 ((keptOf ks xs).length : Int)) (fun _ => trivial) (wn rfl) rfl (ex_assign rfl rfl) ?_
        refine wpListIn_nil ?_
        simp only [Act.put, List.setIfInBounds_toArray, List.set_cons_succ, List.set_cons_zero]
        refine then_normal (hK45 _ _ ?_)
        clear hK45 K45
        refine wpIn_ret ?_
        refine sl_end1 hv (fun w46 hv => ⟨_, results_tmp rfl _ _ _, ?_⟩)
        rw [keptOf_all hS] at hv ⊢
        exact ⟨rfl, crashEnd hok ((hv.tail 5).front 2 rfl).drop⟩
end Go.Proofs.Ytkannfkjnohdlaa
