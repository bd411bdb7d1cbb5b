/- slots.write -/
import Derived.Test.YtkannfkjnohdlaaMsD
namespace Go.Proofs.Ytkannfkjnohdlaa
open Go.RowKit Go.Pm
def headOf (g st : Nat) (l : List UInt8) : List UInt8 := [83] ++ beOf 8 g ++ beOf 8 st ++ beOf 4 l.length ++ beOf 4 (Crc.sum l) ++ List.replicate 39 0
theorem headOf_len (g st : Nat) (l : List UInt8) : (headOf g st l).length = 64 := by simp only [headOf, List.length_append, beOf_length, List.length_replicate, List.length_singleton]
def putHead (D : Disk) (at_ : Nat) (hd : List UInt8) : Int × Disk :=
  if D.left = 0 then (20, D) else if (D.write at_ hd).left = 0 then (20, D.write at_ hd) else (0, (D.write at_ hd).sync)
/-- what a save writes -/
def putAll' (D : Disk) (at_ : Nat) (l hd : List UInt8) : Int × Disk :=
  if l.length = 0 then putHead D at_ hd else if D.left = 0 then (20, D) else if (D.write (at_ + 1) l).left = 0 then (20, D.write (at_ + 1) l) else putHead ((D.write (at_ + 1) l).sync) at_ hd
theorem has_of {D : Disk} {at_ n : Nat} (h1 : 1 ≤ n) (h2 : at_ + n ≤ D.dur.length) : D.has (at_ : Int) (n : Int) = true := by
  unfold Disk.has
  simp
  omega
theorem andOne {P : Program} {w : World} (g : Nat) (hg : g < 9223372036854775808) : (Op.intBits .and .i64 (g : Int) 1).run P w = .ok (.int .i64 ((g % 2 : Nat) : Int)) w := by
  have e2 : (Op.intBits .and .i64 (g : Int) 1).run P w = .ok (.int .i64 (IntKind.i64.wrap ((BitVec.ofInt 64 (g : Int) &&& BitVec.ofInt 64 ((1 : Nat) : Int)).toNat : Int))) w := rfl
  have e : (BitVec.ofInt 64 (g : Int) &&& BitVec.ofInt 64 ((1 : Nat) : Int)).toNat = g % 2 := by
    rw [BitVec.toNat_and, BitVec.ofInt_natCast, BitVec.ofInt_natCast, BitVec.toNat_ofNat, BitVec.toNat_ofNat, Nat.mod_eq_of_lt (by omega), Nat.mod_eq_of_lt (by omega), Nat.and_one_is_mod]
  rw [e2, e, i64_in (by omega)]
theorem rep_split (z : Value) (a b c : Nat) (h : a = b + c) : List.replicate a z = List.replicate b z ++ List.replicate c z := by rw [List.replicate_append_replicate, h]
theorem nsec_le {l : List UInt8} {k : Nat} (h : l.length ≤ 64 * k) : Disk.nsec l ≤ k := by unfold Disk.nsec; omega
theorem nsec_pos {l : List UInt8} (h : l.length ≠ 0) : 1 ≤ Disk.nsec l := by unfold Disk.nsec; omega
theorem write_dur (D : Disk) (a : Nat) (l : List UInt8) : (D.write a l).dur.length = D.dur.length := rfl
theorem sync_dur (D : Disk) : D.sync.dur.length = D.dur.length := Disk.foldl_put_length _ _
theorem sync_pend (D : Disk) : D.sync.pend.length = 0 := rfl
theorem write_pend (D : Disk) (a : Nat) (l : List UInt8) : (D.write a l).pend.length = D.pend.length + Disk.nsec l := by simp [Disk.write, Disk.writesOf]
theorem rd_own {B : Base} {H : List Res} {b : Nat} {t : TypeId} {l : List UInt8} (k : Nat) (hk : H[k]? = some (Res.cell b (l.map B8) t)) : RdV B H (some ⟨b, 0, none⟩) (l.map B8) :=
  rdV_cell 0 (List.mem_of_getElem? hk) (fun i hi => by rw [Nat.zero_add]; exact List.getElem?_eq_getElem hi)
theorem head_map (g st : Nat) (l : List UInt8) : (((([B8 83] ++ (beOf 8 g).map B8) ++ (beOf 8 st).map B8) ++ (beOf 4 l.length).map B8) ++ (beOf 4 (Crc.sum l)).map B8) ++ List.replicate 39 (Value.int .u8 0) = (headOf g st l).map B8 := by
  simp only [headOf, List.map_append, List.map_replicate, List.map_cons, List.map_nil]
  rfl

theorem nsec_head (g st : Nat) (l : List UInt8) : Disk.nsec (headOf g st l) = 1 := by unfold Disk.nsec; rw [headOf_len]
theorem s3fa102_1 (w : World) (b o : Nat) : (Instr.fieldAt 102 (.pointer (some ⟨b, o, none⟩)) 1).run Try.prog w = .ok (.pointer (some ⟨b, o + 1, none⟩)) w := by kernel_rfl
theorem s3na3 (w : World) : (isAgg 3).run Try.prog w = .ok false w := by kernel_rfl
theorem s3fa102_2 (w : World) (b o : Nat) : (Instr.fieldAt 102 (.pointer (some ⟨b, o, none⟩)) 2).run Try.prog w = .ok (.pointer (some ⟨b, o + 2, none⟩)) w := by kernel_rfl
theorem s3fa55_1 (w : World) (b o : Nat) : (Instr.fieldAt 55 (.pointer (some ⟨b, o, none⟩)) 1).run Try.prog w = .ok (.pointer (some ⟨b, o + 1, none⟩)) w := by kernel_rfl
theorem s3na24 (w : World) : (isAgg 24).run Try.prog w = .ok false w := by kernel_rfl
theorem s3fa102_0 (w : World) (b o : Nat) : (Instr.fieldAt 102 (.pointer (some ⟨b, o, none⟩)) 0).run Try.prog w = .ok (.pointer (some ⟨b, o + 0, none⟩)) w := by kernel_rfl
theorem s3na36 (w : World) : (isAgg 36).run Try.prog w = .ok false w := by kernel_rfl
theorem s3callable22 : Callable Try.prog 22 := ⟨_, Try.func22, by kernel_rfl, by kernel_rfl⟩
theorem s3callable24 : Callable Try.prog 24 := ⟨_, Try.func24, by kernel_rfl, by kernel_rfl⟩
theorem s3al89 (w : World) : (Instr.alloc 89 true (.tuple #[])).run Try.prog w = .ok (.pointer (some ⟨w.heap.size, 0, none⟩)) (w.alloc (.cells ([.int .u8 0, .int .u8 0, .int .u8 0, .int .u8 0, .int .u8 0, .int .u8 0, .int .u8 0, .int .u8 0, .int .u8 0, .int .u8 0, .int .u8 0, .int .u8 0, .int .u8 0, .int .u8 0, .int .u8 0, .int .u8 0, .int .u8 0, .int .u8 0, .int .u8 0, .int .u8 0, .int .u8 0, .int .u8 0, .int .u8 0, .int .u8 0, .int .u8 0, .int .u8 0, .int .u8 0, .int .u8 0, .int .u8 0, .int .u8 0, .int .u8 0, .int .u8 0, .int .u8 0, .int .u8 0, .int .u8 0, .int .u8 0, .int .u8 0, .int .u8 0, .int .u8 0, .int .u8 0, .int .u8 0, .int .u8 0, .int .u8 0, .int .u8 0, .int .u8 0, .int .u8 0, .int .u8 0, .int .u8 0, .int .u8 0, .int .u8 0, .int .u8 0, .int .u8 0, .int .u8 0, .int .u8 0, .int .u8 0, .int .u8 0, .int .u8 0, .int .u8 0, .int .u8 0, .int .u8 0, .int .u8 0, .int .u8 0, .int .u8 0, .int .u8 0] : List Value).toArray 89)) := by kernel_rfl
theorem s3ea89 (w : World) : (sizeOf 5).run Try.prog w = .ok 1 w := by kernel_rfl
theorem s3ua89 : Try.prog.underlying 89 = some (.array 64 5) := by kernel_rfl
theorem s3sz5 : (Try.prog.info? 5).map (·.size) = some 1 := by kernel_rfl
theorem s3sb89_1_9 (w : World) (b o : Nat) : (Instr.sliceAt 89 (.pointer (some ⟨b, o, none⟩)) (some (.int .i64 1)) (some (.int .i64 9)) none).run Try.prog w = .ok (.slice (some ⟨b, o + 1, none⟩) 8 63) w := by kernel_rfl
theorem s3callable62 : Callable Try.prog 62 := ⟨_, Try.func62, by kernel_rfl, by kernel_rfl⟩
theorem s3sb89_9_17 (w : World) (b o : Nat) : (Instr.sliceAt 89 (.pointer (some ⟨b, o, none⟩)) (some (.int .i64 9)) (some (.int .i64 17)) none).run Try.prog w = .ok (.slice (some ⟨b, o + 9, none⟩) 8 55) w := by kernel_rfl
theorem s3fa55_0 (w : World) (b o : Nat) : (Instr.fieldAt 55 (.pointer (some ⟨b, o, none⟩)) 0).run Try.prog w = .ok (.pointer (some ⟨b, o + 0, none⟩)) w := by kernel_rfl
theorem s3sb89_17_21 (w : World) (b o : Nat) : (Instr.sliceAt 89 (.pointer (some ⟨b, o, none⟩)) (some (.int .i64 17)) (some (.int .i64 21)) none).run Try.prog w = .ok (.slice (some ⟨b, o + 17, none⟩) 4 47) w := by kernel_rfl
theorem s3sb89_21_25 (w : World) (b o : Nat) : (Instr.sliceAt 89 (.pointer (some ⟨b, o, none⟩)) (some (.int .i64 21)) (some (.int .i64 25)) none).run Try.prog w = .ok (.slice (some ⟨b, o + 21, none⟩) 4 43) w := by kernel_rfl
theorem s3mk24 : (Try.prog.info? 24).map (fun i => (i.zero, i.size, i.bytes)) = some (some (.slice none 0 0), 1, 24) := by kernel_rfl
theorem s3el22 : Elem Try.prog 22 24 (.slice none 0 0) 1 24 := elem_of Try.underlying22 s3mk24 (by rfl) (by decide)
theorem s3callable15 : Callable Try.prog 15 := ⟨_, Try.func15, by kernel_rfl, by kernel_rfl⟩
theorem s3sa89 (w : World) (b o : Nat) : (Instr.sliceAt 89 (.pointer (some ⟨b, o, none⟩)) none none none).run Try.prog w = .ok (.slice (some ⟨b, o, none⟩) 64 64) w := by kernel_rfl
set_option maxRecDepth 100000 in
set_option maxHeartbeats 1000000 in
theorem slotsWrite (B : Base) (H : List Res) (w : World) (q p from_ each gen : Nat) (failed : Bool) (D : Disk) (F : List Nat) (st : Nat) (a : Option Addr) (n cap : Nat) (l : List UInt8) (g at_ : Nat) (hat : from_ + (g % 2) * each = at_) (hg : g < 9223372036854775808) (hst : st ≤ 1152921504606846975) (he1 : 1 ≤ each) (he2 : each ≤ 65536) (hfit : at_ + each ≤ D.dur.length) (hdm : D.dur.length ≤ 65536) (hpl : D.pend.length ≤ 1000000) (hn : l.length = n) (hb : n ≤ 64 * (each - 1)) (hb2 : n ≤ 1048576) (hok : SliceOk a n cap) (hr : RdV B H a (l.map B8)) (hv : Inv B (Res.cell q [.pointer (some ⟨p, 0, none⟩), .int .i64 (from_ : Int), .int .i64 (each : Int), .int .i64 (gen : Int), .bool failed] 102 :: diskR p D F :: H) w) :
    Calls Try.prog 53 #[.pointer (some ⟨q, 0, none⟩), .agg #[.int .i64 (st : Int), .slice a n cap], .int .i64 (g : Int)] w fun e w' => ∃ F', e = .returned (.int .i64 (putAll' D at_ l (headOf g st l)).1) ∧ Inv B (Res.cell q [.pointer (some ⟨p, 0, none⟩), .int .i64 (from_ : Int), .int .i64 (each : Int), .int .i64 (gen : Int), .bool failed] 102 :: diskR p (putAll' D at_ l (headOf g st l)).2 F' :: H) w' := by
  subst hn
  have hpe : (g % 2) * each ≤ each := by
    rcases Nat.mod_two_eq_zero_or_one g with h | h <;> rw [h] <;> omega
  have hcs := Crc.sum_lt l
  have hns := nsec_le (l := l) (k := each - 1) (by omega)
  refine (callsIn_wide (n := 5)).1 ?_
  refine callsIn_of_wp Try.func53 rfl trivial ?_
  simp only [Try.ntmps53, List.size_toArray, List.length_cons, List.length_nil, Nat.reduceAdd, Nat.reduceSub, Array.replicate_succ, Array.replicate_zero, List.push_toArray, List.append_toArray, List.nil_append, List.cons_append]
  refine wpIn_seq_k (fun K1 hK1 => ?_)
  refine wpIn_region_lit ?_
  refine sl_box (L := [.int .i64 (st : Int), .slice a l.length cap]) (fun _ => trivial) (wn rfl) rfl (p := .agg #[.int .i64 (st : Int), .slice a l.length cap]) rfl hv (fun w => by kernel_rfl) (fun b2 w3 hv => ?_)
  refine wpi_exG (v := .int .i64 0) (fun _ => trivial) (wn rfl) rfl (ex_assign rfl rfl) ?_
  refine wpListIn_nil ?_
  simp only [Act.put, List.setIfInBounds_toArray, List.set_cons_succ, List.set_cons_zero]
  refine then_normal (hK1 _ _ ?_)
  clear hK1 K1
  refine wpIn_seq_k (fun K4 hK4 => ?_)
  refine region_st mixed [.pointer (some ⟨q, 0, none⟩), .pointer (some ⟨q, 0, none⟩), .pointer (some ⟨q, 1, none⟩), .int .i64 (from_ : Int), .int .i64 (g : Int), .int .i64 ((g % 2 : Nat) : Int), .pointer (some ⟨q, 0, none⟩), .pointer (some ⟨q, 0, none⟩), .pointer (some ⟨q, 2, none⟩), .int .i64 (each : Int), .int .i64 (((g % 2) * each : Nat) : Int), .int .i64 (at_ : Int), .int .i64 (at_ : Int)] [] [⟨fun vals w => vals = [] ∧ Inv B (Res.cell b2 [.int .i64 (st : Int), .slice a l.length cap] 55 :: Res.cell q [.pointer (some ⟨p, 0, none⟩), .int .i64 (from_ : Int), .int .i64 (each : Int), .int .i64 (gen : Int), .bool failed] 102 :: diskR p D F :: H) w, fun _ _ _ ⟨h, hi⟩ he => ⟨h, hi.ext he⟩⟩] 86 rfl (by kernel_rfl) ⟨rfl, hv⟩ ⟨?_, ?_, ?_, ?_, ?_, ?_, ?_, ?_, ?_, ?_, ?_, ?_, ?_, trivial⟩ ?_
  · intro aa ww vals hJ hR
    exact add_step' rfl (Ex.adds' (ex_move rfl (show aa.eval (.tmp 0) = _ from hR.keep 0 rfl)) (wn rfl) rfl)
  · intro aa ww vals hJ hR
    exact add_step' rfl (Ex.adds' (ex_nil rfl (show aa.eval (.tmp 12) = _ from hR.v 0 12 rfl rfl rfl rfl)) (wn rfl) rfl)
  · intro aa ww vals hJ hR
    exact add_step' rfl (Ex.adds' (ex_field rfl (show aa.eval (.tmp 13) = _ from hR.v 1 13 rfl rfl rfl rfl) (s3fa102_1 _ _ _)) (wn rfl) rfl)
  · intro aa ww vals hJ hR
    have hl : vals.length = 0 := by have := JS.le (n := 0) (by rfl) hJ; omega
    obtain ⟨hvals, hv⟩ := hJ.at0 hl
    exact add_step' rfl (Ex.adds' (ex_load rfl (show aa.eval (.tmp 14) = _ from hR.v 2 14 rfl rfl rfl rfl) (run_load1 s3na3 (hv.load 1 1 rfl rfl))) (wn rfl) rfl)
  · intro aa ww vals hJ hR
    exact add_step' rfl (Ex.adds' (ex_move rfl (show aa.eval (.tmp 2) = _ from hR.keep 2 rfl)) (wn rfl) rfl)
  · intro aa ww vals hJ hR
    exact add_step' rfl (Ex.adds' (ex_bits (m := (g : Int)) (n := 1) rfl (show aa.eval (.tmp 16) = _ from hR.v 4 16 rfl rfl rfl rfl) rfl rfl (andOne _ hg)) (wn rfl) rfl)
  · intro aa ww vals hJ hR
    exact add_step' rfl (Ex.adds' (ex_move rfl (show aa.eval (.tmp 0) = _ from hR.keep 0 rfl)) (wn rfl) rfl)
  · intro aa ww vals hJ hR
    exact add_step' rfl (Ex.adds' (ex_nil rfl (show aa.eval (.tmp 18) = _ from hR.v 6 18 rfl rfl rfl rfl)) (wn rfl) rfl)
  · intro aa ww vals hJ hR
    exact add_step' rfl (Ex.adds' (ex_field rfl (show aa.eval (.tmp 19) = _ from hR.v 7 19 rfl rfl rfl rfl) (s3fa102_2 _ _ _)) (wn rfl) rfl)
  · intro aa ww vals hJ hR
    have hl : vals.length = 0 := by have := JS.le (n := 0) (by rfl) hJ; omega
    obtain ⟨hvals, hv⟩ := hJ.at0 hl
    exact add_step' rfl (Ex.adds' (ex_load rfl (show aa.eval (.tmp 20) = _ from hR.v 8 20 rfl rfl rfl rfl) (run_load1 s3na3 (hv.load 1 2 rfl rfl))) (wn rfl) rfl)
  · intro aa ww vals hJ hR
    exact add_step' rfl (Ex.adds' (ex_mul (m := ((g % 2 : Nat) : Int)) (n := (each : Int)) rfl (show aa.eval (.tmp 17) = _ from hR.v 5 17 rfl rfl rfl rfl) (show aa.eval (.tmp 21) = _ from hR.v 9 21 rfl rfl rfl rfl) (by rw [← Int.natCast_mul, i64_in (by omega)])) (wn rfl) rfl)
  · intro aa ww vals hJ hR
    exact add_step' rfl (Ex.adds' (ex_add (m := (from_ : Int)) (n := (((g % 2) * each : Nat) : Int)) rfl (show aa.eval (.tmp 15) = _ from hR.v 3 15 rfl rfl rfl rfl) (show aa.eval (.tmp 22) = _ from hR.v 10 22 rfl rfl rfl rfl) (by rw [i64_in (by omega)]; omega)) (wn rfl) rfl)
  · intro aa ww vals hJ hR
    exact add_step' rfl (Ex.adds' (ex_assign rfl (show aa.eval (.tmp 23) = _ from hR.v 11 23 rfl rfl rfl rfl)) (wn rfl) rfl)
  rintro w5 vals ⟨rfl, hv⟩
  rw [show mixV [] [] 0 [.pointer (some ⟨q, 0, none⟩), .pointer (some ⟨q, 0, none⟩), .pointer (some ⟨q, 1, none⟩), .int .i64 (from_ : Int), .int .i64 (g : Int), .int .i64 ((g % 2 : Nat) : Int), .pointer (some ⟨q, 0, none⟩), .pointer (some ⟨q, 0, none⟩), .pointer (some ⟨q, 2, none⟩), .int .i64 (each : Int), .int .i64 (((g % 2) * each : Nat) : Int), .int .i64 (at_ : Int), .int .i64 (at_ : Int)] = [.pointer (some ⟨q, 0, none⟩), .pointer (some ⟨q, 0, none⟩), .pointer (some ⟨q, 1, none⟩), .int .i64 (from_ : Int), .int .i64 (g : Int), .int .i64 ((g % 2 : Nat) : Int), .pointer (some ⟨q, 0, none⟩), .pointer (some ⟨q, 0, none⟩), .pointer (some ⟨q, 2, none⟩), .int .i64 (each : Int), .int .i64 (((g % 2) * each : Nat) : Int), .int .i64 (at_ : Int), .int .i64 (at_ : Int)] from rfl]
  simp only [putAll, Act.put, List.setIfInBounds_toArray, List.set_cons_succ, List.set_cons_zero]
  refine then_normal (hK4 _ _ ?_)
  clear hK4 K4
  refine wpIn_seq_k (fun K6 hK6 => ?_)
  refine wpIn_seq_k (fun K7 hK7 => ?_)
  refine wpIn_region_lit ?_
  refine wpi_exG (v := .pointer (some ⟨b2, 1, none⟩)) (fun _ => trivial) (wn rfl) rfl (ex_field rfl rfl (s3fa55_1 _ _ _)) ?_
  refine wpi_exG (v := .slice a l.length cap) (fun _ => trivial) (wn rfl) rfl (ex_load rfl rfl (run_load1 s3na24 (hv.load 0 1 rfl rfl))) ?_
  refine wpi_exG (v := .int .i64 (l.length : Int)) (fun _ => trivial) (wn rfl) rfl (ex_len0 Try.underlying24 rfl rfl) ?_
  simp only [Act.put, List.setIfInBounds_toArray, List.set_cons_succ, List.set_cons_zero]
  by_cases hb8 : (l.length : Int) > 0
  · refine wpi_exG (v := .bool true) (fun _ => trivial) (wn rfl) rfl (ex_gtr (k := .i64) (m := (l.length : Int)) (n := 0) rfl rfl rfl (decide_eq_true hb8)) ?_
    refine wpListIn_nil ?_
    simp only [Act.put, List.setIfInBounds_toArray, List.set_cons_succ, List.set_cons_zero]
    refine then_normal (hK7 _ _ ?_)
    clear hK7 K7
    refine wpIn_cond_true rfl ?_
    refine wpIn_seq_k (fun K9 hK9 => ?_)
    refine wpIn_seq_k (fun K10 hK10 => ?_)
    by_cases hb11 : D.left = 0
    · refine region_st mixed [.pointer (some ⟨q, 0, none⟩), .pointer (some ⟨q, 0, none⟩), .pointer (some ⟨q, 0, none⟩), .pointer (some ⟨p, 0, none⟩), .int .i64 (at_ : Int), .int .i64 ((at_ + 1 : Nat) : Int), .pointer (some ⟨b2, 1, none⟩), .slice a l.length cap, undef, .int .i64 20] [8] [⟨fun vals w => vals = [] ∧ Inv B (Res.cell b2 [.int .i64 (st : Int), .slice a l.length cap] 55 :: Res.cell q [.pointer (some ⟨p, 0, none⟩), .int .i64 (from_ : Int), .int .i64 (each : Int), .int .i64 (gen : Int), .bool failed] 102 :: diskR p D F :: H) w, fun _ _ _ ⟨h, hi⟩ he => ⟨h, hi.ext he⟩⟩, ⟨fun vals w => ∃ F12, vals = [.int .i64 20] ∧ Inv B (diskR p D F12 :: Res.cell b2 [.int .i64 (st : Int), .slice a l.length cap] 55 :: Res.cell q [.pointer (some ⟨p, 0, none⟩), .int .i64 (from_ : Int), .int .i64 (each : Int), .int .i64 (gen : Int), .bool failed] 102 :: H) w, fun _ _ _ ⟨F12, h, hi⟩ he => ⟨F12, h, hi.ext he⟩⟩] 86 rfl (by kernel_rfl) ⟨rfl, hv⟩ ⟨?_, ?_, ?_, ?_, ?_, ?_, ?_, ?_, ?_, ?_, trivial⟩ ?_
      · intro aa ww vals hJ hR
        exact add_step' rfl (Ex.adds' (ex_move rfl (show aa.eval (.tmp 0) = _ from hR.keep 0 rfl)) (wn rfl) rfl)
      · intro aa ww vals hJ hR
        exact add_step' rfl (Ex.adds' (ex_nil rfl (show aa.eval (.tmp 28) = _ from hR.v 0 28 rfl rfl rfl rfl)) (wn rfl) rfl)
      · intro aa ww vals hJ hR
        exact add_step' rfl (Ex.adds' (ex_field rfl (show aa.eval (.tmp 29) = _ from hR.v 1 29 rfl rfl rfl rfl) (s3fa102_0 _ _ _)) (wn rfl) rfl)
      · intro aa ww vals hJ hR
        have h2 : vals.length ≤ 0 := hR.hi 8 (by simp) rfl
        have hl : vals.length = 0 := by omega
        obtain ⟨hvals, hv⟩ := hJ.at0 hl
        exact add_step' rfl (Ex.adds' (ex_load rfl (show aa.eval (.tmp 30) = _ from hR.v 2 30 rfl rfl rfl rfl) (run_load1 s3na36 (hv.load 1 0 rfl rfl))) (wn rfl) rfl)
      · intro aa ww vals hJ hR
        exact add_step' rfl (Ex.adds' (ex_move rfl (show aa.eval (.tmp 7) = _ from hR.keep 7 rfl)) (wn rfl) rfl)
      · intro aa ww vals hJ hR
        exact add_step' rfl (Ex.adds' (ex_add (m := (at_ : Int)) (n := 1) rfl (show aa.eval (.tmp 32) = _ from hR.v 4 32 rfl rfl rfl rfl) rfl (by rw [i64_in (by omega)]; omega)) (wn rfl) rfl)
      · intro aa ww vals hJ hR
        exact add_step' rfl (Ex.adds' (ex_field rfl (show aa.eval (.tmp 4) = _ from hR.keep 4 rfl) (s3fa55_1 _ _ _)) (wn rfl) rfl)
      · intro aa ww vals hJ hR
        have h2 : vals.length ≤ 0 := hR.hi 8 (by simp) rfl
        have hl : vals.length = 0 := by omega
        obtain ⟨hvals, hv⟩ := hJ.at0 hl
        exact add_step' rfl (Ex.adds' (ex_load rfl (show aa.eval (.tmp 34) = _ from hR.v 6 34 rfl rfl rfl rfl) (run_load1 s3na24 (hv.load 0 1 rfl rfl))) (wn rfl) rfl)
      · intro aa ww vals hJ hR
        refine mem_step' rfl fun hvl => ?_
        have hl : vals.length = 0 := hvl
        obtain ⟨hvals, hv⟩ := hJ.at0 hl
        replace hv := hv.front 2 rfl
        simp only [List.eraseIdx_cons_succ, List.eraseIdx_cons_zero] at hv
        refine stepMem_calls s3callable22 (wn rfl) rfl (args := #[.pointer (some ⟨p, 0, none⟩), .int .i64 ((at_ + 1 : Nat) : Int), .slice a l.length cap]) (by simp only [List.map_toArray, List.map_cons, List.map_nil]; rw [show aa.eval (.tmp 31) = .pointer (some ⟨p, 0, none⟩) from hR.v 3 31 rfl rfl rfl rfl, show aa.eval (.tmp 33) = .int .i64 ((at_ + 1 : Nat) : Int) from hR.v 5 33 rfl rfl rfl rfl, show aa.eval (.tmp 35) = .slice a l.length cap from hR.v 7 35 rfl rfl rfl rfl] <;> rfl) ((diskWriteOffSl _ _ _ p _ _ _ _ _ _ (l) hv (by omega) (rfl) (by omega) (has_of (nsec_pos (by omega)) (by omega)) hb11).mono ?_)
        rintro e w13 ⟨F12, rfl, hv⟩
        refine ⟨_, rfl, JS.next hl ⟨F12, by rw [hvals]; rfl, hv⟩⟩
      · intro aa ww vals hJ hR
        have h1 : 0 < vals.length := hR.lo 8 (by simp) rfl
        have hl : vals.length = 1 := by have := JS.le (n := 1) (by rfl) hJ; omega
        obtain ⟨F12, hvals, hv⟩ := hJ.at0 hl
        exact add_step' rfl (Ex.adds' (ex_assign rfl (show aa.eval (.tmp 36) = _ from (hR.val 8 36 rfl rfl rfl).trans (by rw [hvals]; rfl))) (wn rfl) rfl)
      rintro w14 vals ⟨F12, rfl, hv⟩
      rw [show mixV [8] [.int .i64 20] 0 [.pointer (some ⟨q, 0, none⟩), .pointer (some ⟨q, 0, none⟩), .pointer (some ⟨q, 0, none⟩), .pointer (some ⟨p, 0, none⟩), .int .i64 (at_ : Int), .int .i64 ((at_ + 1 : Nat) : Int), .pointer (some ⟨b2, 1, none⟩), .slice a l.length cap, undef, .int .i64 20] = [.pointer (some ⟨q, 0, none⟩), .pointer (some ⟨q, 0, none⟩), .pointer (some ⟨q, 0, none⟩), .pointer (some ⟨p, 0, none⟩), .int .i64 (at_ : Int), .int .i64 ((at_ + 1 : Nat) : Int), .pointer (some ⟨b2, 1, none⟩), .slice a l.length cap, .int .i64 20, .int .i64 20] from rfl]
      simp only [putAll, Act.put, List.setIfInBounds_toArray, List.set_cons_succ, List.set_cons_zero]
      refine then_normal (hK10 _ _ ?_)
      clear hK10 K10
      refine wpIn_seq_k (fun K15 hK15 => ?_)
      refine wpIn_region_lit ?_
      refine wpi_exG (v := .int .i64 20) (fun _ => trivial) (wn rfl) rfl (ex_move rfl rfl) ?_
      refine wpi_exG (v := .bool true) (fun _ => trivial) (wn rfl) rfl (ex_neq (k := .i64) (m := 20) (n := 0) rfl rfl rfl (by decide)) ?_
      refine wpListIn_nil ?_
      simp only [Act.put, List.setIfInBounds_toArray, List.set_cons_succ, List.set_cons_zero]
      refine then_normal (hK15 _ _ ?_)
      clear hK15 K15
      refine wpIn_cond_true rfl ?_
      refine wpIn_seq_k (fun K16 hK16 => ?_)
      refine wpIn_region_lit ?_
      refine wpi_exG (v := .int .i64 20) (fun _ => trivial) (wn rfl) rfl (ex_move rfl rfl) ?_
      refine wpi_exG (v := .int .i64 20) (fun _ => trivial) (wn rfl) rfl (ex_assign rfl rfl) ?_
      refine wpListIn_nil ?_
      simp only [Act.put, List.setIfInBounds_toArray, List.set_cons_succ, List.set_cons_zero]
      refine then_normal (hK16 _ _ ?_)
      clear hK16 K16
      refine wpIn_ret ?_
      refine then_ret ?_
      clear hK9 K9
      refine then_ret ?_
      clear hK6 K6
      refine bodyPost_ret (results_tmp rfl _ _ _) rfl ?_
      have hres : putAll' D at_ l (headOf g st l) = (20, D) := by
        simp only [putAll', putHead, if_neg (show ¬ l.length = 0 by omega), if_pos hb11]
      rw [hres]
      exact ⟨_, rfl, ((hv.front 2 rfl).sub (List.Sublist.cons_cons _ (List.Sublist.cons_cons _ (List.Sublist.cons _ (List.Sublist.refl _)))))⟩
    · refine region_st mixed [.pointer (some ⟨q, 0, none⟩), .pointer (some ⟨q, 0, none⟩), .pointer (some ⟨q, 0, none⟩), .pointer (some ⟨p, 0, none⟩), .int .i64 (at_ : Int), .int .i64 ((at_ + 1 : Nat) : Int), .pointer (some ⟨b2, 1, none⟩), .slice a l.length cap, undef, .int .i64 0] [8] [⟨fun vals w => vals = [] ∧ Inv B (Res.cell b2 [.int .i64 (st : Int), .slice a l.length cap] 55 :: Res.cell q [.pointer (some ⟨p, 0, none⟩), .int .i64 (from_ : Int), .int .i64 (each : Int), .int .i64 (gen : Int), .bool failed] 102 :: diskR p D F :: H) w, fun _ _ _ ⟨h, hi⟩ he => ⟨h, hi.ext he⟩⟩, ⟨fun vals w => ∃ F17, vals = [.int .i64 0] ∧ Inv B (diskR p (D.write (at_ + 1 : Nat) l) F17 :: Res.cell b2 [.int .i64 (st : Int), .slice a l.length cap] 55 :: Res.cell q [.pointer (some ⟨p, 0, none⟩), .int .i64 (from_ : Int), .int .i64 (each : Int), .int .i64 (gen : Int), .bool failed] 102 :: H) w, fun _ _ _ ⟨F17, h, hi⟩ he => ⟨F17, h, hi.ext he⟩⟩] 86 rfl (by kernel_rfl) ⟨rfl, hv⟩ ⟨?_, ?_, ?_, ?_, ?_, ?_, ?_, ?_, ?_, ?_, trivial⟩ ?_
      · intro aa ww vals hJ hR
        exact add_step' rfl (Ex.adds' (ex_move rfl (show aa.eval (.tmp 0) = _ from hR.keep 0 rfl)) (wn rfl) rfl)
      · intro aa ww vals hJ hR
        exact add_step' rfl (Ex.adds' (ex_nil rfl (show aa.eval (.tmp 28) = _ from hR.v 0 28 rfl rfl rfl rfl)) (wn rfl) rfl)
      · intro aa ww vals hJ hR
        exact add_step' rfl (Ex.adds' (ex_field rfl (show aa.eval (.tmp 29) = _ from hR.v 1 29 rfl rfl rfl rfl) (s3fa102_0 _ _ _)) (wn rfl) rfl)
      · intro aa ww vals hJ hR
        have h2 : vals.length ≤ 0 := hR.hi 8 (by simp) rfl
        have hl : vals.length = 0 := by omega
        obtain ⟨hvals, hv⟩ := hJ.at0 hl
        exact add_step' rfl (Ex.adds' (ex_load rfl (show aa.eval (.tmp 30) = _ from hR.v 2 30 rfl rfl rfl rfl) (run_load1 s3na36 (hv.load 1 0 rfl rfl))) (wn rfl) rfl)
      · intro aa ww vals hJ hR
        exact add_step' rfl (Ex.adds' (ex_move rfl (show aa.eval (.tmp 7) = _ from hR.keep 7 rfl)) (wn rfl) rfl)
      · intro aa ww vals hJ hR
        exact add_step' rfl (Ex.adds' (ex_add (m := (at_ : Int)) (n := 1) rfl (show aa.eval (.tmp 32) = _ from hR.v 4 32 rfl rfl rfl rfl) rfl (by rw [i64_in (by omega)]; omega)) (wn rfl) rfl)
      · intro aa ww vals hJ hR
        exact add_step' rfl (Ex.adds' (ex_field rfl (show aa.eval (.tmp 4) = _ from hR.keep 4 rfl) (s3fa55_1 _ _ _)) (wn rfl) rfl)
      · intro aa ww vals hJ hR
        have h2 : vals.length ≤ 0 := hR.hi 8 (by simp) rfl
        have hl : vals.length = 0 := by omega
        obtain ⟨hvals, hv⟩ := hJ.at0 hl
        exact add_step' rfl (Ex.adds' (ex_load rfl (show aa.eval (.tmp 34) = _ from hR.v 6 34 rfl rfl rfl rfl) (run_load1 s3na24 (hv.load 0 1 rfl rfl))) (wn rfl) rfl)
      · intro aa ww vals hJ hR
        refine mem_step' rfl fun hvl => ?_
        have hl : vals.length = 0 := hvl
        obtain ⟨hvals, hv⟩ := hJ.at0 hl
        replace hv := hv.front 2 rfl
        simp only [List.eraseIdx_cons_succ, List.eraseIdx_cons_zero] at hv
        refine stepMem_calls s3callable22 (wn rfl) rfl (args := #[.pointer (some ⟨p, 0, none⟩), .int .i64 ((at_ + 1 : Nat) : Int), .slice a l.length cap]) (by simp only [List.map_toArray, List.map_cons, List.map_nil]; rw [show aa.eval (.tmp 31) = .pointer (some ⟨p, 0, none⟩) from hR.v 3 31 rfl rfl rfl rfl, show aa.eval (.tmp 33) = .int .i64 ((at_ + 1 : Nat) : Int) from hR.v 5 33 rfl rfl rfl rfl, show aa.eval (.tmp 35) = .slice a l.length cap from hR.v 7 35 rfl rfl rfl rfl] <;> rfl) ((diskWriteSl _ _ _ p _ _ (at_ + 1 : Nat) _ _ _ (l) hv (rfl) (hok) (hr.more (Base.Le.refl _) (fun r hr => List.mem_cons_of_mem _ (List.mem_cons_of_mem _ (hr)))) (has_of (nsec_pos (by omega)) (by omega)) hb11 (by omega)).mono ?_)
        rintro e w18 ⟨F17, rfl, hv⟩
        refine ⟨_, rfl, JS.next hl ⟨F17, by rw [hvals]; rfl, hv⟩⟩
      · intro aa ww vals hJ hR
        have h1 : 0 < vals.length := hR.lo 8 (by simp) rfl
        have hl : vals.length = 1 := by have := JS.le (n := 1) (by rfl) hJ; omega
        obtain ⟨F17, hvals, hv⟩ := hJ.at0 hl
        exact add_step' rfl (Ex.adds' (ex_assign rfl (show aa.eval (.tmp 36) = _ from (hR.val 8 36 rfl rfl rfl).trans (by rw [hvals]; rfl))) (wn rfl) rfl)
      rintro w19 vals ⟨F17, rfl, hv⟩
      rw [show mixV [8] [.int .i64 0] 0 [.pointer (some ⟨q, 0, none⟩), .pointer (some ⟨q, 0, none⟩), .pointer (some ⟨q, 0, none⟩), .pointer (some ⟨p, 0, none⟩), .int .i64 (at_ : Int), .int .i64 ((at_ + 1 : Nat) : Int), .pointer (some ⟨b2, 1, none⟩), .slice a l.length cap, undef, .int .i64 0] = [.pointer (some ⟨q, 0, none⟩), .pointer (some ⟨q, 0, none⟩), .pointer (some ⟨q, 0, none⟩), .pointer (some ⟨p, 0, none⟩), .int .i64 (at_ : Int), .int .i64 ((at_ + 1 : Nat) : Int), .pointer (some ⟨b2, 1, none⟩), .slice a l.length cap, .int .i64 0, .int .i64 0] from rfl]
      simp only [putAll, Act.put, List.setIfInBounds_toArray, List.set_cons_succ, List.set_cons_zero]
      refine then_normal (hK10 _ _ ?_)
      clear hK10 K10
      refine wpIn_seq_k (fun K20 hK20 => ?_)
      refine wpIn_region_lit ?_
      refine wpi_exG (v := .int .i64 0) (fun _ => trivial) (wn rfl) rfl (ex_move rfl rfl) ?_
      refine wpi_exG (v := .bool false) (fun _ => trivial) (wn rfl) rfl (ex_neq (k := .i64) (m := 0) (n := 0) rfl rfl rfl (by decide)) ?_
      refine wpListIn_nil ?_
      simp only [Act.put, List.setIfInBounds_toArray, List.set_cons_succ, List.set_cons_zero]
      refine then_normal (hK20 _ _ ?_)
      clear hK20 K20
      refine wpIn_cond_false rfl ?_
      refine wpIn_skip ?_
      refine then_normal (hK9 _ _ ?_)
      clear hK9 K9
      refine wpIn_seq_k (fun K21 hK21 => ?_)
      refine wpIn_region_lit ?_
      refine wpi_exG (v := .pointer (some ⟨q, 0, none⟩)) (fun _ => trivial) (wn rfl) rfl (ex_move rfl rfl) ?_
      refine wpi_exG (v := .pointer (some ⟨q, 0, none⟩)) (fun _ => trivial) (wn rfl) rfl (ex_nil rfl rfl) ?_
      refine wpi_exG (v := .pointer (some ⟨q, 0, none⟩)) (fun _ => trivial) (wn rfl) rfl (ex_field rfl rfl (s3fa102_0 _ _ _)) ?_
      simp only [Act.put, List.setIfInBounds_toArray, List.set_cons_succ, List.set_cons_zero]
      refine wpi_exG (v := .pointer (some ⟨p, 0, none⟩)) (fun _ => trivial) (wn rfl) rfl (ex_load rfl rfl (run_load1 s3na36 (hv.load 2 0 rfl rfl))) ?_
      by_cases hl22 : (D.write (at_ + 1 : Nat) l).left = 0
      · refine wpi_callG s3callable24 (fun _ => trivial) wideC rfl (wn rfl) rfl (args := #[.pointer (some ⟨p, 0, none⟩)]) (by simp only [List.map_toArray, List.map_cons, List.map_nil]; rfl) ((diskSyncOffSl _ _ _ p _ _ hv hl22).mono ?_)
        rintro e w24 ⟨F23, rfl, hv⟩
        refine ⟨_, rfl, ?_⟩
        refine wpi_exG (v := .int .i64 20) (fun _ => trivial) (wn rfl) rfl (ex_assign rfl rfl) ?_
        refine wpListIn_nil ?_
        simp only [Act.put, List.setIfInBounds_toArray, List.set_cons_succ, List.set_cons_zero]
        refine then_normal (hK21 _ _ ?_)
        clear hK21 K21
        refine wpIn_seq_k (fun K25 hK25 => ?_)
        refine wpIn_region_lit ?_
        refine wpi_exG (v := .int .i64 20) (fun _ => trivial) (wn rfl) rfl (ex_move rfl rfl) ?_
        refine wpi_exG (v := .bool true) (fun _ => trivial) (wn rfl) rfl (ex_neq (k := .i64) (m := 20) (n := 0) rfl rfl rfl (by decide)) ?_
        refine wpListIn_nil ?_
        simp only [Act.put, List.setIfInBounds_toArray, List.set_cons_succ, List.set_cons_zero]
        refine then_normal (hK25 _ _ ?_)
        clear hK25 K25
        refine wpIn_cond_true rfl ?_
        refine wpIn_seq_k (fun K26 hK26 => ?_)
        refine wpIn_region_lit ?_
        refine wpi_exG (v := .int .i64 20) (fun _ => trivial) (wn rfl) rfl (ex_move rfl rfl) ?_
        refine wpi_exG (v := .int .i64 20) (fun _ => trivial) (wn rfl) rfl (ex_assign rfl rfl) ?_
        refine wpListIn_nil ?_
        simp only [Act.put, List.setIfInBounds_toArray, List.set_cons_succ, List.set_cons_zero]
        refine then_normal (hK26 _ _ ?_)
        clear hK26 K26
        refine wpIn_ret ?_
        refine then_ret ?_
        clear hK6 K6
        refine bodyPost_ret (results_tmp rfl _ _ _) rfl ?_
        have hres : putAll' D at_ l (headOf g st l) = (20, D.write (at_ + 1 : Nat) l) := by
          simp only [putAll', putHead, if_neg (show ¬ l.length = 0 by omega), if_neg hb11, if_pos hl22]
        rw [hres]
        exact ⟨_, rfl, ((hv.front 2 rfl).sub (List.Sublist.cons_cons _ (List.Sublist.cons_cons _ (List.Sublist.cons _ (List.Sublist.refl _)))))⟩
      · refine wpi_callG s3callable24 (fun _ => trivial) wideC rfl (wn rfl) rfl (args := #[.pointer (some ⟨p, 0, none⟩)]) (by simp only [List.map_toArray, List.map_cons, List.map_nil]; rfl) ((diskSyncSl _ _ _ p _ _ hv hl22 (by simp only [write_dur, sync_dur, write_pend, sync_pend, nsec_head]; omega)).mono ?_)
        rintro e w28 ⟨F27, rfl, hv⟩
        refine ⟨_, rfl, ?_⟩
        refine wpi_exG (v := .int .i64 0) (fun _ => trivial) (wn rfl) rfl (ex_assign rfl rfl) ?_
        refine wpListIn_nil ?_
        simp only [Act.put, List.setIfInBounds_toArray, List.set_cons_succ, List.set_cons_zero]
        refine then_normal (hK21 _ _ ?_)
        clear hK21 K21
        refine wpIn_seq_k (fun K29 hK29 => ?_)
        refine wpIn_region_lit ?_
        refine wpi_exG (v := .int .i64 0) (fun _ => trivial) (wn rfl) rfl (ex_move rfl rfl) ?_
        refine wpi_exG (v := .bool false) (fun _ => trivial) (wn rfl) rfl (ex_neq (k := .i64) (m := 0) (n := 0) rfl rfl rfl (by decide)) ?_
        refine wpListIn_nil ?_
        simp only [Act.put, List.setIfInBounds_toArray, List.set_cons_succ, List.set_cons_zero]
        refine then_normal (hK29 _ _ ?_)
        clear hK29 K29
        refine wpIn_cond_false rfl ?_
        refine wpIn_skip ?_
        refine then_normal (hK6 _ _ ?_)
        clear hK6 K6
        refine wpIn_seq_k (fun K30 hK30 => ?_)
        refine wpIn_region_lit ?_
        refine sl_alloc (fun _ => trivial) (wn rfl) rfl hv s3al89 (fun b31 w32 hv => ?_)
        refine wpListIn_nil ?_
        simp only [Act.put, List.setIfInBounds_toArray, List.set_cons_succ, List.set_cons_zero]
        refine then_normal (hK30 _ _ ?_)
        clear hK30 K30
        refine wpIn_seq_k (fun K33 hK33 => ?_)
        refine wpIn_region_lit ?_
        refine wpi_exG (v := .pointer (some ⟨b31, 0 + 0, none⟩)) (fun _ => trivial) (wn rfl) rfl (ex_index rfl rfl rfl (run_idxA1 (k := 0) s3ua89 s3ea89 (by omega))) ?_
        rw [zeros64] at hv
        refine sl_storeAt 0 (v := .int .u8 83) (L' := [B8 83] ++ List.replicate 8 (Value.int .u8 0) ++ List.replicate 55 (Value.int .u8 0)) (fun _ => trivial) (wn rfl) rfl rfl rfl hv rfl s3sz5 (by rw [List.length_replicate]; decide) rfl rfl rfl (fun w34 hv => ?_)
        simp only [List.set_cons_succ, List.set_cons_zero] at hv
        refine wpListIn_nil ?_
        simp only [Act.put, List.setIfInBounds_toArray, List.set_cons_succ, List.set_cons_zero]
        refine then_normal (hK33 _ _ ?_)
        clear hK33 K33
        refine wpIn_seq_k (fun K35 hK35 => ?_)
        refine wpIn_region_lit ?_
        refine wpi_exG (v := .slice (some ⟨b31, 1, none⟩) 8 63) (fun _ => trivial) (wn rfl) rfl (ex_slice (lo' := (some (.int .i64 1))) (hi' := (some (.int .i64 9))) rfl rfl rfl rfl rfl (s3sb89_1_9 _ _ _)) ?_
        refine wpi_exG (v := .int .i64 (g : Int)) (fun _ => trivial) (wn rfl) rfl (ex_move rfl rfl) ?_
        refine wpi_exG (v := .int .u64 (g : Int)) (fun _ => trivial) (wn rfl) rfl (ex_int (m := (g : Int)) Try.underlying3 Try.underlying114 rfl rfl (u64_in (by omega))) ?_
        simp only [Act.put, List.setIfInBounds_toArray, List.set_cons_succ, List.set_cons_zero]
        refine wpi_callG s3callable62 (fun _ => trivial) wideC rfl (wn rfl) rfl (args := #[.slice (some ⟨b31, 1, none⟩) 8 63, .int .u64 (g : Int)]) (by simp only [List.map_toArray, List.map_cons, List.map_nil]; rfl) ((slotsPut _ _ _ b31 1 _ 8 (g) ([B8 83]) (List.replicate 8 (Value.int .u8 0)) (List.replicate 55 (Value.int .u8 0)) _ (by simp [beOf_length]) List.length_replicate (by omega) (by omega) hv).mono ?_)
        rintro e w36 ⟨rfl, hv⟩
        refine ⟨_, rfl, ?_⟩
        rw [rep_split (Value.int .u8 0) 55 8 47 rfl, ← List.append_assoc] at hv
        refine wpListIn_nil ?_
        simp only [Act.put, List.setIfInBounds_toArray, List.set_cons_succ, List.set_cons_zero]
        refine then_normal (hK35 _ _ ?_)
        clear hK35 K35
        refine wpIn_seq_k (fun K37 hK37 => ?_)
        refine region_st mixed [.slice (some ⟨b31, 9, none⟩) 8 55, .pointer (some ⟨b2, 0, none⟩), .int .i64 (st : Int), .int .u64 (st : Int), undef] [4] [⟨fun vals w => vals = [] ∧ Inv B (Res.cell b31 (([B8 83] ++ (beOf 8 g).map B8) ++ List.replicate 8 (Value.int .u8 0) ++ List.replicate 47 (Value.int .u8 0)) 89 :: diskR p ((D.write (at_ + 1 : Nat) l).sync) F27 :: Res.cell b2 [.int .i64 (st : Int), .slice a l.length cap] 55 :: Res.cell q [.pointer (some ⟨p, 0, none⟩), .int .i64 (from_ : Int), .int .i64 (each : Int), .int .i64 (gen : Int), .bool failed] 102 :: H) w, fun _ _ _ ⟨h, hi⟩ he => ⟨h, hi.ext he⟩⟩, ⟨fun vals w => vals = [.tuple #[]] ∧ Inv B (Res.cell b31 ((([B8 83] ++ (beOf 8 g).map B8) ++ (beOf 8 st).map B8) ++ List.replicate 4 (Value.int .u8 0) ++ List.replicate 43 (Value.int .u8 0)) 89 :: diskR p ((D.write (at_ + 1 : Nat) l).sync) F27 :: Res.cell b2 [.int .i64 (st : Int), .slice a l.length cap] 55 :: Res.cell q [.pointer (some ⟨p, 0, none⟩), .int .i64 (from_ : Int), .int .i64 (each : Int), .int .i64 (gen : Int), .bool failed] 102 :: H) w, fun _ _ _ ⟨h, hi⟩ he => ⟨h, hi.ext he⟩⟩] 86 rfl (by kernel_rfl) ⟨rfl, hv⟩ ⟨?_, ?_, ?_, ?_, ?_, trivial⟩ ?_
        · intro aa ww vals hJ hR
          exact add_step' rfl (Ex.adds' (ex_slice (lo' := (some (.int .i64 9))) (hi' := (some (.int .i64 17))) rfl (show aa.eval (.tmp 10) = _ from hR.keep 10 rfl) rfl rfl rfl (s3sb89_9_17 _ _ _)) (wn rfl) rfl)
        · intro aa ww vals hJ hR
          exact add_step' rfl (Ex.adds' (ex_field rfl (show aa.eval (.tmp 4) = _ from hR.keep 4 rfl) (s3fa55_0 _ _ _)) (wn rfl) rfl)
        · intro aa ww vals hJ hR
          have h2 : vals.length ≤ 0 := hR.hi 4 (by simp) rfl
          have hl : vals.length = 0 := by omega
          obtain ⟨hvals, hv⟩ := hJ.at0 hl
          exact add_step' rfl (Ex.adds' (ex_load rfl (show aa.eval (.tmp 54) = _ from hR.v 1 54 rfl rfl rfl rfl) (run_load1 s3na3 (hv.load 2 0 rfl rfl))) (wn rfl) rfl)
        · intro aa ww vals hJ hR
          exact add_step' rfl (Ex.adds' (ex_int (m := (st : Int)) Try.underlying3 Try.underlying114 rfl (show aa.eval (.tmp 55) = _ from hR.v 2 55 rfl rfl rfl rfl) (u64_in (by omega))) (wn rfl) rfl)
        · intro aa ww vals hJ hR
          refine mem_step' rfl fun hvl => ?_
          have hl : vals.length = 0 := hvl
          obtain ⟨hvals, hv⟩ := hJ.at0 hl
          refine stepMem_calls s3callable62 (wn rfl) rfl (args := #[.slice (some ⟨b31, 9, none⟩) 8 55, .int .u64 (st : Int)]) (by simp only [List.map_toArray, List.map_cons, List.map_nil]; rw [show aa.eval (.tmp 53) = .slice (some ⟨b31, 9, none⟩) 8 55 from hR.v 0 53 rfl rfl rfl rfl, show aa.eval (.tmp 56) = .int .u64 (st : Int) from hR.v 3 56 rfl rfl rfl rfl] <;> rfl) ((slotsPut _ _ _ b31 9 _ 8 (st) ([B8 83] ++ (beOf 8 g).map B8) (List.replicate 8 (Value.int .u8 0)) (List.replicate 47 (Value.int .u8 0)) _ (by simp [beOf_length]) List.length_replicate (by omega) (by omega) hv).mono ?_)
          rintro e w38 ⟨rfl, hv⟩
          rw [rep_split (Value.int .u8 0) 47 4 43 rfl, ← List.append_assoc] at hv
          refine ⟨_, rfl, JS.next hl ⟨by rw [hvals]; rfl, hv⟩⟩
        rintro w39 vals ⟨rfl, hv⟩
        rw [show mixV [4] [.tuple #[]] 0 [.slice (some ⟨b31, 9, none⟩) 8 55, .pointer (some ⟨b2, 0, none⟩), .int .i64 (st : Int), .int .u64 (st : Int), undef] = [.slice (some ⟨b31, 9, none⟩) 8 55, .pointer (some ⟨b2, 0, none⟩), .int .i64 (st : Int), .int .u64 (st : Int), .tuple #[]] from rfl]
        simp only [putAll, Act.put, List.setIfInBounds_toArray, List.set_cons_succ, List.set_cons_zero]
        refine then_normal (hK37 _ _ ?_)
        clear hK37 K37
        refine wpIn_seq_k (fun K40 hK40 => ?_)
        refine region_st mixed [.slice (some ⟨b31, 17, none⟩) 4 47, .pointer (some ⟨b2, 1, none⟩), .slice a l.length cap, .int .i64 (l.length : Int), .int .u64 (l.length : Int), undef] [5] [⟨fun vals w => vals = [] ∧ Inv B (Res.cell b31 ((([B8 83] ++ (beOf 8 g).map B8) ++ (beOf 8 st).map B8) ++ List.replicate 4 (Value.int .u8 0) ++ List.replicate 43 (Value.int .u8 0)) 89 :: diskR p ((D.write (at_ + 1 : Nat) l).sync) F27 :: Res.cell b2 [.int .i64 (st : Int), .slice a l.length cap] 55 :: Res.cell q [.pointer (some ⟨p, 0, none⟩), .int .i64 (from_ : Int), .int .i64 (each : Int), .int .i64 (gen : Int), .bool failed] 102 :: H) w, fun _ _ _ ⟨h, hi⟩ he => ⟨h, hi.ext he⟩⟩, ⟨fun vals w => vals = [.tuple #[]] ∧ Inv B (Res.cell b31 (((([B8 83] ++ (beOf 8 g).map B8) ++ (beOf 8 st).map B8) ++ (beOf 4 l.length).map B8) ++ List.replicate 4 (Value.int .u8 0) ++ List.replicate 39 (Value.int .u8 0)) 89 :: diskR p ((D.write (at_ + 1 : Nat) l).sync) F27 :: Res.cell b2 [.int .i64 (st : Int), .slice a l.length cap] 55 :: Res.cell q [.pointer (some ⟨p, 0, none⟩), .int .i64 (from_ : Int), .int .i64 (each : Int), .int .i64 (gen : Int), .bool failed] 102 :: H) w, fun _ _ _ ⟨h, hi⟩ he => ⟨h, hi.ext he⟩⟩] 86 rfl (by kernel_rfl) ⟨rfl, hv⟩ ⟨?_, ?_, ?_, ?_, ?_, ?_, trivial⟩ ?_
        · intro aa ww vals hJ hR
          exact add_step' rfl (Ex.adds' (ex_slice (lo' := (some (.int .i64 17))) (hi' := (some (.int .i64 21))) rfl (show aa.eval (.tmp 10) = _ from hR.keep 10 rfl) rfl rfl rfl (s3sb89_17_21 _ _ _)) (wn rfl) rfl)
        · intro aa ww vals hJ hR
          exact add_step' rfl (Ex.adds' (ex_field rfl (show aa.eval (.tmp 4) = _ from hR.keep 4 rfl) (s3fa55_1 _ _ _)) (wn rfl) rfl)
        · intro aa ww vals hJ hR
          have h2 : vals.length ≤ 0 := hR.hi 5 (by simp) rfl
          have hl : vals.length = 0 := by omega
          obtain ⟨hvals, hv⟩ := hJ.at0 hl
          exact add_step' rfl (Ex.adds' (ex_load rfl (show aa.eval (.tmp 59) = _ from hR.v 1 59 rfl rfl rfl rfl) (run_load1 s3na24 (hv.load 2 1 rfl rfl))) (wn rfl) rfl)
        · intro aa ww vals hJ hR
          exact add_step' rfl (Ex.adds' (ex_len0 Try.underlying24 rfl (show aa.eval (.tmp 60) = _ from hR.v 2 60 rfl rfl rfl rfl)) (wn rfl) rfl)
        · intro aa ww vals hJ hR
          exact add_step' rfl (Ex.adds' (ex_int (m := (l.length : Int)) Try.underlying3 Try.underlying114 rfl (show aa.eval (.tmp 61) = _ from hR.v 3 61 rfl rfl rfl rfl) (u64_in (by omega))) (wn rfl) rfl)
        · intro aa ww vals hJ hR
          refine mem_step' rfl fun hvl => ?_
          have hl : vals.length = 0 := hvl
          obtain ⟨hvals, hv⟩ := hJ.at0 hl
          refine stepMem_calls s3callable62 (wn rfl) rfl (args := #[.slice (some ⟨b31, 17, none⟩) 4 47, .int .u64 (l.length : Int)]) (by simp only [List.map_toArray, List.map_cons, List.map_nil]; rw [show aa.eval (.tmp 58) = .slice (some ⟨b31, 17, none⟩) 4 47 from hR.v 0 58 rfl rfl rfl rfl, show aa.eval (.tmp 62) = .int .u64 (l.length : Int) from hR.v 4 62 rfl rfl rfl rfl] <;> rfl) ((slotsPut _ _ _ b31 17 _ 4 (l.length) (([B8 83] ++ (beOf 8 g).map B8) ++ (beOf 8 st).map B8) (List.replicate 4 (Value.int .u8 0)) (List.replicate 43 (Value.int .u8 0)) _ (by simp [beOf_length]) List.length_replicate (by omega) (by omega) hv).mono ?_)
          rintro e w41 ⟨rfl, hv⟩
          rw [rep_split (Value.int .u8 0) 43 4 39 rfl, ← List.append_assoc] at hv
          refine ⟨_, rfl, JS.next hl ⟨by rw [hvals]; rfl, hv⟩⟩
        rintro w42 vals ⟨rfl, hv⟩
        rw [show mixV [5] [.tuple #[]] 0 [.slice (some ⟨b31, 17, none⟩) 4 47, .pointer (some ⟨b2, 1, none⟩), .slice a l.length cap, .int .i64 (l.length : Int), .int .u64 (l.length : Int), undef] = [.slice (some ⟨b31, 17, none⟩) 4 47, .pointer (some ⟨b2, 1, none⟩), .slice a l.length cap, .int .i64 (l.length : Int), .int .u64 (l.length : Int), .tuple #[]] from rfl]
        simp only [putAll, Act.put, List.setIfInBounds_toArray, List.set_cons_succ, List.set_cons_zero]
        refine then_normal (hK40 _ _ ?_)
        clear hK40 K40
        refine wpIn_seq_k (fun K43 hK43 => ?_)
        refine region_st mixed [.slice (some ⟨b31, 21, none⟩) 4 43, .pointer (some ⟨b2, 1, none⟩), .slice a l.length cap, undef, undef, .int .u64 (Crc.sum (l) : Int), undef] [3, 4, 6] [⟨fun vals w => vals = [] ∧ Inv B (Res.cell b31 (((([B8 83] ++ (beOf 8 g).map B8) ++ (beOf 8 st).map B8) ++ (beOf 4 l.length).map B8) ++ List.replicate 4 (Value.int .u8 0) ++ List.replicate 39 (Value.int .u8 0)) 89 :: diskR p ((D.write (at_ + 1 : Nat) l).sync) F27 :: Res.cell b2 [.int .i64 (st : Int), .slice a l.length cap] 55 :: Res.cell q [.pointer (some ⟨p, 0, none⟩), .int .i64 (from_ : Int), .int .i64 (each : Int), .int .i64 (gen : Int), .bool failed] 102 :: H) w, fun _ _ _ ⟨h, hi⟩ he => ⟨h, hi.ext he⟩⟩, ⟨fun vals w => ∃ b44, vals = [.slice (some ⟨b44, 0, none⟩) 1 1] ∧ Inv B (Res.cell b44 [.slice a l.length cap] 24 :: Res.cell b31 (((([B8 83] ++ (beOf 8 g).map B8) ++ (beOf 8 st).map B8) ++ (beOf 4 l.length).map B8) ++ List.replicate 4 (Value.int .u8 0) ++ List.replicate 39 (Value.int .u8 0)) 89 :: diskR p ((D.write (at_ + 1 : Nat) l).sync) F27 :: Res.cell b2 [.int .i64 (st : Int), .slice a l.length cap] 55 :: Res.cell q [.pointer (some ⟨p, 0, none⟩), .int .i64 (from_ : Int), .int .i64 (each : Int), .int .i64 (gen : Int), .bool failed] 102 :: H) w, fun _ _ _ ⟨b44, h, hi⟩ he => ⟨b44, h, hi.ext he⟩⟩, ⟨fun vals w => ∃ b44, vals = [.slice (some ⟨b44, 0, none⟩) 1 1, .int .u32 (Crc.sum (l) : Int)] ∧ Inv B (Res.cell b44 [.slice a l.length cap] 24 :: Res.cell b31 (((([B8 83] ++ (beOf 8 g).map B8) ++ (beOf 8 st).map B8) ++ (beOf 4 l.length).map B8) ++ List.replicate 4 (Value.int .u8 0) ++ List.replicate 39 (Value.int .u8 0)) 89 :: diskR p ((D.write (at_ + 1 : Nat) l).sync) F27 :: Res.cell b2 [.int .i64 (st : Int), .slice a l.length cap] 55 :: Res.cell q [.pointer (some ⟨p, 0, none⟩), .int .i64 (from_ : Int), .int .i64 (each : Int), .int .i64 (gen : Int), .bool failed] 102 :: H) w, fun _ _ _ ⟨b44, h, hi⟩ he => ⟨b44, h, hi.ext he⟩⟩, ⟨fun vals w => ∃ b44, vals = [.slice (some ⟨b44, 0, none⟩) 1 1, .int .u32 (Crc.sum (l) : Int), .tuple #[]] ∧ Inv B (Res.cell b31 ((headOf g st l).map B8) 89 :: Res.cell b44 [.slice a l.length cap] 24 :: diskR p ((D.write (at_ + 1 : Nat) l).sync) F27 :: Res.cell b2 [.int .i64 (st : Int), .slice a l.length cap] 55 :: Res.cell q [.pointer (some ⟨p, 0, none⟩), .int .i64 (from_ : Int), .int .i64 (each : Int), .int .i64 (gen : Int), .bool failed] 102 :: H) w, fun _ _ _ ⟨b44, h, hi⟩ he => ⟨b44, h, hi.ext he⟩⟩] 86 rfl (by kernel_rfl) ⟨rfl, hv⟩ ⟨?_, ?_, ?_, ?_, ?_, ?_, ?_, trivial⟩ ?_
        · intro aa ww vals hJ hR
          exact add_step' rfl (Ex.adds' (ex_slice (lo' := (some (.int .i64 21))) (hi' := (some (.int .i64 25))) rfl (show aa.eval (.tmp 10) = _ from hR.keep 10 rfl) rfl rfl rfl (s3sb89_21_25 _ _ _)) (wn rfl) rfl)
        · intro aa ww vals hJ hR
          exact add_step' rfl (Ex.adds' (ex_field rfl (show aa.eval (.tmp 4) = _ from hR.keep 4 rfl) (s3fa55_1 _ _ _)) (wn rfl) rfl)
        · intro aa ww vals hJ hR
          have h2 : vals.length ≤ 0 := hR.hi 3 (by simp) rfl
          have hl : vals.length = 0 := by omega
          obtain ⟨hvals, hv⟩ := hJ.at0 hl
          exact add_step' rfl (Ex.adds' (ex_load rfl (show aa.eval (.tmp 65) = _ from hR.v 1 65 rfl rfl rfl rfl) (run_load1 s3na24 (hv.load 2 1 rfl rfl))) (wn rfl) rfl)
        · intro aa ww vals hJ hR
          refine mem_step' rfl fun hvl => ?_
          have hl : vals.length = 0 := hvl
          obtain ⟨hvals, hv⟩ := hJ.at0 hl
          refine mem_row1 (v := .slice a l.length cap) (wn rfl) rfl (show aa.eval (.tmp 66) = _ from hR.v 2 66 rfl rfl rfl rfl) hv s3el22 rfl (fun b44 w45 hv => ?_)
          exact JS.next hl ⟨b44, by rw [hvals]; rfl, hv⟩
        · intro aa ww vals hJ hR
          refine mem_step' rfl fun hvl => ?_
          have hl : vals.length = 1 := hvl
          obtain ⟨b44, hvals, hv⟩ := hJ.at0 hl
          refine stepMem_calls s3callable15 (wn rfl) rfl (args := #[.slice (some ⟨b44, 0, none⟩) 1 1]) (by simp only [List.map_toArray, List.map_cons, List.map_nil]; rw [show aa.eval (.tmp 67) = .slice (some ⟨b44, 0, none⟩) 1 1 from (hR.val 3 67 rfl rfl rfl).trans (by rw [hvals]; rfl)] <;> rfl) ((crcSumSl _ _ _ _ _ _ _ (l) 0 hv rfl (hr.more (Base.Le.refl _) (fun r hr => List.mem_cons_of_mem _ (List.mem_cons_of_mem _ (List.mem_cons_of_mem _ (List.mem_cons_of_mem _ (List.mem_cons_of_mem _ (hr))))))) (rfl) (hok)).mono ?_)
          rintro e w46 ⟨rfl, hv⟩
          refine ⟨_, rfl, JS.next hl ⟨b44, by rw [hvals]; rfl, hv⟩⟩
        · intro aa ww vals hJ hR
          have h1 : 1 < vals.length := hR.lo 4 (by simp) rfl
          have h2 : vals.length ≤ 2 := hR.hi 6 (by simp) rfl
          have hl : vals.length = 2 := by omega
          obtain ⟨b44, hvals, hv⟩ := hJ.at0 hl
          exact add_step' rfl (Ex.adds' (ex_int (m := (Crc.sum (l) : Int)) Try.underlying25 Try.underlying114 rfl (show aa.eval (.tmp 68) = _ from (hR.val 4 68 rfl rfl rfl).trans (by rw [hvals]; rfl)) (u64_in (by omega))) (wn rfl) rfl)
        · intro aa ww vals hJ hR
          refine mem_step' rfl fun hvl => ?_
          have hl : vals.length = 2 := hvl
          obtain ⟨b44, hvals, hv⟩ := hJ.at0 hl
          replace hv := hv.front 1 rfl
          simp only [List.eraseIdx_cons_succ, List.eraseIdx_cons_zero] at hv
          refine stepMem_calls s3callable62 (wn rfl) rfl (args := #[.slice (some ⟨b31, 21, none⟩) 4 43, .int .u64 (Crc.sum (l) : Int)]) (by simp only [List.map_toArray, List.map_cons, List.map_nil]; rw [show aa.eval (.tmp 64) = .slice (some ⟨b31, 21, none⟩) 4 43 from hR.v 0 64 rfl rfl rfl rfl, show aa.eval (.tmp 69) = .int .u64 (Crc.sum (l) : Int) from hR.v 5 69 rfl rfl rfl rfl] <;> rfl) ((slotsPut _ _ _ b31 21 _ 4 (Crc.sum l) ((([B8 83] ++ (beOf 8 g).map B8) ++ (beOf 8 st).map B8) ++ (beOf 4 l.length).map B8) (List.replicate 4 (Value.int .u8 0)) (List.replicate 39 (Value.int .u8 0)) _ (by simp [beOf_length]) List.length_replicate (by omega) (by omega) hv).mono ?_)
          rintro e w47 ⟨rfl, hv⟩
          rw [head_map] at hv
          refine ⟨_, rfl, JS.next hl ⟨b44, by rw [hvals]; rfl, hv⟩⟩
        rintro w48 vals ⟨b44, rfl, hv⟩
        rw [show mixV [3, 4, 6] [.slice (some ⟨b44, 0, none⟩) 1 1, .int .u32 (Crc.sum (l) : Int), .tuple #[]] 0 [.slice (some ⟨b31, 21, none⟩) 4 43, .pointer (some ⟨b2, 1, none⟩), .slice a l.length cap, undef, undef, .int .u64 (Crc.sum (l) : Int), undef] = [.slice (some ⟨b31, 21, none⟩) 4 43, .pointer (some ⟨b2, 1, none⟩), .slice a l.length cap, .slice (some ⟨b44, 0, none⟩) 1 1, .int .u32 (Crc.sum (l) : Int), .int .u64 (Crc.sum (l) : Int), .tuple #[]] from rfl]
        simp only [putAll, Act.put, List.setIfInBounds_toArray, List.set_cons_succ, List.set_cons_zero]
        refine then_normal (hK43 _ _ ?_)
        clear hK43 K43
        refine wpIn_seq_k (fun K49 hK49 => ?_)
        refine wpIn_seq_k (fun K50 hK50 => ?_)
        by_cases hb51 : ((D.write (at_ + 1 : Nat) l).sync).left = 0
        · refine region_st mixed [.pointer (some ⟨q, 0, none⟩), .pointer (some ⟨q, 0, none⟩), .pointer (some ⟨q, 0, none⟩), .pointer (some ⟨p, 0, none⟩), .int .i64 (at_ : Int), .slice (some ⟨b31, 0, none⟩) 64 64, undef, .int .i64 20] [6] [⟨fun vals w => vals = [] ∧ Inv B (Res.cell b31 ((headOf g st l).map B8) 89 :: Res.cell b44 [.slice a l.length cap] 24 :: diskR p ((D.write (at_ + 1 : Nat) l).sync) F27 :: Res.cell b2 [.int .i64 (st : Int), .slice a l.length cap] 55 :: Res.cell q [.pointer (some ⟨p, 0, none⟩), .int .i64 (from_ : Int), .int .i64 (each : Int), .int .i64 (gen : Int), .bool failed] 102 :: H) w, fun _ _ _ ⟨h, hi⟩ he => ⟨h, hi.ext he⟩⟩, ⟨fun vals w => ∃ F52, vals = [.int .i64 20] ∧ Inv B (diskR p ((D.write (at_ + 1 : Nat) l).sync) F52 :: Res.cell b31 ((headOf g st l).map B8) 89 :: Res.cell b44 [.slice a l.length cap] 24 :: Res.cell b2 [.int .i64 (st : Int), .slice a l.length cap] 55 :: Res.cell q [.pointer (some ⟨p, 0, none⟩), .int .i64 (from_ : Int), .int .i64 (each : Int), .int .i64 (gen : Int), .bool failed] 102 :: H) w, fun _ _ _ ⟨F52, h, hi⟩ he => ⟨F52, h, hi.ext he⟩⟩] 86 rfl (by kernel_rfl) ⟨rfl, hv⟩ ⟨?_, ?_, ?_, ?_, ?_, ?_, ?_, ?_, trivial⟩ ?_
          · intro aa ww vals hJ hR
            exact add_step' rfl (Ex.adds' (ex_move rfl (show aa.eval (.tmp 0) = _ from hR.keep 0 rfl)) (wn rfl) rfl)
          · intro aa ww vals hJ hR
            exact add_step' rfl (Ex.adds' (ex_nil rfl (show aa.eval (.tmp 71) = _ from hR.v 0 71 rfl rfl rfl rfl)) (wn rfl) rfl)
          · intro aa ww vals hJ hR
            exact add_step' rfl (Ex.adds' (ex_field rfl (show aa.eval (.tmp 72) = _ from hR.v 1 72 rfl rfl rfl rfl) (s3fa102_0 _ _ _)) (wn rfl) rfl)
          · intro aa ww vals hJ hR
            have h2 : vals.length ≤ 0 := hR.hi 6 (by simp) rfl
            have hl : vals.length = 0 := by omega
            obtain ⟨hvals, hv⟩ := hJ.at0 hl
            exact add_step' rfl (Ex.adds' (ex_load rfl (show aa.eval (.tmp 73) = _ from hR.v 2 73 rfl rfl rfl rfl) (run_load1 s3na36 (hv.load 4 0 rfl rfl))) (wn rfl) rfl)
          · intro aa ww vals hJ hR
            exact add_step' rfl (Ex.adds' (ex_move rfl (show aa.eval (.tmp 7) = _ from hR.keep 7 rfl)) (wn rfl) rfl)
          · intro aa ww vals hJ hR
            exact add_step' rfl (Ex.adds' (ex_slice rfl (show aa.eval (.tmp 10) = _ from hR.keep 10 rfl) rfl rfl rfl (s3sa89 _ _ _)) (wn rfl) rfl)
          · intro aa ww vals hJ hR
            refine mem_step' rfl fun hvl => ?_
            have hl : vals.length = 0 := hvl
            obtain ⟨hvals, hv⟩ := hJ.at0 hl
            replace hv := hv.front 2 rfl
            simp only [List.eraseIdx_cons_succ, List.eraseIdx_cons_zero] at hv
            refine stepMem_calls s3callable22 (wn rfl) rfl (args := #[.pointer (some ⟨p, 0, none⟩), .int .i64 (at_ : Int), .slice (some ⟨b31, 0, none⟩) 64 64]) (by simp only [List.map_toArray, List.map_cons, List.map_nil]; rw [show aa.eval (.tmp 74) = .pointer (some ⟨p, 0, none⟩) from hR.v 3 74 rfl rfl rfl rfl, show aa.eval (.tmp 75) = .int .i64 (at_ : Int) from hR.v 4 75 rfl rfl rfl rfl, show aa.eval (.tmp 76) = .slice (some ⟨b31, 0, none⟩) 64 64 from hR.v 5 76 rfl rfl rfl rfl] <;> rfl) ((diskWriteOffSl _ _ _ p _ _ _ _ _ _ (headOf g st l) hv (by omega) (headOf_len _ _ _) (by omega) (has_of (by rw [nsec_head]; omega) (by rw [nsec_head]; simp only [write_dur, sync_dur, write_pend, sync_pend]; omega)) hb51).mono ?_)
            rintro e w53 ⟨F52, rfl, hv⟩
            refine ⟨_, rfl, JS.next hl ⟨F52, by rw [hvals]; rfl, hv⟩⟩
          · intro aa ww vals hJ hR
            have h1 : 0 < vals.length := hR.lo 6 (by simp) rfl
            have hl : vals.length = 1 := by have := JS.le (n := 1) (by rfl) hJ; omega
            obtain ⟨F52, hvals, hv⟩ := hJ.at0 hl
            exact add_step' rfl (Ex.adds' (ex_assign rfl (show aa.eval (.tmp 77) = _ from (hR.val 6 77 rfl rfl rfl).trans (by rw [hvals]; rfl))) (wn rfl) rfl)
          rintro w54 vals ⟨F52, rfl, hv⟩
          rw [show mixV [6] [.int .i64 20] 0 [.pointer (some ⟨q, 0, none⟩), .pointer (some ⟨q, 0, none⟩), .pointer (some ⟨q, 0, none⟩), .pointer (some ⟨p, 0, none⟩), .int .i64 (at_ : Int), .slice (some ⟨b31, 0, none⟩) 64 64, undef, .int .i64 20] = [.pointer (some ⟨q, 0, none⟩), .pointer (some ⟨q, 0, none⟩), .pointer (some ⟨q, 0, none⟩), .pointer (some ⟨p, 0, none⟩), .int .i64 (at_ : Int), .slice (some ⟨b31, 0, none⟩) 64 64, .int .i64 20, .int .i64 20] from rfl]
          simp only [putAll, Act.put, List.setIfInBounds_toArray, List.set_cons_succ, List.set_cons_zero]
          refine then_normal (hK50 _ _ ?_)
          clear hK50 K50
          refine wpIn_seq_k (fun K55 hK55 => ?_)
          refine wpIn_region_lit ?_
          refine wpi_exG (v := .int .i64 20) (fun _ => trivial) (wn rfl) rfl (ex_move rfl rfl) ?_
          refine wpi_exG (v := .bool true) (fun _ => trivial) (wn rfl) rfl (ex_neq (k := .i64) (m := 20) (n := 0) rfl rfl rfl (by decide)) ?_
          refine wpListIn_nil ?_
          simp only [Act.put, List.setIfInBounds_toArray, List.set_cons_succ, List.set_cons_zero]
          refine then_normal (hK55 _ _ ?_)
          clear hK55 K55
          refine wpIn_cond_true rfl ?_
          refine wpIn_seq_k (fun K56 hK56 => ?_)
          refine wpIn_region_lit ?_
          refine wpi_exG (v := .int .i64 20) (fun _ => trivial) (wn rfl) rfl (ex_move rfl rfl) ?_
          refine wpi_exG (v := .int .i64 20) (fun _ => trivial) (wn rfl) rfl (ex_assign rfl rfl) ?_
          refine wpListIn_nil ?_
          simp only [Act.put, List.setIfInBounds_toArray, List.set_cons_succ, List.set_cons_zero]
          refine then_normal (hK56 _ _ ?_)
          clear hK56 K56
          refine wpIn_ret ?_
          refine then_ret ?_
          clear hK49 K49
          refine bodyPost_ret (results_tmp rfl _ _ _) rfl ?_
          have hres : putAll' D at_ l (headOf g st l) = (20, (D.write (at_ + 1 : Nat) l).sync) := by
            simp only [putAll', putHead, if_neg (show ¬ l.length = 0 by omega), if_neg hb11, if_neg hl22, if_pos hb51]
          rw [hres]
          exact ⟨_, rfl, ((hv.front 4 rfl).sub (List.Sublist.cons_cons _ (List.Sublist.cons_cons _ (List.Sublist.cons _ (List.Sublist.cons _ (List.Sublist.cons _ (List.Sublist.refl _)))))))⟩
        · refine region_st mixed [.pointer (some ⟨q, 0, none⟩), .pointer (some ⟨q, 0, none⟩), .pointer (some ⟨q, 0, none⟩), .pointer (some ⟨p, 0, none⟩), .int .i64 (at_ : Int), .slice (some ⟨b31, 0, none⟩) 64 64, undef, .int .i64 0] [6] [⟨fun vals w => vals = [] ∧ Inv B (Res.cell b31 ((headOf g st l).map B8) 89 :: Res.cell b44 [.slice a l.length cap] 24 :: diskR p ((D.write (at_ + 1 : Nat) l).sync) F27 :: Res.cell b2 [.int .i64 (st : Int), .slice a l.length cap] 55 :: Res.cell q [.pointer (some ⟨p, 0, none⟩), .int .i64 (from_ : Int), .int .i64 (each : Int), .int .i64 (gen : Int), .bool failed] 102 :: H) w, fun _ _ _ ⟨h, hi⟩ he => ⟨h, hi.ext he⟩⟩, ⟨fun vals w => ∃ F57, vals = [.int .i64 0] ∧ Inv B (diskR p (((D.write (at_ + 1 : Nat) l).sync).write at_ (headOf g st l)) F57 :: Res.cell b31 ((headOf g st l).map B8) 89 :: Res.cell b44 [.slice a l.length cap] 24 :: Res.cell b2 [.int .i64 (st : Int), .slice a l.length cap] 55 :: Res.cell q [.pointer (some ⟨p, 0, none⟩), .int .i64 (from_ : Int), .int .i64 (each : Int), .int .i64 (gen : Int), .bool failed] 102 :: H) w, fun _ _ _ ⟨F57, h, hi⟩ he => ⟨F57, h, hi.ext he⟩⟩] 86 rfl (by kernel_rfl) ⟨rfl, hv⟩ ⟨?_, ?_, ?_, ?_, ?_, ?_, ?_, ?_, trivial⟩ ?_
          · intro aa ww vals hJ hR
            exact add_step' rfl (Ex.adds' (ex_move rfl (show aa.eval (.tmp 0) = _ from hR.keep 0 rfl)) (wn rfl) rfl)
          · intro aa ww vals hJ hR
            exact add_step' rfl (Ex.adds' (ex_nil rfl (show aa.eval (.tmp 71) = _ from hR.v 0 71 rfl rfl rfl rfl)) (wn rfl) rfl)
          · intro aa ww vals hJ hR
            exact add_step' rfl (Ex.adds' (ex_field rfl (show aa.eval (.tmp 72) = _ from hR.v 1 72 rfl rfl rfl rfl) (s3fa102_0 _ _ _)) (wn rfl) rfl)
          · intro aa ww vals hJ hR
            have h2 : vals.length ≤ 0 := hR.hi 6 (by simp) rfl
            have hl : vals.length = 0 := by omega
            obtain ⟨hvals, hv⟩ := hJ.at0 hl
            exact add_step' rfl (Ex.adds' (ex_load rfl (show aa.eval (.tmp 73) = _ from hR.v 2 73 rfl rfl rfl rfl) (run_load1 s3na36 (hv.load 4 0 rfl rfl))) (wn rfl) rfl)
          · intro aa ww vals hJ hR
            exact add_step' rfl (Ex.adds' (ex_move rfl (show aa.eval (.tmp 7) = _ from hR.keep 7 rfl)) (wn rfl) rfl)
          · intro aa ww vals hJ hR
            exact add_step' rfl (Ex.adds' (ex_slice rfl (show aa.eval (.tmp 10) = _ from hR.keep 10 rfl) rfl rfl rfl (s3sa89 _ _ _)) (wn rfl) rfl)
          · intro aa ww vals hJ hR
            refine mem_step' rfl fun hvl => ?_
            have hl : vals.length = 0 := hvl
            obtain ⟨hvals, hv⟩ := hJ.at0 hl
            replace hv := hv.front 2 rfl
            simp only [List.eraseIdx_cons_succ, List.eraseIdx_cons_zero] at hv
            refine stepMem_calls s3callable22 (wn rfl) rfl (args := #[.pointer (some ⟨p, 0, none⟩), .int .i64 (at_ : Int), .slice (some ⟨b31, 0, none⟩) 64 64]) (by simp only [List.map_toArray, List.map_cons, List.map_nil]; rw [show aa.eval (.tmp 74) = .pointer (some ⟨p, 0, none⟩) from hR.v 3 74 rfl rfl rfl rfl, show aa.eval (.tmp 75) = .int .i64 (at_ : Int) from hR.v 4 75 rfl rfl rfl rfl, show aa.eval (.tmp 76) = .slice (some ⟨b31, 0, none⟩) 64 64 from hR.v 5 76 rfl rfl rfl rfl] <;> rfl) ((diskWriteSl _ _ _ p _ _ at_ _ _ _ (headOf g st l) hv (headOf_len _ _ _) (ok_full (by omega)) (rd_own 0 rfl) (has_of (by rw [nsec_head]; omega) (by rw [nsec_head]; simp only [write_dur, sync_dur, write_pend, sync_pend]; omega)) hb51 (by simp only [write_dur, sync_dur, write_pend, sync_pend]; omega)).mono ?_)
            rintro e w58 ⟨F57, rfl, hv⟩
            refine ⟨_, rfl, JS.next hl ⟨F57, by rw [hvals]; rfl, hv⟩⟩
          · intro aa ww vals hJ hR
            have h1 : 0 < vals.length := hR.lo 6 (by simp) rfl
            have hl : vals.length = 1 := by have := JS.le (n := 1) (by rfl) hJ; omega
            obtain ⟨F57, hvals, hv⟩ := hJ.at0 hl
            exact add_step' rfl (Ex.adds' (ex_assign rfl (show aa.eval (.tmp 77) = _ from (hR.val 6 77 rfl rfl rfl).trans (by rw [hvals]; rfl))) (wn rfl) rfl)
          rintro w59 vals ⟨F57, rfl, hv⟩
          rw [show mixV [6] [.int .i64 0] 0 [.pointer (some ⟨q, 0, none⟩), .pointer (some ⟨q, 0, none⟩), .pointer (some ⟨q, 0, none⟩), .pointer (some ⟨p, 0, none⟩), .int .i64 (at_ : Int), .slice (some ⟨b31, 0, none⟩) 64 64, undef, .int .i64 0] = [.pointer (some ⟨q, 0, none⟩), .pointer (some ⟨q, 0, none⟩), .pointer (some ⟨q, 0, none⟩), .pointer (some ⟨p, 0, none⟩), .int .i64 (at_ : Int), .slice (some ⟨b31, 0, none⟩) 64 64, .int .i64 0, .int .i64 0] from rfl]
          simp only [putAll, Act.put, List.setIfInBounds_toArray, List.set_cons_succ, List.set_cons_zero]
          refine then_normal (hK50 _ _ ?_)
          clear hK50 K50
          refine wpIn_seq_k (fun K60 hK60 => ?_)
          refine wpIn_region_lit ?_
          refine wpi_exG (v := .int .i64 0) (fun _ => trivial) (wn rfl) rfl (ex_move rfl rfl) ?_
          refine wpi_exG (v := .bool false) (fun _ => trivial) (wn rfl) rfl (ex_neq (k := .i64) (m := 0) (n := 0) rfl rfl rfl (by decide)) ?_
          refine wpListIn_nil ?_
          simp only [Act.put, List.setIfInBounds_toArray, List.set_cons_succ, List.set_cons_zero]
          refine then_normal (hK60 _ _ ?_)
          clear hK60 K60
          refine wpIn_cond_false rfl ?_
          refine wpIn_skip ?_
          refine then_normal (hK49 _ _ ?_)
          clear hK49 K49
          refine wpIn_seq_k (fun K61 hK61 => ?_)
          refine wpIn_region_lit ?_
          refine wpi_exG (v := .pointer (some ⟨q, 0, none⟩)) (fun _ => trivial) (wn rfl) rfl (ex_move rfl rfl) ?_
          refine wpi_exG (v := .pointer (some ⟨q, 0, none⟩)) (fun _ => trivial) (wn rfl) rfl (ex_nil rfl rfl) ?_
          refine wpi_exG (v := .pointer (some ⟨q, 0, none⟩)) (fun _ => trivial) (wn rfl) rfl (ex_field rfl rfl (s3fa102_0 _ _ _)) ?_
          simp only [Act.put, List.setIfInBounds_toArray, List.set_cons_succ, List.set_cons_zero]
          refine wpi_exG (v := .pointer (some ⟨p, 0, none⟩)) (fun _ => trivial) (wn rfl) rfl (ex_load rfl rfl (run_load1 s3na36 (hv.load 4 0 rfl rfl))) ?_
          by_cases hl62 : (((D.write (at_ + 1 : Nat) l).sync).write at_ (headOf g st l)).left = 0
          · refine wpi_callG s3callable24 (fun _ => trivial) wideC rfl (wn rfl) rfl (args := #[.pointer (some ⟨p, 0, none⟩)]) (by simp only [List.map_toArray, List.map_cons, List.map_nil]; rfl) ((diskSyncOffSl _ _ _ p _ _ hv hl62).mono ?_)
            rintro e w64 ⟨F63, rfl, hv⟩
            refine ⟨_, rfl, ?_⟩
            refine wpi_exG (v := .int .i64 20) (fun _ => trivial) (wn rfl) rfl (ex_assign rfl rfl) ?_
            refine wpListIn_nil ?_
            simp only [Act.put, List.setIfInBounds_toArray, List.set_cons_succ, List.set_cons_zero]
            refine then_normal (hK61 _ _ ?_)
            clear hK61 K61
            refine wpIn_ret ?_
            refine bodyPost_ret (results_tmp rfl _ _ _) rfl ?_
            have hres : putAll' D at_ l (headOf g st l) = (20, ((D.write (at_ + 1 : Nat) l).sync).write at_ (headOf g st l)) := by
              simp only [putAll', putHead, if_neg (show ¬ l.length = 0 by omega), if_neg hb11, if_neg hl22, if_neg hb51, if_pos hl62]
            rw [hres]
            exact ⟨_, rfl, ((hv.front 4 rfl).sub (List.Sublist.cons_cons _ (List.Sublist.cons_cons _ (List.Sublist.cons _ (List.Sublist.cons _ (List.Sublist.cons _ (List.Sublist.refl _)))))))⟩
          · refine wpi_callG s3callable24 (fun _ => trivial) wideC rfl (wn rfl) rfl (args := #[.pointer (some ⟨p, 0, none⟩)]) (by simp only [List.map_toArray, List.map_cons, List.map_nil]; rfl) ((diskSyncSl _ _ _ p _ _ hv hl62 (by simp only [write_dur, sync_dur, write_pend, sync_pend, nsec_head]; omega)).mono ?_)
            rintro e w66 ⟨F65, rfl, hv⟩
            refine ⟨_, rfl, ?_⟩
            refine wpi_exG (v := .int .i64 0) (fun _ => trivial) (wn rfl) rfl (ex_assign rfl rfl) ?_
            refine wpListIn_nil ?_
            simp only [Act.put, List.setIfInBounds_toArray, List.set_cons_succ, List.set_cons_zero]
            refine then_normal (hK61 _ _ ?_)
            clear hK61 K61
            refine wpIn_ret ?_
            refine bodyPost_ret (results_tmp rfl _ _ _) rfl ?_
            have hres : putAll' D at_ l (headOf g st l) = (0, (((D.write (at_ + 1 : Nat) l).sync).write at_ (headOf g st l)).sync) := by
              simp only [putAll', putHead, if_neg (show ¬ l.length = 0 by omega), if_neg hb11, if_neg hl22, if_neg hb51, if_neg hl62]
            rw [hres]
            exact ⟨_, rfl, ((hv.front 4 rfl).sub (List.Sublist.cons_cons _ (List.Sublist.cons_cons _ (List.Sublist.cons _ (List.Sublist.cons _ (List.Sublist.cons _ (List.Sublist.refl _)))))))⟩
  · refine wpi_exG (v := .bool false) (fun _ => trivial) (wn rfl) rfl (ex_gtr (k := .i64) (m := (l.length : Int)) (n := 0) rfl rfl rfl (decide_eq_false hb8)) ?_
    refine wpListIn_nil ?_
    simp only [Act.put, List.setIfInBounds_toArray, List.set_cons_succ, List.set_cons_zero]
    refine then_normal (hK7 _ _ ?_)
    clear hK7 K7
    refine wpIn_cond_false rfl ?_
    refine wpIn_skip ?_
    refine then_normal (hK6 _ _ ?_)
    clear hK6 K6
    refine wpIn_seq_k (fun K67 hK67 => ?_)
    refine wpIn_region_lit ?_
    refine sl_alloc (fun _ => trivial) (wn rfl) rfl hv s3al89 (fun b68 w69 hv => ?_)
    refine wpListIn_nil ?_
    simp only [Act.put, List.setIfInBounds_toArray, List.set_cons_succ, List.set_cons_zero]
    refine then_normal (hK67 _ _ ?_)
    clear hK67 K67
    refine wpIn_seq_k (fun K70 hK70 => ?_)
    refine wpIn_region_lit ?_
    refine wpi_exG (v := .pointer (some ⟨b68, 0 + 0, none⟩)) (fun _ => trivial) (wn rfl) rfl (ex_index rfl rfl rfl (run_idxA1 (k := 0) s3ua89 s3ea89 (by omega))) ?_
    rw [zeros64] at hv
    refine sl_storeAt 0 (v := .int .u8 83) (L' := [B8 83] ++ List.replicate 8 (Value.int .u8 0) ++ List.replicate 55 (Value.int .u8 0)) (fun _ => trivial) (wn rfl) rfl rfl rfl hv rfl s3sz5 (by rw [List.length_replicate]; decide) rfl rfl rfl (fun w71 hv => ?_)
    simp only [List.set_cons_succ, List.set_cons_zero] at hv
    refine wpListIn_nil ?_
    simp only [Act.put, List.setIfInBounds_toArray, List.set_cons_succ, List.set_cons_zero]
    refine then_normal (hK70 _ _ ?_)
    clear hK70 K70
    refine wpIn_seq_k (fun K72 hK72 => ?_)
    refine wpIn_region_lit ?_
    refine wpi_exG (v := .slice (some ⟨b68, 1, none⟩) 8 63) (fun _ => trivial) (wn rfl) rfl (ex_slice (lo' := (some (.int .i64 1))) (hi' := (some (.int .i64 9))) rfl rfl rfl rfl rfl (s3sb89_1_9 _ _ _)) ?_
    refine wpi_exG (v := .int .i64 (g : Int)) (fun _ => trivial) (wn rfl) rfl (ex_move rfl rfl) ?_
    refine wpi_exG (v := .int .u64 (g : Int)) (fun _ => trivial) (wn rfl) rfl (ex_int (m := (g : Int)) Try.underlying3 Try.underlying114 rfl rfl (u64_in (by omega))) ?_
    simp only [Act.put, List.setIfInBounds_toArray, List.set_cons_succ, List.set_cons_zero]
    refine wpi_callG s3callable62 (fun _ => trivial) wideC rfl (wn rfl) rfl (args := #[.slice (some ⟨b68, 1, none⟩) 8 63, .int .u64 (g : Int)]) (by simp only [List.map_toArray, List.map_cons, List.map_nil]; rfl) ((slotsPut _ _ _ b68 1 _ 8 (g) ([B8 83]) (List.replicate 8 (Value.int .u8 0)) (List.replicate 55 (Value.int .u8 0)) _ (by simp [beOf_length]) List.length_replicate (by omega) (by omega) hv).mono ?_)
    rintro e w73 ⟨rfl, hv⟩
    refine ⟨_, rfl, ?_⟩
    rw [rep_split (Value.int .u8 0) 55 8 47 rfl, ← List.append_assoc] at hv
    refine wpListIn_nil ?_
    simp only [Act.put, List.setIfInBounds_toArray, List.set_cons_succ, List.set_cons_zero]
    refine then_normal (hK72 _ _ ?_)
    clear hK72 K72
    refine wpIn_seq_k (fun K74 hK74 => ?_)
    refine region_st mixed [.slice (some ⟨b68, 9, none⟩) 8 55, .pointer (some ⟨b2, 0, none⟩), .int .i64 (st : Int), .int .u64 (st : Int), undef] [4] [⟨fun vals w => vals = [] ∧ Inv B (Res.cell b68 (([B8 83] ++ (beOf 8 g).map B8) ++ List.replicate 8 (Value.int .u8 0) ++ List.replicate 47 (Value.int .u8 0)) 89 :: Res.cell b2 [.int .i64 (st : Int), .slice a l.length cap] 55 :: Res.cell q [.pointer (some ⟨p, 0, none⟩), .int .i64 (from_ : Int), .int .i64 (each : Int), .int .i64 (gen : Int), .bool failed] 102 :: diskR p D F :: H) w, fun _ _ _ ⟨h, hi⟩ he => ⟨h, hi.ext he⟩⟩, ⟨fun vals w => vals = [.tuple #[]] ∧ Inv B (Res.cell b68 ((([B8 83] ++ (beOf 8 g).map B8) ++ (beOf 8 st).map B8) ++ List.replicate 4 (Value.int .u8 0) ++ List.replicate 43 (Value.int .u8 0)) 89 :: Res.cell b2 [.int .i64 (st : Int), .slice a l.length cap] 55 :: Res.cell q [.pointer (some ⟨p, 0, none⟩), .int .i64 (from_ : Int), .int .i64 (each : Int), .int .i64 (gen : Int), .bool failed] 102 :: diskR p D F :: H) w, fun _ _ _ ⟨h, hi⟩ he => ⟨h, hi.ext he⟩⟩] 86 rfl (by kernel_rfl) ⟨rfl, hv⟩ ⟨?_, ?_, ?_, ?_, ?_, trivial⟩ ?_
    · intro aa ww vals hJ hR
      exact add_step' rfl (Ex.adds' (ex_slice (lo' := (some (.int .i64 9))) (hi' := (some (.int .i64 17))) rfl (show aa.eval (.tmp 10) = _ from hR.keep 10 rfl) rfl rfl rfl (s3sb89_9_17 _ _ _)) (wn rfl) rfl)
    · intro aa ww vals hJ hR
      exact add_step' rfl (Ex.adds' (ex_field rfl (show aa.eval (.tmp 4) = _ from hR.keep 4 rfl) (s3fa55_0 _ _ _)) (wn rfl) rfl)
    · intro aa ww vals hJ hR
      have h2 : vals.length ≤ 0 := hR.hi 4 (by simp) rfl
      have hl : vals.length = 0 := by omega
      obtain ⟨hvals, hv⟩ := hJ.at0 hl
      exact add_step' rfl (Ex.adds' (ex_load rfl (show aa.eval (.tmp 54) = _ from hR.v 1 54 rfl rfl rfl rfl) (run_load1 s3na3 (hv.load 1 0 rfl rfl))) (wn rfl) rfl)
    · intro aa ww vals hJ hR
      exact add_step' rfl (Ex.adds' (ex_int (m := (st : Int)) Try.underlying3 Try.underlying114 rfl (show aa.eval (.tmp 55) = _ from hR.v 2 55 rfl rfl rfl rfl) (u64_in (by omega))) (wn rfl) rfl)
    · intro aa ww vals hJ hR
      refine mem_step' rfl fun hvl => ?_
      have hl : vals.length = 0 := hvl
      obtain ⟨hvals, hv⟩ := hJ.at0 hl
      refine stepMem_calls s3callable62 (wn rfl) rfl (args := #[.slice (some ⟨b68, 9, none⟩) 8 55, .int .u64 (st : Int)]) (by simp only [List.map_toArray, List.map_cons, List.map_nil]; rw [show aa.eval (.tmp 53) = .slice (some ⟨b68, 9, none⟩) 8 55 from hR.v 0 53 rfl rfl rfl rfl, show aa.eval (.tmp 56) = .int .u64 (st : Int) from hR.v 3 56 rfl rfl rfl rfl] <;> rfl) ((slotsPut _ _ _ b68 9 _ 8 (st) ([B8 83] ++ (beOf 8 g).map B8) (List.replicate 8 (Value.int .u8 0)) (List.replicate 47 (Value.int .u8 0)) _ (by simp [beOf_length]) List.length_replicate (by omega) (by omega) hv).mono ?_)
      rintro e w75 ⟨rfl, hv⟩
      rw [rep_split (Value.int .u8 0) 47 4 43 rfl, ← List.append_assoc] at hv
      refine ⟨_, rfl, JS.next hl ⟨by rw [hvals]; rfl, hv⟩⟩
    rintro w76 vals ⟨rfl, hv⟩
    rw [show mixV [4] [.tuple #[]] 0 [.slice (some ⟨b68, 9, none⟩) 8 55, .pointer (some ⟨b2, 0, none⟩), .int .i64 (st : Int), .int .u64 (st : Int), undef] = [.slice (some ⟨b68, 9, none⟩) 8 55, .pointer (some ⟨b2, 0, none⟩), .int .i64 (st : Int), .int .u64 (st : Int), .tuple #[]] from rfl]
    simp only [putAll, Act.put, List.setIfInBounds_toArray, List.set_cons_succ, List.set_cons_zero]
    refine then_normal (hK74 _ _ ?_)
    clear hK74 K74
    refine wpIn_seq_k (fun K77 hK77 => ?_)
    refine region_st mixed [.slice (some ⟨b68, 17, none⟩) 4 47, .pointer (some ⟨b2, 1, none⟩), .slice a l.length cap, .int .i64 (l.length : Int), .int .u64 (l.length : Int), undef] [5] [⟨fun vals w => vals = [] ∧ Inv B (Res.cell b68 ((([B8 83] ++ (beOf 8 g).map B8) ++ (beOf 8 st).map B8) ++ List.replicate 4 (Value.int .u8 0) ++ List.replicate 43 (Value.int .u8 0)) 89 :: Res.cell b2 [.int .i64 (st : Int), .slice a l.length cap] 55 :: Res.cell q [.pointer (some ⟨p, 0, none⟩), .int .i64 (from_ : Int), .int .i64 (each : Int), .int .i64 (gen : Int), .bool failed] 102 :: diskR p D F :: H) w, fun _ _ _ ⟨h, hi⟩ he => ⟨h, hi.ext he⟩⟩, ⟨fun vals w => vals = [.tuple #[]] ∧ Inv B (Res.cell b68 (((([B8 83] ++ (beOf 8 g).map B8) ++ (beOf 8 st).map B8) ++ (beOf 4 l.length).map B8) ++ List.replicate 4 (Value.int .u8 0) ++ List.replicate 39 (Value.int .u8 0)) 89 :: Res.cell b2 [.int .i64 (st : Int), .slice a l.length cap] 55 :: Res.cell q [.pointer (some ⟨p, 0, none⟩), .int .i64 (from_ : Int), .int .i64 (each : Int), .int .i64 (gen : Int), .bool failed] 102 :: diskR p D F :: H) w, fun _ _ _ ⟨h, hi⟩ he => ⟨h, hi.ext he⟩⟩] 86 rfl (by kernel_rfl) ⟨rfl, hv⟩ ⟨?_, ?_, ?_, ?_, ?_, ?_, trivial⟩ ?_
    · intro aa ww vals hJ hR
      exact add_step' rfl (Ex.adds' (ex_slice (lo' := (some (.int .i64 17))) (hi' := (some (.int .i64 21))) rfl (show aa.eval (.tmp 10) = _ from hR.keep 10 rfl) rfl rfl rfl (s3sb89_17_21 _ _ _)) (wn rfl) rfl)
    · intro aa ww vals hJ hR
      exact add_step' rfl (Ex.adds' (ex_field rfl (show aa.eval (.tmp 4) = _ from hR.keep 4 rfl) (s3fa55_1 _ _ _)) (wn rfl) rfl)
    · intro aa ww vals hJ hR
      have h2 : vals.length ≤ 0 := hR.hi 5 (by simp) rfl
      have hl : vals.length = 0 := by omega
      obtain ⟨hvals, hv⟩ := hJ.at0 hl
      exact add_step' rfl (Ex.adds' (ex_load rfl (show aa.eval (.tmp 59) = _ from hR.v 1 59 rfl rfl rfl rfl) (run_load1 s3na24 (hv.load 1 1 rfl rfl))) (wn rfl) rfl)
    · intro aa ww vals hJ hR
      exact add_step' rfl (Ex.adds' (ex_len0 Try.underlying24 rfl (show aa.eval (.tmp 60) = _ from hR.v 2 60 rfl rfl rfl rfl)) (wn rfl) rfl)
    · intro aa ww vals hJ hR
      exact add_step' rfl (Ex.adds' (ex_int (m := (l.length : Int)) Try.underlying3 Try.underlying114 rfl (show aa.eval (.tmp 61) = _ from hR.v 3 61 rfl rfl rfl rfl) (u64_in (by omega))) (wn rfl) rfl)
    · intro aa ww vals hJ hR
      refine mem_step' rfl fun hvl => ?_
      have hl : vals.length = 0 := hvl
      obtain ⟨hvals, hv⟩ := hJ.at0 hl
      refine stepMem_calls s3callable62 (wn rfl) rfl (args := #[.slice (some ⟨b68, 17, none⟩) 4 47, .int .u64 (l.length : Int)]) (by simp only [List.map_toArray, List.map_cons, List.map_nil]; rw [show aa.eval (.tmp 58) = .slice (some ⟨b68, 17, none⟩) 4 47 from hR.v 0 58 rfl rfl rfl rfl, show aa.eval (.tmp 62) = .int .u64 (l.length : Int) from hR.v 4 62 rfl rfl rfl rfl] <;> rfl) ((slotsPut _ _ _ b68 17 _ 4 (l.length) (([B8 83] ++ (beOf 8 g).map B8) ++ (beOf 8 st).map B8) (List.replicate 4 (Value.int .u8 0)) (List.replicate 43 (Value.int .u8 0)) _ (by simp [beOf_length]) List.length_replicate (by omega) (by omega) hv).mono ?_)
      rintro e w78 ⟨rfl, hv⟩
      rw [rep_split (Value.int .u8 0) 43 4 39 rfl, ← List.append_assoc] at hv
      refine ⟨_, rfl, JS.next hl ⟨by rw [hvals]; rfl, hv⟩⟩
    rintro w79 vals ⟨rfl, hv⟩
    rw [show mixV [5] [.tuple #[]] 0 [.slice (some ⟨b68, 17, none⟩) 4 47, .pointer (some ⟨b2, 1, none⟩), .slice a l.length cap, .int .i64 (l.length : Int), .int .u64 (l.length : Int), undef] = [.slice (some ⟨b68, 17, none⟩) 4 47, .pointer (some ⟨b2, 1, none⟩), .slice a l.length cap, .int .i64 (l.length : Int), .int .u64 (l.length : Int), .tuple #[]] from rfl]
    simp only [putAll, Act.put, List.setIfInBounds_toArray, List.set_cons_succ, List.set_cons_zero]
    refine then_normal (hK77 _ _ ?_)
    clear hK77 K77
    refine wpIn_seq_k (fun K80 hK80 => ?_)
    refine region_st mixed [.slice (some ⟨b68, 21, none⟩) 4 43, .pointer (some ⟨b2, 1, none⟩), .slice a l.length cap, undef, undef, .int .u64 (Crc.sum (l) : Int), undef] [3, 4, 6] [⟨fun vals w => vals = [] ∧ Inv B (Res.cell b68 (((([B8 83] ++ (beOf 8 g).map B8) ++ (beOf 8 st).map B8) ++ (beOf 4 l.length).map B8) ++ List.replicate 4 (Value.int .u8 0) ++ List.replicate 39 (Value.int .u8 0)) 89 :: Res.cell b2 [.int .i64 (st : Int), .slice a l.length cap] 55 :: Res.cell q [.pointer (some ⟨p, 0, none⟩), .int .i64 (from_ : Int), .int .i64 (each : Int), .int .i64 (gen : Int), .bool failed] 102 :: diskR p D F :: H) w, fun _ _ _ ⟨h, hi⟩ he => ⟨h, hi.ext he⟩⟩, ⟨fun vals w => ∃ b81, vals = [.slice (some ⟨b81, 0, none⟩) 1 1] ∧ Inv B (Res.cell b81 [.slice a l.length cap] 24 :: Res.cell b68 (((([B8 83] ++ (beOf 8 g).map B8) ++ (beOf 8 st).map B8) ++ (beOf 4 l.length).map B8) ++ List.replicate 4 (Value.int .u8 0) ++ List.replicate 39 (Value.int .u8 0)) 89 :: Res.cell b2 [.int .i64 (st : Int), .slice a l.length cap] 55 :: Res.cell q [.pointer (some ⟨p, 0, none⟩), .int .i64 (from_ : Int), .int .i64 (each : Int), .int .i64 (gen : Int), .bool failed] 102 :: diskR p D F :: H) w, fun _ _ _ ⟨b81, h, hi⟩ he => ⟨b81, h, hi.ext he⟩⟩, ⟨fun vals w => ∃ b81, vals = [.slice (some ⟨b81, 0, none⟩) 1 1, .int .u32 (Crc.sum (l) : Int)] ∧ Inv B (Res.cell b81 [.slice a l.length cap] 24 :: Res.cell b68 (((([B8 83] ++ (beOf 8 g).map B8) ++ (beOf 8 st).map B8) ++ (beOf 4 l.length).map B8) ++ List.replicate 4 (Value.int .u8 0) ++ List.replicate 39 (Value.int .u8 0)) 89 :: Res.cell b2 [.int .i64 (st : Int), .slice a l.length cap] 55 :: Res.cell q [.pointer (some ⟨p, 0, none⟩), .int .i64 (from_ : Int), .int .i64 (each : Int), .int .i64 (gen : Int), .bool failed] 102 :: diskR p D F :: H) w, fun _ _ _ ⟨b81, h, hi⟩ he => ⟨b81, h, hi.ext he⟩⟩, ⟨fun vals w => ∃ b81, vals = [.slice (some ⟨b81, 0, none⟩) 1 1, .int .u32 (Crc.sum (l) : Int), .tuple #[]] ∧ Inv B (Res.cell b68 ((headOf g st l).map B8) 89 :: Res.cell b81 [.slice a l.length cap] 24 :: Res.cell b2 [.int .i64 (st : Int), .slice a l.length cap] 55 :: Res.cell q [.pointer (some ⟨p, 0, none⟩), .int .i64 (from_ : Int), .int .i64 (each : Int), .int .i64 (gen : Int), .bool failed] 102 :: diskR p D F :: H) w, fun _ _ _ ⟨b81, h, hi⟩ he => ⟨b81, h, hi.ext he⟩⟩] 86 rfl (by kernel_rfl) ⟨rfl, hv⟩ ⟨?_, ?_, ?_, ?_, ?_, ?_, ?_, trivial⟩ ?_
    · intro aa ww vals hJ hR
      exact add_step' rfl (Ex.adds' (ex_slice (lo' := (some (.int .i64 21))) (hi' := (some (.int .i64 25))) rfl (show aa.eval (.tmp 10) = _ from hR.keep 10 rfl) rfl rfl rfl (s3sb89_21_25 _ _ _)) (wn rfl) rfl)
    · intro aa ww vals hJ hR
      exact add_step' rfl (Ex.adds' (ex_field rfl (show aa.eval (.tmp 4) = _ from hR.keep 4 rfl) (s3fa55_1 _ _ _)) (wn rfl) rfl)
    · intro aa ww vals hJ hR
      have h2 : vals.length ≤ 0 := hR.hi 3 (by simp) rfl
      have hl : vals.length = 0 := by omega
      obtain ⟨hvals, hv⟩ := hJ.at0 hl
      exact add_step' rfl (Ex.adds' (ex_load rfl (show aa.eval (.tmp 65) = _ from hR.v 1 65 rfl rfl rfl rfl) (run_load1 s3na24 (hv.load 1 1 rfl rfl))) (wn rfl) rfl)
    · intro aa ww vals hJ hR
      refine mem_step' rfl fun hvl => ?_
      have hl : vals.length = 0 := hvl
      obtain ⟨hvals, hv⟩ := hJ.at0 hl
      refine mem_row1 (v := .slice a l.length cap) (wn rfl) rfl (show aa.eval (.tmp 66) = _ from hR.v 2 66 rfl rfl rfl rfl) hv s3el22 rfl (fun b81 w82 hv => ?_)
      exact JS.next hl ⟨b81, by rw [hvals]; rfl, hv⟩
    · intro aa ww vals hJ hR
      refine mem_step' rfl fun hvl => ?_
      have hl : vals.length = 1 := hvl
      obtain ⟨b81, hvals, hv⟩ := hJ.at0 hl
      refine stepMem_calls s3callable15 (wn rfl) rfl (args := #[.slice (some ⟨b81, 0, none⟩) 1 1]) (by simp only [List.map_toArray, List.map_cons, List.map_nil]; rw [show aa.eval (.tmp 67) = .slice (some ⟨b81, 0, none⟩) 1 1 from (hR.val 3 67 rfl rfl rfl).trans (by rw [hvals]; rfl)] <;> rfl) ((crcSumSl _ _ _ _ _ _ _ (l) 0 hv rfl (hr.more (Base.Le.refl _) (fun r hr => List.mem_cons_of_mem _ (List.mem_cons_of_mem _ (List.mem_cons_of_mem _ (List.mem_cons_of_mem _ (List.mem_cons_of_mem _ (hr))))))) (rfl) (hok)).mono ?_)
      rintro e w83 ⟨rfl, hv⟩
      refine ⟨_, rfl, JS.next hl ⟨b81, by rw [hvals]; rfl, hv⟩⟩
    · intro aa ww vals hJ hR
      have h1 : 1 < vals.length := hR.lo 4 (by simp) rfl
      have h2 : vals.length ≤ 2 := hR.hi 6 (by simp) rfl
      have hl : vals.length = 2 := by omega
      obtain ⟨b81, hvals, hv⟩ := hJ.at0 hl
      exact add_step' rfl (Ex.adds' (ex_int (m := (Crc.sum (l) : Int)) Try.underlying25 Try.underlying114 rfl (show aa.eval (.tmp 68) = _ from (hR.val 4 68 rfl rfl rfl).trans (by rw [hvals]; rfl)) (u64_in (by omega))) (wn rfl) rfl)
    · intro aa ww vals hJ hR
      refine mem_step' rfl fun hvl => ?_
      have hl : vals.length = 2 := hvl
      obtain ⟨b81, hvals, hv⟩ := hJ.at0 hl
      replace hv := hv.front 1 rfl
      simp only [List.eraseIdx_cons_succ, List.eraseIdx_cons_zero] at hv
      refine stepMem_calls s3callable62 (wn rfl) rfl (args := #[.slice (some ⟨b68, 21, none⟩) 4 43, .int .u64 (Crc.sum (l) : Int)]) (by simp only [List.map_toArray, List.map_cons, List.map_nil]; rw [show aa.eval (.tmp 64) = .slice (some ⟨b68, 21, none⟩) 4 43 from hR.v 0 64 rfl rfl rfl rfl, show aa.eval (.tmp 69) = .int .u64 (Crc.sum (l) : Int) from hR.v 5 69 rfl rfl rfl rfl] <;> rfl) ((slotsPut _ _ _ b68 21 _ 4 (Crc.sum l) ((([B8 83] ++ (beOf 8 g).map B8) ++ (beOf 8 st).map B8) ++ (beOf 4 l.length).map B8) (List.replicate 4 (Value.int .u8 0)) (List.replicate 39 (Value.int .u8 0)) _ (by simp [beOf_length]) List.length_replicate (by omega) (by omega) hv).mono ?_)
      rintro e w84 ⟨rfl, hv⟩
      rw [head_map] at hv
      refine ⟨_, rfl, JS.next hl ⟨b81, by rw [hvals]; rfl, hv⟩⟩
    rintro w85 vals ⟨b81, rfl, hv⟩
    rw [show mixV [3, 4, 6] [.slice (some ⟨b81, 0, none⟩) 1 1, .int .u32 (Crc.sum (l) : Int), .tuple #[]] 0 [.slice (some ⟨b68, 21, none⟩) 4 43, .pointer (some ⟨b2, 1, none⟩), .slice a l.length cap, undef, undef, .int .u64 (Crc.sum (l) : Int), undef] = [.slice (some ⟨b68, 21, none⟩) 4 43, .pointer (some ⟨b2, 1, none⟩), .slice a l.length cap, .slice (some ⟨b81, 0, none⟩) 1 1, .int .u32 (Crc.sum (l) : Int), .int .u64 (Crc.sum (l) : Int), .tuple #[]] from rfl]
    simp only [putAll, Act.put, List.setIfInBounds_toArray, List.set_cons_succ, List.set_cons_zero]
    refine then_normal (hK80 _ _ ?_)
    clear hK80 K80
    refine wpIn_seq_k (fun K86 hK86 => ?_)
    refine wpIn_seq_k (fun K87 hK87 => ?_)
    by_cases hb88 : D.left = 0
    · refine region_st mixed [.pointer (some ⟨q, 0, none⟩), .pointer (some ⟨q, 0, none⟩), .pointer (some ⟨q, 0, none⟩), .pointer (some ⟨p, 0, none⟩), .int .i64 (at_ : Int), .slice (some ⟨b68, 0, none⟩) 64 64, undef, .int .i64 20] [6] [⟨fun vals w => vals = [] ∧ Inv B (Res.cell b68 ((headOf g st l).map B8) 89 :: Res.cell b81 [.slice a l.length cap] 24 :: Res.cell b2 [.int .i64 (st : Int), .slice a l.length cap] 55 :: Res.cell q [.pointer (some ⟨p, 0, none⟩), .int .i64 (from_ : Int), .int .i64 (each : Int), .int .i64 (gen : Int), .bool failed] 102 :: diskR p D F :: H) w, fun _ _ _ ⟨h, hi⟩ he => ⟨h, hi.ext he⟩⟩, ⟨fun vals w => ∃ F89, vals = [.int .i64 20] ∧ Inv B (diskR p D F89 :: Res.cell b68 ((headOf g st l).map B8) 89 :: Res.cell b81 [.slice a l.length cap] 24 :: Res.cell b2 [.int .i64 (st : Int), .slice a l.length cap] 55 :: Res.cell q [.pointer (some ⟨p, 0, none⟩), .int .i64 (from_ : Int), .int .i64 (each : Int), .int .i64 (gen : Int), .bool failed] 102 :: H) w, fun _ _ _ ⟨F89, h, hi⟩ he => ⟨F89, h, hi.ext he⟩⟩] 86 rfl (by kernel_rfl) ⟨rfl, hv⟩ ⟨?_, ?_, ?_, ?_, ?_, ?_, ?_, ?_, trivial⟩ ?_
      · intro aa ww vals hJ hR
        exact add_step' rfl (Ex.adds' (ex_move rfl (show aa.eval (.tmp 0) = _ from hR.keep 0 rfl)) (wn rfl) rfl)
      · intro aa ww vals hJ hR
        exact add_step' rfl (Ex.adds' (ex_nil rfl (show aa.eval (.tmp 71) = _ from hR.v 0 71 rfl rfl rfl rfl)) (wn rfl) rfl)
      · intro aa ww vals hJ hR
        exact add_step' rfl (Ex.adds' (ex_field rfl (show aa.eval (.tmp 72) = _ from hR.v 1 72 rfl rfl rfl rfl) (s3fa102_0 _ _ _)) (wn rfl) rfl)
      · intro aa ww vals hJ hR
        have h2 : vals.length ≤ 0 := hR.hi 6 (by simp) rfl
        have hl : vals.length = 0 := by omega
        obtain ⟨hvals, hv⟩ := hJ.at0 hl
        exact add_step' rfl (Ex.adds' (ex_load rfl (show aa.eval (.tmp 73) = _ from hR.v 2 73 rfl rfl rfl rfl) (run_load1 s3na36 (hv.load 3 0 rfl rfl))) (wn rfl) rfl)
      · intro aa ww vals hJ hR
        exact add_step' rfl (Ex.adds' (ex_move rfl (show aa.eval (.tmp 7) = _ from hR.keep 7 rfl)) (wn rfl) rfl)
      · intro aa ww vals hJ hR
        exact add_step' rfl (Ex.adds' (ex_slice rfl (show aa.eval (.tmp 10) = _ from hR.keep 10 rfl) rfl rfl rfl (s3sa89 _ _ _)) (wn rfl) rfl)
      · intro aa ww vals hJ hR
        refine mem_step' rfl fun hvl => ?_
        have hl : vals.length = 0 := hvl
        obtain ⟨hvals, hv⟩ := hJ.at0 hl
        replace hv := hv.front 4 rfl
        simp only [List.eraseIdx_cons_succ, List.eraseIdx_cons_zero] at hv
        refine stepMem_calls s3callable22 (wn rfl) rfl (args := #[.pointer (some ⟨p, 0, none⟩), .int .i64 (at_ : Int), .slice (some ⟨b68, 0, none⟩) 64 64]) (by simp only [List.map_toArray, List.map_cons, List.map_nil]; rw [show aa.eval (.tmp 74) = .pointer (some ⟨p, 0, none⟩) from hR.v 3 74 rfl rfl rfl rfl, show aa.eval (.tmp 75) = .int .i64 (at_ : Int) from hR.v 4 75 rfl rfl rfl rfl, show aa.eval (.tmp 76) = .slice (some ⟨b68, 0, none⟩) 64 64 from hR.v 5 76 rfl rfl rfl rfl] <;> rfl) ((diskWriteOffSl _ _ _ p _ _ _ _ _ _ (headOf g st l) hv (by omega) (headOf_len _ _ _) (by omega) (has_of (by rw [nsec_head]; omega) (by rw [nsec_head]; omega)) hb88).mono ?_)
        rintro e w90 ⟨F89, rfl, hv⟩
        refine ⟨_, rfl, JS.next hl ⟨F89, by rw [hvals]; rfl, hv⟩⟩
      · intro aa ww vals hJ hR
        have h1 : 0 < vals.length := hR.lo 6 (by simp) rfl
        have hl : vals.length = 1 := by have := JS.le (n := 1) (by rfl) hJ; omega
        obtain ⟨F89, hvals, hv⟩ := hJ.at0 hl
        exact add_step' rfl (Ex.adds' (ex_assign rfl (show aa.eval (.tmp 77) = _ from (hR.val 6 77 rfl rfl rfl).trans (by rw [hvals]; rfl))) (wn rfl) rfl)
      rintro w91 vals ⟨F89, rfl, hv⟩
      rw [show mixV [6] [.int .i64 20] 0 [.pointer (some ⟨q, 0, none⟩), .pointer (some ⟨q, 0, none⟩), .pointer (some ⟨q, 0, none⟩), .pointer (some ⟨p, 0, none⟩), .int .i64 (at_ : Int), .slice (some ⟨b68, 0, none⟩) 64 64, undef, .int .i64 20] = [.pointer (some ⟨q, 0, none⟩), .pointer (some ⟨q, 0, none⟩), .pointer (some ⟨q, 0, none⟩), .pointer (some ⟨p, 0, none⟩), .int .i64 (at_ : Int), .slice (some ⟨b68, 0, none⟩) 64 64, .int .i64 20, .int .i64 20] from rfl]
      simp only [putAll, Act.put, List.setIfInBounds_toArray, List.set_cons_succ, List.set_cons_zero]
      refine then_normal (hK87 _ _ ?_)
      clear hK87 K87
      refine wpIn_seq_k (fun K92 hK92 => ?_)
      refine wpIn_region_lit ?_
      refine wpi_exG (v := .int .i64 20) (fun _ => trivial) (wn rfl) rfl (ex_move rfl rfl) ?_
      refine wpi_exG (v := .bool true) (fun _ => trivial) (wn rfl) rfl (ex_neq (k := .i64) (m := 20) (n := 0) rfl rfl rfl (by decide)) ?_
      refine wpListIn_nil ?_
      simp only [Act.put, List.setIfInBounds_toArray, List.set_cons_succ, List.set_cons_zero]
      refine then_normal (hK92 _ _ ?_)
      clear hK92 K92
      refine wpIn_cond_true rfl ?_
      refine wpIn_seq_k (fun K93 hK93 => ?_)
      refine wpIn_region_lit ?_
      refine wpi_exG (v := .int .i64 20) (fun _ => trivial) (wn rfl) rfl (ex_move rfl rfl) ?_
      refine wpi_exG (v := .int .i64 20) (fun _ => trivial) (wn rfl) rfl (ex_assign rfl rfl) ?_
      refine wpListIn_nil ?_
      simp only [Act.put, List.setIfInBounds_toArray, List.set_cons_succ, List.set_cons_zero]
      refine then_normal (hK93 _ _ ?_)
      clear hK93 K93
      refine wpIn_ret ?_
      refine then_ret ?_
      clear hK86 K86
      refine bodyPost_ret (results_tmp rfl _ _ _) rfl ?_
      have hres : putAll' D at_ l (headOf g st l) = (20, D) := by
        simp only [putAll', putHead, if_pos (show l.length = 0 by omega), if_pos hb88]
      rw [hres]
      exact ⟨_, rfl, ((hv.front 4 rfl).sub (List.Sublist.cons_cons _ (List.Sublist.cons_cons _ (List.Sublist.cons _ (List.Sublist.cons _ (List.Sublist.cons _ (List.Sublist.refl _)))))))⟩
    · refine region_st mixed [.pointer (some ⟨q, 0, none⟩), .pointer (some ⟨q, 0, none⟩), .pointer (some ⟨q, 0, none⟩), .pointer (some ⟨p, 0, none⟩), .int .i64 (at_ : Int), .slice (some ⟨b68, 0, none⟩) 64 64, undef, .int .i64 0] [6] [⟨fun vals w => vals = [] ∧ Inv B (Res.cell b68 ((headOf g st l).map B8) 89 :: Res.cell b81 [.slice a l.length cap] 24 :: Res.cell b2 [.int .i64 (st : Int), .slice a l.length cap] 55 :: Res.cell q [.pointer (some ⟨p, 0, none⟩), .int .i64 (from_ : Int), .int .i64 (each : Int), .int .i64 (gen : Int), .bool failed] 102 :: diskR p D F :: H) w, fun _ _ _ ⟨h, hi⟩ he => ⟨h, hi.ext he⟩⟩, ⟨fun vals w => ∃ F94, vals = [.int .i64 0] ∧ Inv B (diskR p (D.write at_ (headOf g st l)) F94 :: Res.cell b68 ((headOf g st l).map B8) 89 :: Res.cell b81 [.slice a l.length cap] 24 :: Res.cell b2 [.int .i64 (st : Int), .slice a l.length cap] 55 :: Res.cell q [.pointer (some ⟨p, 0, none⟩), .int .i64 (from_ : Int), .int .i64 (each : Int), .int .i64 (gen : Int), .bool failed] 102 :: H) w, fun _ _ _ ⟨F94, h, hi⟩ he => ⟨F94, h, hi.ext he⟩⟩] 86 rfl (by kernel_rfl) ⟨rfl, hv⟩ ⟨?_, ?_, ?_, ?_, ?_, ?_, ?_, ?_, trivial⟩ ?_
      · intro aa ww vals hJ hR
        exact add_step' rfl (Ex.adds' (ex_move rfl (show aa.eval (.tmp 0) = _ from hR.keep 0 rfl)) (wn rfl) rfl)
      · intro aa ww vals hJ hR
        exact add_step' rfl (Ex.adds' (ex_nil rfl (show aa.eval (.tmp 71) = _ from hR.v 0 71 rfl rfl rfl rfl)) (wn rfl) rfl)
      · intro aa ww vals hJ hR
        exact add_step' rfl (Ex.adds' (ex_field rfl (show aa.eval (.tmp 72) = _ from hR.v 1 72 rfl rfl rfl rfl) (s3fa102_0 _ _ _)) (wn rfl) rfl)
      · intro aa ww vals hJ hR
        have h2 : vals.length ≤ 0 := hR.hi 6 (by simp) rfl
        have hl : vals.length = 0 := by omega
        obtain ⟨hvals, hv⟩ := hJ.at0 hl
        exact add_step' rfl (Ex.adds' (ex_load rfl (show aa.eval (.tmp 73) = _ from hR.v 2 73 rfl rfl rfl rfl) (run_load1 s3na36 (hv.load 3 0 rfl rfl))) (wn rfl) rfl)
      · intro aa ww vals hJ hR
        exact add_step' rfl (Ex.adds' (ex_move rfl (show aa.eval (.tmp 7) = _ from hR.keep 7 rfl)) (wn rfl) rfl)
      · intro aa ww vals hJ hR
        exact add_step' rfl (Ex.adds' (ex_slice rfl (show aa.eval (.tmp 10) = _ from hR.keep 10 rfl) rfl rfl rfl (s3sa89 _ _ _)) (wn rfl) rfl)
      · intro aa ww vals hJ hR
        refine mem_step' rfl fun hvl => ?_
        have hl : vals.length = 0 := hvl
        obtain ⟨hvals, hv⟩ := hJ.at0 hl
        replace hv := hv.front 4 rfl
        simp only [List.eraseIdx_cons_succ, List.eraseIdx_cons_zero] at hv
        refine stepMem_calls s3callable22 (wn rfl) rfl (args := #[.pointer (some ⟨p, 0, none⟩), .int .i64 (at_ : Int), .slice (some ⟨b68, 0, none⟩) 64 64]) (by simp only [List.map_toArray, List.map_cons, List.map_nil]; rw [show aa.eval (.tmp 74) = .pointer (some ⟨p, 0, none⟩) from hR.v 3 74 rfl rfl rfl rfl, show aa.eval (.tmp 75) = .int .i64 (at_ : Int) from hR.v 4 75 rfl rfl rfl rfl, show aa.eval (.tmp 76) = .slice (some ⟨b68, 0, none⟩) 64 64 from hR.v 5 76 rfl rfl rfl rfl] <;> rfl) ((diskWriteSl _ _ _ p _ _ at_ _ _ _ (headOf g st l) hv (headOf_len _ _ _) (ok_full (by omega)) (rd_own 0 rfl) (has_of (by rw [nsec_head]; omega) (by rw [nsec_head]; omega)) hb88 (by omega)).mono ?_)
        rintro e w95 ⟨F94, rfl, hv⟩
        refine ⟨_, rfl, JS.next hl ⟨F94, by rw [hvals]; rfl, hv⟩⟩
      · intro aa ww vals hJ hR
        have h1 : 0 < vals.length := hR.lo 6 (by simp) rfl
        have hl : vals.length = 1 := by have := JS.le (n := 1) (by rfl) hJ; omega
        obtain ⟨F94, hvals, hv⟩ := hJ.at0 hl
        exact add_step' rfl (Ex.adds' (ex_assign rfl (show aa.eval (.tmp 77) = _ from (hR.val 6 77 rfl rfl rfl).trans (by rw [hvals]; rfl))) (wn rfl) rfl)
      rintro w96 vals ⟨F94, rfl, hv⟩
      rw [show mixV [6] [.int .i64 0] 0 [.pointer (some ⟨q, 0, none⟩), .pointer (some ⟨q, 0, none⟩), .pointer (some ⟨q, 0, none⟩), .pointer (some ⟨p, 0, none⟩), .int .i64 (at_ : Int), .slice (some ⟨b68, 0, none⟩) 64 64, undef, .int .i64 0] = [.pointer (some ⟨q, 0, none⟩), .pointer (some ⟨q, 0, none⟩), .pointer (some ⟨q, 0, none⟩), .pointer (some ⟨p, 0, none⟩), .int .i64 (at_ : Int), .slice (some ⟨b68, 0, none⟩) 64 64, .int .i64 0, .int .i64 0] from rfl]
      simp only [putAll, Act.put, List.setIfInBounds_toArray, List.set_cons_succ, List.set_cons_zero]
      refine then_normal (hK87 _ _ ?_)
      clear hK87 K87
      refine wpIn_seq_k (fun K97 hK97 => ?_)
      refine wpIn_region_lit ?_
      refine wpi_exG (v := .int .i64 0) (fun _ => trivial) (wn rfl) rfl (ex_move rfl rfl) ?_
      refine wpi_exG (v := .bool false) (fun _ => trivial) (wn rfl) rfl (ex_neq (k := .i64) (m := 0) (n := 0) rfl rfl rfl (by decide)) ?_
      refine wpListIn_nil ?_
      simp only [Act.put, List.setIfInBounds_toArray, List.set_cons_succ, List.set_cons_zero]
      refine then_normal (hK97 _ _ ?_)
      clear hK97 K97
      refine wpIn_cond_false rfl ?_
      refine wpIn_skip ?_
      refine then_normal (hK86 _ _ ?_)
      clear hK86 K86
      refine wpIn_seq_k (fun K98 hK98 => ?_)
      refine wpIn_region_lit ?_
      refine wpi_exG (v := .pointer (some ⟨q, 0, none⟩)) (fun _ => trivial) (wn rfl) rfl (ex_move rfl rfl) ?_
      refine wpi_exG (v := .pointer (some ⟨q, 0, none⟩)) (fun _ => trivial) (wn rfl) rfl (ex_nil rfl rfl) ?_
      refine wpi_exG (v := .pointer (some ⟨q, 0, none⟩)) (fun _ => trivial) (wn rfl) rfl (ex_field rfl rfl (s3fa102_0 _ _ _)) ?_
      simp only [Act.put, List.setIfInBounds_toArray, List.set_cons_succ, List.set_cons_zero]
      refine wpi_exG (v := .pointer (some ⟨p, 0, none⟩)) (fun _ => trivial) (wn rfl) rfl (ex_load rfl rfl (run_load1 s3na36 (hv.load 4 0 rfl rfl))) ?_
      by_cases hl99 : (D.write at_ (headOf g st l)).left = 0
      · refine wpi_callG s3callable24 (fun _ => trivial) wideC rfl (wn rfl) rfl (args := #[.pointer (some ⟨p, 0, none⟩)]) (by simp only [List.map_toArray, List.map_cons, List.map_nil]; rfl) ((diskSyncOffSl _ _ _ p _ _ hv hl99).mono ?_)
        rintro e w101 ⟨F100, rfl, hv⟩
        refine ⟨_, rfl, ?_⟩
        refine wpi_exG (v := .int .i64 20) (fun _ => trivial) (wn rfl) rfl (ex_assign rfl rfl) ?_
        refine wpListIn_nil ?_
        simp only [Act.put, List.setIfInBounds_toArray, List.set_cons_succ, List.set_cons_zero]
        refine then_normal (hK98 _ _ ?_)
        clear hK98 K98
        refine wpIn_ret ?_
        refine bodyPost_ret (results_tmp rfl _ _ _) rfl ?_
        have hres : putAll' D at_ l (headOf g st l) = (20, D.write at_ (headOf g st l)) := by
          simp only [putAll', putHead, if_pos (show l.length = 0 by omega), if_neg hb88, if_pos hl99]
        rw [hres]
        exact ⟨_, rfl, ((hv.front 4 rfl).sub (List.Sublist.cons_cons _ (List.Sublist.cons_cons _ (List.Sublist.cons _ (List.Sublist.cons _ (List.Sublist.cons _ (List.Sublist.refl _)))))))⟩
      · refine wpi_callG s3callable24 (fun _ => trivial) wideC rfl (wn rfl) rfl (args := #[.pointer (some ⟨p, 0, none⟩)]) (by simp only [List.map_toArray, List.map_cons, List.map_nil]; rfl) ((diskSyncSl _ _ _ p _ _ hv hl99 (by simp only [write_dur, sync_dur, write_pend, sync_pend, nsec_head]; omega)).mono ?_)
        rintro e w103 ⟨F102, rfl, hv⟩
        refine ⟨_, rfl, ?_⟩
        refine wpi_exG (v := .int .i64 0) (fun _ => trivial) (wn rfl) rfl (ex_assign rfl rfl) ?_
        refine wpListIn_nil ?_
        simp only [Act.put, List.setIfInBounds_toArray, List.set_cons_succ, List.set_cons_zero]
        refine then_normal (hK98 _ _ ?_)
        clear hK98 K98
        refine wpIn_ret ?_
        refine bodyPost_ret (results_tmp rfl _ _ _) rfl ?_
        have hres : putAll' D at_ l (headOf g st l) = (0, (D.write at_ (headOf g st l)).sync) := by
          simp only [putAll', putHead, if_pos (show l.length = 0 by omega), if_neg hb88, if_neg hl99]
        rw [hres]
        exact ⟨_, rfl, ((hv.front 4 rfl).sub (List.Sublist.cons_cons _ (List.Sublist.cons_cons _ (List.Sublist.cons _ (List.Sublist.cons _ (List.Sublist.cons _ (List.Sublist.refl _)))))))⟩
end Go.Proofs.Ytkannfkjnohdlaa
/- slots.Save -/
namespace Go.Proofs.Ytkannfkjnohdlaa
open Go.RowKit Go.Pm
structure SaveRes where
  err : Int
  gen : Nat
  failed : Bool
  disk : Disk
def saveOf (D : Disk) (from_ each gen : Nat) (failed : Bool) (st : Int) (l : List UInt8) : SaveRes :=
  if failed = true then ⟨20, gen, failed, D⟩ else if st < 0 ∨ st > 1152921504606846975 then ⟨2, gen, failed, D⟩ else if l.length > roomOf each then ⟨22, gen, failed, D⟩ else
  if (putAll' D (from_ + ((gen + 1) % 2) * each) l (headOf (gen + 1) st.toNat l)).1 ≠ 0 then ⟨(putAll' D (from_ + ((gen + 1) % 2) * each) l (headOf (gen + 1) st.toNat l)).1, gen, true, (putAll' D (from_ + ((gen + 1) % 2) * each) l (headOf (gen + 1) st.toNat l)).2⟩
  else ⟨0, gen + 1, failed, (putAll' D (from_ + ((gen + 1) % 2) * each) l (headOf (gen + 1) st.toNat l)).2⟩
theorem room_le (each : Nat) : roomOf each ≤ 64 * (each - 1) ∧ roomOf each ≤ 1048576 := by unfold roomOf; split <;> omega

theorem s4fa102_4 (w : World) (b o : Nat) : (Instr.fieldAt 102 (.pointer (some ⟨b, o, none⟩)) 4).run Try.prog w = .ok (.pointer (some ⟨b, o + 4, none⟩)) w := by kernel_rfl
theorem s4na4 (w : World) : (isAgg 4).run Try.prog w = .ok false w := by kernel_rfl
theorem s4fa55_0 (w : World) (b o : Nat) : (Instr.fieldAt 55 (.pointer (some ⟨b, o, none⟩)) 0).run Try.prog w = .ok (.pointer (some ⟨b, o + 0, none⟩)) w := by kernel_rfl
theorem s4na3 (w : World) : (isAgg 3).run Try.prog w = .ok false w := by kernel_rfl
theorem s4fa55_1 (w : World) (b o : Nat) : (Instr.fieldAt 55 (.pointer (some ⟨b, o, none⟩)) 1).run Try.prog w = .ok (.pointer (some ⟨b, o + 1, none⟩)) w := by kernel_rfl
theorem s4na24 (w : World) : (isAgg 24).run Try.prog w = .ok false w := by kernel_rfl
theorem s4callable34 : Callable Try.prog 34 := ⟨_, Try.func34, by kernel_rfl, by kernel_rfl⟩
theorem s4wd55 : Wide Try.prog 55 2 := wide_of (fun w => by kernel_rfl) (by kernel_rfl)
theorem s4fa102_3 (w : World) (b o : Nat) : (Instr.fieldAt 102 (.pointer (some ⟨b, o, none⟩)) 3).run Try.prog w = .ok (.pointer (some ⟨b, o + 3, none⟩)) w := by kernel_rfl
theorem s4callable53 : Callable Try.prog 53 := ⟨_, Try.func53, by kernel_rfl, by kernel_rfl⟩
theorem s4sz4 : (Try.prog.info? 4).map (·.size) = some 1 := by kernel_rfl
theorem s4sz3 : (Try.prog.info? 3).map (·.size) = some 1 := by kernel_rfl
set_option maxRecDepth 100000 in
set_option maxHeartbeats 1000000 in
theorem slotsSave (B : Base) (H : List Res) (w : World) (q p from_ each gen : Nat) (failed : Bool) (D : Disk) (F : List Nat) (st : Int) (a : Option Addr) (n cap : Nat) (l : List UInt8) (at_ : Nat) (hat : from_ + ((gen + 1) % 2) * each = at_) (hg : gen < 4611686018427387904) (he1 : 1 ≤ each) (he2 : each ≤ 65536) (hfit : at_ + each ≤ D.dur.length) (hdm : D.dur.length ≤ 65536) (hpl : D.pend.length ≤ 1000000) (hn : l.length = n) (hok : SliceOk a n cap) (hr : RdV B H a (l.map B8)) (hv : Inv B (Res.cell q [.pointer (some ⟨p, 0, none⟩), .int .i64 (from_ : Int), .int .i64 (each : Int), .int .i64 (gen : Int), .bool failed] 102 :: diskR p D F :: H) w) :
    Calls Try.prog 36 #[.pointer (some ⟨q, 0, none⟩), .agg #[.int .i64 st, .slice a n cap]] w fun e w' => ∃ F', e = .returned (.int .i64 (saveOf D from_ each gen failed st l).err) ∧ Inv B (Res.cell q [.pointer (some ⟨p, 0, none⟩), .int .i64 (from_ : Int), .int .i64 (each : Int), .int .i64 ((saveOf D from_ each gen failed st l).gen : Int), .bool (saveOf D from_ each gen failed st l).failed] 102 :: diskR p (saveOf D from_ each gen failed st l).disk F' :: H) w' := by
  subst hn
  refine (callsIn_wide (n := 5)).1 ?_
  refine callsIn_of_wp Try.func36 rfl trivial ?_
  simp only [Try.ntmps36, List.size_toArray, List.length_cons, List.length_nil, Nat.reduceAdd, Nat.reduceSub, Array.replicate_succ, Array.replicate_zero, List.push_toArray, List.append_toArray, List.nil_append, List.cons_append]
  refine wpIn_seq_k (fun K1 hK1 => ?_)
  refine wpIn_region_lit ?_
  refine sl_box (L := [.int .i64 st, .slice a l.length cap]) (fun _ => trivial) (wn rfl) rfl (p := .agg #[.int .i64 st, .slice a l.length cap]) rfl hv (fun w => by kernel_rfl) (fun b2 w3 hv => ?_)
  refine wpi_exG (v := .int .i64 0) (fun _ => trivial) (wn rfl) rfl (ex_assign rfl rfl) ?_
  refine wpListIn_nil ?_
  simp only [Act.put, List.setIfInBounds_toArray, List.set_cons_succ, List.set_cons_zero]
  refine then_normal (hK1 _ _ ?_)
  clear hK1 K1
  refine wpIn_seq_k (fun K4 hK4 => ?_)
  refine wpIn_block ?_
  refine wpIn_seq_k (fun K5 hK5 => ?_)
  refine wpIn_region_lit ?_
  refine wpi_exG (v := .pointer (some ⟨q, 0, none⟩)) (fun _ => trivial) (wn rfl) rfl (ex_move rfl rfl) ?_
  refine wpi_exG (v := .pointer (some ⟨q, 0, none⟩)) (fun _ => trivial) (wn rfl) rfl (ex_nil rfl rfl) ?_
  refine wpi_exG (v := .pointer (some ⟨q, 4, none⟩)) (fun _ => trivial) (wn rfl) rfl (ex_field rfl rfl (s4fa102_4 _ _ _)) ?_
  simp only [Act.put, List.setIfInBounds_toArray, List.set_cons_succ, List.set_cons_zero]
  refine wpi_exG (v := .bool failed) (fun _ => trivial) (wn rfl) rfl (ex_load rfl rfl (run_load1 s4na4 (hv.load 1 4 rfl rfl))) ?_
  refine wpi_exG (v := .bool failed) (fun _ => trivial) (wn rfl) rfl (ex_assign rfl rfl) ?_
  refine wpListIn_nil ?_
  simp only [Act.put, List.setIfInBounds_toArray, List.set_cons_succ, List.set_cons_zero]
  refine then_normal (hK5 _ _ ?_)
  clear hK5 K5
  refine wpIn_cond_split (t := failed) rfl (fun hc6 => ?_) (fun hc6 => ?_)
  · refine wpIn_seq_k (fun K7 hK7 => ?_)
    refine wpIn_region_lit ?_
    refine wpi_exG (v := .int .i64 20) (fun _ => trivial) (wn rfl) rfl (ex_assign rfl rfl) ?_
    refine wpListIn_nil ?_
    simp only [Act.put, List.setIfInBounds_toArray, List.set_cons_succ, List.set_cons_zero]
    refine then_normal (hK7 _ _ ?_)
    clear hK7 K7
    refine wpIn_ret ?_
    refine blk_ret ?_
    refine then_ret ?_
    clear hK4 K4
    refine bodyPost_ret (results_tmp rfl _ _ _) rfl ?_
    have hres : saveOf D from_ each gen failed st l = ⟨20, gen, failed, D⟩ := by
      unfold saveOf
      rw [if_pos hc6]
    rw [hres]
    exact ⟨_, rfl, (((hv.front 2 rfl).front 2 rfl).sub (List.Sublist.cons_cons _ (List.Sublist.cons_cons _ (List.Sublist.cons _ (List.Sublist.refl _)))))⟩
  · refine wpIn_seq_k (fun K8 hK8 => ?_)
    refine wpIn_region_lit ?_
    refine wpi_exG (v := .pointer (some ⟨b2, 0, none⟩)) (fun _ => trivial) (wn rfl) rfl (ex_field rfl rfl (s4fa55_0 _ _ _)) ?_
    refine wpi_exG (v := .int .i64 st) (fun _ => trivial) (wn rfl) rfl (ex_load rfl rfl (run_load1 s4na3 (hv.load 0 0 rfl rfl))) ?_
    by_cases hb9 : st < 0
    · refine wpi_exG (v := .bool true) (fun _ => trivial) (wn rfl) rfl (ex_lss (k := .i64) (m := st) (n := 0) rfl rfl rfl (decide_eq_true hb9)) ?_
      simp only [Act.put, List.setIfInBounds_toArray, List.set_cons_succ, List.set_cons_zero]
      refine wpi_exG (v := .bool true) (fun _ => trivial) (wn rfl) rfl (ex_move rfl rfl) ?_
      refine wpi_not (fun _ => trivial) (wanted_not (j := 3) (d := 15) (b := false) (b' := true) rfl rfl rfl (by decide)) ?_
      refine wpi_not (fun _ => trivial) (wanted_not (j := 3) (d := 15) (b := false) (b' := true) rfl rfl rfl (by decide)) ?_
      simp only [Act.put, List.setIfInBounds_toArray, List.set_cons_succ, List.set_cons_zero]
      refine wpi_not (fun _ => trivial) (wanted_not (j := 3) (d := 15) (b := false) (b' := true) rfl rfl rfl (by decide)) ?_
      refine wpi_exG (v := .bool true) (fun _ => trivial) (wn rfl) rfl (ex_pick (b := true) rfl rfl rfl) ?_
      refine wpi_exG (v := .bool true) (fun _ => trivial) (wn rfl) rfl (ex_assign rfl rfl) ?_
      refine wpListIn_nil ?_
      simp only [Act.put, List.setIfInBounds_toArray, List.set_cons_succ, List.set_cons_zero]
      refine then_normal (hK8 _ _ ?_)
      clear hK8 K8
      refine wpIn_cond_true rfl ?_
      refine wpIn_seq_k (fun K10 hK10 => ?_)
      refine wpIn_region_lit ?_
      refine wpi_exG (v := .int .i64 2) (fun _ => trivial) (wn rfl) rfl (ex_assign rfl rfl) ?_
      refine wpListIn_nil ?_
      simp only [Act.put, List.setIfInBounds_toArray, List.set_cons_succ, List.set_cons_zero]
      refine then_normal (hK10 _ _ ?_)
      clear hK10 K10
      refine wpIn_ret ?_
      refine blk_ret ?_
      refine then_ret ?_
      clear hK4 K4
      refine bodyPost_ret (results_tmp rfl _ _ _) rfl ?_
      have hres : saveOf D from_ each gen failed st l = ⟨2, gen, failed, D⟩ := by
        unfold saveOf
        rw [if_neg (by rw [hc6]; decide), if_pos (.inl hb9)]
      rw [hres]
      exact ⟨_, rfl, (((hv.front 2 rfl).front 2 rfl).sub (List.Sublist.cons_cons _ (List.Sublist.cons_cons _ (List.Sublist.cons _ (List.Sublist.refl _)))))⟩
    · refine wpi_exG (v := .bool false) (fun _ => trivial) (wn rfl) rfl (ex_lss (k := .i64) (m := st) (n := 0) rfl rfl rfl (decide_eq_false hb9)) ?_
      simp only [Act.put, List.setIfInBounds_toArray, List.set_cons_succ, List.set_cons_zero]
      refine wpi_exG (v := .bool false) (fun _ => trivial) (wn rfl) rfl (ex_move rfl rfl) ?_
      refine wpi_exG (v := .pointer (some ⟨b2, 0, none⟩)) (fun _ => trivial) (wanted_of (j := 3) (d := 15) (b := false) rfl rfl rfl) rfl (ex_field rfl rfl (s4fa55_0 _ _ _)) ?_
      refine wpi_exG (v := .int .i64 st) (fun _ => trivial) (wanted_of (j := 3) (d := 15) (b := false) rfl rfl rfl) rfl (ex_load rfl rfl (run_load1 s4na3 (hv.load 0 0 rfl rfl))) ?_
      simp only [Act.put, List.setIfInBounds_toArray, List.set_cons_succ, List.set_cons_zero]
      by_cases hb11 : st > 1152921504606846975
      · refine wpi_exG (v := .bool true) (fun _ => trivial) (wanted_of (j := 3) (d := 15) (b := false) rfl rfl rfl) rfl (ex_gtr (k := .i64) (m := st) (n := 1152921504606846975) rfl rfl rfl (decide_eq_true hb11)) ?_
        refine wpi_exG (v := .bool true) (fun _ => trivial) (wn rfl) rfl (ex_pick (b := false) rfl rfl rfl) ?_
        refine wpi_exG (v := .bool true) (fun _ => trivial) (wn rfl) rfl (ex_assign rfl rfl) ?_
        refine wpListIn_nil ?_
        simp only [Act.put, List.setIfInBounds_toArray, List.set_cons_succ, List.set_cons_zero]
        refine then_normal (hK8 _ _ ?_)
        clear hK8 K8
        refine wpIn_cond_true rfl ?_
        refine wpIn_seq_k (fun K12 hK12 => ?_)
        refine wpIn_region_lit ?_
        refine wpi_exG (v := .int .i64 2) (fun _ => trivial) (wn rfl) rfl (ex_assign rfl rfl) ?_
        refine wpListIn_nil ?_
        simp only [Act.put, List.setIfInBounds_toArray, List.set_cons_succ, List.set_cons_zero]
        refine then_normal (hK12 _ _ ?_)
        clear hK12 K12
        refine wpIn_ret ?_
        refine blk_ret ?_
        refine then_ret ?_
        clear hK4 K4
        refine bodyPost_ret (results_tmp rfl _ _ _) rfl ?_
        have hres : saveOf D from_ each gen failed st l = ⟨2, gen, failed, D⟩ := by
          unfold saveOf
          rw [if_neg (by rw [hc6]; decide), if_pos (.inr hb11)]
        rw [hres]
        exact ⟨_, rfl, (((hv.front 2 rfl).front 2 rfl).sub (List.Sublist.cons_cons _ (List.Sublist.cons_cons _ (List.Sublist.cons _ (List.Sublist.refl _)))))⟩
      · refine wpi_exG (v := .bool false) (fun _ => trivial) (wanted_of (j := 3) (d := 15) (b := false) rfl rfl rfl) rfl (ex_gtr (k := .i64) (m := st) (n := 1152921504606846975) rfl rfl rfl (decide_eq_false hb11)) ?_
        obtain ⟨sn, rfl⟩ : ∃ sn : Nat, st = (sn : Int) := ⟨st.toNat, by omega⟩
        have hrm := room_le each
        refine wpi_exG (v := .bool false) (fun _ => trivial) (wn rfl) rfl (ex_pick (b := false) rfl rfl rfl) ?_
        refine wpi_exG (v := .bool false) (fun _ => trivial) (wn rfl) rfl (ex_assign rfl rfl) ?_
        refine wpListIn_nil ?_
        simp only [Act.put, List.setIfInBounds_toArray, List.set_cons_succ, List.set_cons_zero]
        refine then_normal (hK8 _ _ ?_)
        clear hK8 K8
        refine wpIn_cond_false rfl ?_
        refine wpIn_seq_k (fun K13 hK13 => ?_)
        by_cases hb15 : (l.length : Int) > (roomOf each : Int)
        · refine region_st mixed [.pointer (some ⟨b2, 1, none⟩), .slice a l.length cap, .int .i64 (l.length : Int), .pointer (some ⟨q, 0, none⟩), undef, .bool true, .bool true] [4] [⟨fun vals w => vals = [] ∧ Inv B (Res.cell b2 [.int .i64 (sn : Int), .slice a l.length cap] 55 :: Res.cell q [.pointer (some ⟨p, 0, none⟩), .int .i64 (from_ : Int), .int .i64 (each : Int), .int .i64 (gen : Int), .bool failed] 102 :: diskR p D F :: H) w, fun _ _ _ ⟨h, hi⟩ he => ⟨h, hi.ext he⟩⟩, ⟨fun vals w => vals = [.int .i64 (roomOf each : Int)] ∧ Inv B (Res.cell b2 [.int .i64 (sn : Int), .slice a l.length cap] 55 :: Res.cell q [.pointer (some ⟨p, 0, none⟩), .int .i64 (from_ : Int), .int .i64 (each : Int), .int .i64 (gen : Int), .bool failed] 102 :: diskR p D F :: H) w, fun _ _ _ ⟨h, hi⟩ he => ⟨h, hi.ext he⟩⟩] 48 rfl (by kernel_rfl) ⟨rfl, hv⟩ ⟨?_, ?_, ?_, ?_, ?_, ?_, ?_, trivial⟩ ?_
          · intro aa ww vals hJ hR
            exact add_step' rfl (Ex.adds' (ex_field rfl (show aa.eval (.tmp 3) = _ from hR.keep 3 rfl) (s4fa55_1 _ _ _)) (wn rfl) rfl)
          · intro aa ww vals hJ hR
            have h2 : vals.length ≤ 1 := JS.le (by rfl) hJ
            rcases (show vals.length = 0 ∨ vals.length = 1 by omega) with hl | hl
            · obtain ⟨hvals, hv⟩ := hJ.at0 hl
              exact add_step' rfl (Ex.adds' (ex_load rfl (show aa.eval (.tmp 21) = _ from hR.v 0 21 rfl rfl rfl rfl) (run_load1 s4na24 (hv.load 0 1 rfl rfl))) (wn rfl) rfl)
            · obtain ⟨hvals, hv⟩ := hJ.at0 hl
              exact add_step' rfl (Ex.adds' (ex_load rfl (show aa.eval (.tmp 21) = _ from hR.v 0 21 rfl rfl rfl rfl) (run_load1 s4na24 (hv.load 0 1 rfl rfl))) (wn rfl) rfl)
          · intro aa ww vals hJ hR
            exact add_step' rfl (Ex.adds' (ex_len0 Try.underlying24 rfl (show aa.eval (.tmp 22) = _ from hR.v 1 22 rfl rfl rfl rfl)) (wn rfl) rfl)
          · intro aa ww vals hJ hR
            exact add_step' rfl (Ex.adds' (ex_move rfl (show aa.eval (.tmp 0) = _ from hR.keep 0 rfl)) (wn rfl) rfl)
          · intro aa ww vals hJ hR
            refine mem_step' rfl fun hvl => ?_
            have hl : vals.length = 0 := hvl
            obtain ⟨hvals, hv⟩ := hJ.at0 hl
            refine stepMem_calls s4callable34 (wn rfl) rfl (args := #[.pointer (some ⟨q, 0, none⟩)]) (by simp only [List.map_toArray, List.map_cons, List.map_nil]; rw [show aa.eval (.tmp 24) = .pointer (some ⟨q, 0, none⟩) from hR.v 3 24 rfl rfl rfl rfl] <;> rfl) ((slotsRoom _ _ _ q p from_ each gen failed he1 he2 (hv.front 1 rfl)).mono ?_)
            rintro e w16 ⟨rfl, rfl⟩
            refine ⟨_, rfl, JS.next hl ⟨by rw [hvals]; rfl, hv⟩⟩
          · intro aa ww vals hJ hR
            have h1 : 0 < vals.length := hR.lo 4 (by simp) rfl
            have hl : vals.length = 1 := by have := JS.le (n := 1) (by rfl) hJ; omega
            obtain ⟨hvals, hv⟩ := hJ.at0 hl
            exact add_step' rfl (Ex.adds' (ex_gtr (k := .i64) (m := (l.length : Int)) (n := (roomOf each : Int)) rfl (show aa.eval (.tmp 23) = _ from hR.v 2 23 rfl rfl rfl rfl) (show aa.eval (.tmp 25) = _ from (hR.val 4 25 rfl rfl rfl).trans (by rw [hvals]; rfl)) (decide_eq_true hb15)) (wn rfl) rfl)
          · intro aa ww vals hJ hR
            exact add_step' rfl (Ex.adds' (ex_assign rfl (show aa.eval (.tmp 26) = _ from hR.v 5 26 rfl rfl rfl rfl)) (wn rfl) rfl)
          rintro w17 vals ⟨rfl, hv⟩
          rw [show mixV [4] [.int .i64 (roomOf each : Int)] 0 [.pointer (some ⟨b2, 1, none⟩), .slice a l.length cap, .int .i64 (l.length : Int), .pointer (some ⟨q, 0, none⟩), undef, .bool true, .bool true] = [.pointer (some ⟨b2, 1, none⟩), .slice a l.length cap, .int .i64 (l.length : Int), .pointer (some ⟨q, 0, none⟩), .int .i64 (roomOf each : Int), .bool true, .bool true] from rfl]
          simp only [putAll, Act.put, List.setIfInBounds_toArray, List.set_cons_succ, List.set_cons_zero]
          refine then_normal (hK13 _ _ ?_)
          clear hK13 K13
          refine wpIn_cond_true rfl ?_
          refine wpIn_seq_k (fun K18 hK18 => ?_)
          refine wpIn_region_lit ?_
          refine wpi_exG (v := .int .i64 22) (fun _ => trivial) (wn rfl) rfl (ex_assign rfl rfl) ?_
          refine wpListIn_nil ?_
          simp only [Act.put, List.setIfInBounds_toArray, List.set_cons_succ, List.set_cons_zero]
          refine then_normal (hK18 _ _ ?_)
          clear hK18 K18
          refine wpIn_ret ?_
          refine blk_ret ?_
          refine then_ret ?_
          clear hK4 K4
          refine bodyPost_ret (results_tmp rfl _ _ _) rfl ?_
          have hres : saveOf D from_ each gen failed (sn : Int) l = ⟨22, gen, failed, D⟩ := by
            unfold saveOf
            rw [if_neg (by rw [hc6]; decide), if_neg (by omega), if_pos (by omega)]
          rw [hres]
          exact ⟨_, rfl, (((hv.front 2 rfl).front 2 rfl).sub (List.Sublist.cons_cons _ (List.Sublist.cons_cons _ (List.Sublist.cons _ (List.Sublist.refl _)))))⟩
        · refine region_st mixed [.pointer (some ⟨b2, 1, none⟩), .slice a l.length cap, .int .i64 (l.length : Int), .pointer (some ⟨q, 0, none⟩), undef, .bool false, .bool false] [4] [⟨fun vals w => vals = [] ∧ Inv B (Res.cell b2 [.int .i64 (sn : Int), .slice a l.length cap] 55 :: Res.cell q [.pointer (some ⟨p, 0, none⟩), .int .i64 (from_ : Int), .int .i64 (each : Int), .int .i64 (gen : Int), .bool failed] 102 :: diskR p D F :: H) w, fun _ _ _ ⟨h, hi⟩ he => ⟨h, hi.ext he⟩⟩, ⟨fun vals w => vals = [.int .i64 (roomOf each : Int)] ∧ Inv B (Res.cell b2 [.int .i64 (sn : Int), .slice a l.length cap] 55 :: Res.cell q [.pointer (some ⟨p, 0, none⟩), .int .i64 (from_ : Int), .int .i64 (each : Int), .int .i64 (gen : Int), .bool failed] 102 :: diskR p D F :: H) w, fun _ _ _ ⟨h, hi⟩ he => ⟨h, hi.ext he⟩⟩] 48 rfl (by kernel_rfl) ⟨rfl, hv⟩ ⟨?_, ?_, ?_, ?_, ?_, ?_, ?_, trivial⟩ ?_
          · intro aa ww vals hJ hR
            exact add_step' rfl (Ex.adds' (ex_field rfl (show aa.eval (.tmp 3) = _ from hR.keep 3 rfl) (s4fa55_1 _ _ _)) (wn rfl) rfl)
          · intro aa ww vals hJ hR
            have h2 : vals.length ≤ 1 := JS.le (by rfl) hJ
            rcases (show vals.length = 0 ∨ vals.length = 1 by omega) with hl | hl
            · obtain ⟨hvals, hv⟩ := hJ.at0 hl
              exact add_step' rfl (Ex.adds' (ex_load rfl (show aa.eval (.tmp 21) = _ from hR.v 0 21 rfl rfl rfl rfl) (run_load1 s4na24 (hv.load 0 1 rfl rfl))) (wn rfl) rfl)
            · obtain ⟨hvals, hv⟩ := hJ.at0 hl
              exact add_step' rfl (Ex.adds' (ex_load rfl (show aa.eval (.tmp 21) = _ from hR.v 0 21 rfl rfl rfl rfl) (run_load1 s4na24 (hv.load 0 1 rfl rfl))) (wn rfl) rfl)
          · intro aa ww vals hJ hR
            exact add_step' rfl (Ex.adds' (ex_len0 Try.underlying24 rfl (show aa.eval (.tmp 22) = _ from hR.v 1 22 rfl rfl rfl rfl)) (wn rfl) rfl)
          · intro aa ww vals hJ hR
            exact add_step' rfl (Ex.adds' (ex_move rfl (show aa.eval (.tmp 0) = _ from hR.keep 0 rfl)) (wn rfl) rfl)
          · intro aa ww vals hJ hR
            refine mem_step' rfl fun hvl => ?_
            have hl : vals.length = 0 := hvl
            obtain ⟨hvals, hv⟩ := hJ.at0 hl
            refine stepMem_calls s4callable34 (wn rfl) rfl (args := #[.pointer (some ⟨q, 0, none⟩)]) (by simp only [List.map_toArray, List.map_cons, List.map_nil]; rw [show aa.eval (.tmp 24) = .pointer (some ⟨q, 0, none⟩) from hR.v 3 24 rfl rfl rfl rfl] <;> rfl) ((slotsRoom _ _ _ q p from_ each gen failed he1 he2 (hv.front 1 rfl)).mono ?_)
            rintro e w19 ⟨rfl, rfl⟩
            refine ⟨_, rfl, JS.next hl ⟨by rw [hvals]; rfl, hv⟩⟩
          · intro aa ww vals hJ hR
            have h1 : 0 < vals.length := hR.lo 4 (by simp) rfl
            have hl : vals.length = 1 := by have := JS.le (n := 1) (by rfl) hJ; omega
            obtain ⟨hvals, hv⟩ := hJ.at0 hl
            exact add_step' rfl (Ex.adds' (ex_gtr (k := .i64) (m := (l.length : Int)) (n := (roomOf each : Int)) rfl (show aa.eval (.tmp 23) = _ from hR.v 2 23 rfl rfl rfl rfl) (show aa.eval (.tmp 25) = _ from (hR.val 4 25 rfl rfl rfl).trans (by rw [hvals]; rfl)) (decide_eq_false hb15)) (wn rfl) rfl)
          · intro aa ww vals hJ hR
            exact add_step' rfl (Ex.adds' (ex_assign rfl (show aa.eval (.tmp 26) = _ from hR.v 5 26 rfl rfl rfl rfl)) (wn rfl) rfl)
          rintro w20 vals ⟨rfl, hv⟩
          rw [show mixV [4] [.int .i64 (roomOf each : Int)] 0 [.pointer (some ⟨b2, 1, none⟩), .slice a l.length cap, .int .i64 (l.length : Int), .pointer (some ⟨q, 0, none⟩), undef, .bool false, .bool false] = [.pointer (some ⟨b2, 1, none⟩), .slice a l.length cap, .int .i64 (l.length : Int), .pointer (some ⟨q, 0, none⟩), .int .i64 (roomOf each : Int), .bool false, .bool false] from rfl]
          simp only [putAll, Act.put, List.setIfInBounds_toArray, List.set_cons_succ, List.set_cons_zero]
          refine then_normal (hK13 _ _ ?_)
          clear hK13 K13
          refine wpIn_cond_false rfl ?_
          refine wpIn_skip ?_
          refine blk_normal ?_
          refine then_normal (hK4 _ _ ?_)
          clear hK4 K4
          refine wpIn_seq_k (fun K21 hK21 => ?_)
          refine wpIn_seq_k (fun K22 hK22 => ?_)
          refine region_st mixed [.pointer (some ⟨q, 0, none⟩), .agg #[.int .i64 (sn : Int), .slice a l.length cap], .pointer (some ⟨q, 0, none⟩), .pointer (some ⟨q, 0, none⟩), .pointer (some ⟨q, 3, none⟩), .int .i64 (gen : Int), .int .i64 ((gen + 1 : Nat) : Int), undef, .int .i64 ((putAll' D at_ l (headOf (gen + 1) sn l)).1)] [7] [⟨fun vals w => vals = [] ∧ Inv B (Res.cell b2 [.int .i64 (sn : Int), .slice a l.length cap] 55 :: Res.cell q [.pointer (some ⟨p, 0, none⟩), .int .i64 (from_ : Int), .int .i64 (each : Int), .int .i64 (gen : Int), .bool failed] 102 :: diskR p D F :: H) w, fun _ _ _ ⟨h, hi⟩ he => ⟨h, hi.ext he⟩⟩, ⟨fun vals w => ∃ F23, vals = [.int .i64 ((putAll' D at_ l (headOf (gen + 1) sn l)).1)] ∧ Inv B (Res.cell q [.pointer (some ⟨p, 0, none⟩), .int .i64 (from_ : Int), .int .i64 (each : Int), .int .i64 (gen : Int), .bool failed] 102 :: diskR p ((putAll' D at_ l (headOf (gen + 1) sn l)).2) F23 :: Res.cell b2 [.int .i64 (sn : Int), .slice a l.length cap] 55 :: H) w, fun _ _ _ ⟨F23, h, hi⟩ he => ⟨F23, h, hi.ext he⟩⟩] 48 rfl (by kernel_rfl) ⟨rfl, hv⟩ ⟨?_, ?_, ?_, ?_, ?_, ?_, ?_, ?_, ?_, trivial⟩ ?_
          · intro aa ww vals hJ hR
            exact add_step' rfl (Ex.adds' (ex_move rfl (show aa.eval (.tmp 0) = _ from hR.keep 0 rfl)) (wn rfl) rfl)
          · intro aa ww vals hJ hR
            have h2 : vals.length ≤ 0 := hR.hi 7 (by simp) rfl
            have hl : vals.length = 0 := by omega
            obtain ⟨hvals, hv⟩ := hJ.at0 hl
            exact add_step' rfl (Ex.adds' (ex_load rfl (show aa.eval (.tmp 3) = _ from hR.keep 3 rfl) (run_load_mid (pre := []) (mid := [.int .i64 (sn : Int), .slice a l.length cap]) (post := []) s4wd55 (show Blk _ b2 ([] ++ [.int .i64 (sn : Int), .slice a l.length cap] ++ []) _ from hv.get 0 rfl) rfl)) (wn rfl) rfl)
          · intro aa ww vals hJ hR
            exact add_step' rfl (Ex.adds' (ex_move rfl (show aa.eval (.tmp 0) = _ from hR.keep 0 rfl)) (wn rfl) rfl)
          · intro aa ww vals hJ hR
            exact add_step' rfl (Ex.adds' (ex_nil rfl (show aa.eval (.tmp 29) = _ from hR.v 2 29 rfl rfl rfl rfl)) (wn rfl) rfl)
          · intro aa ww vals hJ hR
            exact add_step' rfl (Ex.adds' (ex_field rfl (show aa.eval (.tmp 30) = _ from hR.v 3 30 rfl rfl rfl rfl) (s4fa102_3 _ _ _)) (wn rfl) rfl)
          · intro aa ww vals hJ hR
            have h2 : vals.length ≤ 0 := hR.hi 7 (by simp) rfl
            have hl : vals.length = 0 := by omega
            obtain ⟨hvals, hv⟩ := hJ.at0 hl
            exact add_step' rfl (Ex.adds' (ex_load rfl (show aa.eval (.tmp 31) = _ from hR.v 4 31 rfl rfl rfl rfl) (run_load1 s4na3 (hv.load 1 3 rfl rfl))) (wn rfl) rfl)
          · intro aa ww vals hJ hR
            exact add_step' rfl (Ex.adds' (ex_add (m := (gen : Int)) (n := 1) rfl (show aa.eval (.tmp 32) = _ from hR.v 5 32 rfl rfl rfl rfl) rfl (by rw [i64_in (by omega)]; omega)) (wn rfl) rfl)
          · intro aa ww vals hJ hR
            refine mem_step' rfl fun hvl => ?_
            have hl : vals.length = 0 := hvl
            obtain ⟨hvals, hv⟩ := hJ.at0 hl
            replace hv := hv.front 2 rfl
            simp only [List.eraseIdx_cons_succ, List.eraseIdx_cons_zero] at hv
            replace hv := hv.front 2 rfl
            simp only [List.eraseIdx_cons_succ, List.eraseIdx_cons_zero] at hv
            refine stepMem_calls s4callable53 (wn rfl) rfl (args := #[.pointer (some ⟨q, 0, none⟩), .agg #[.int .i64 (sn : Int), .slice a l.length cap], .int .i64 ((gen + 1 : Nat) : Int)]) (by simp only [List.map_toArray, List.map_cons, List.map_nil]; rw [show aa.eval (.tmp 27) = .pointer (some ⟨q, 0, none⟩) from hR.v 0 27 rfl rfl rfl rfl, show aa.eval (.tmp 28) = .agg #[.int .i64 (sn : Int), .slice a l.length cap] from hR.v 1 28 rfl rfl rfl rfl, show aa.eval (.tmp 33) = .int .i64 ((gen + 1 : Nat) : Int) from hR.v 6 33 rfl rfl rfl rfl] <;> rfl) ((slotsWrite _ _ _ q p from_ each gen failed D _ sn a _ cap l (gen + 1) at_ hat (by omega) (by omega) he1 he2 hfit hdm hpl rfl (by omega) (by omega) hok (hr.more (Base.Le.refl _) (fun r hr => List.mem_cons_of_mem _ (hr))) hv).mono ?_)
            rintro e w24 ⟨F23, rfl, hv⟩
            refine ⟨_, rfl, JS.next hl ⟨F23, by rw [hvals]; rfl, hv⟩⟩
          · intro aa ww vals hJ hR
            have h1 : 0 < vals.length := hR.lo 7 (by simp) rfl
            have hl : vals.length = 1 := by have := JS.le (n := 1) (by rfl) hJ; omega
            obtain ⟨F23, hvals, hv⟩ := hJ.at0 hl
            exact add_step' rfl (Ex.adds' (ex_assign rfl (show aa.eval (.tmp 34) = _ from (hR.val 7 34 rfl rfl rfl).trans (by rw [hvals]; rfl))) (wn rfl) rfl)
          rintro w25 vals ⟨F23, rfl, hv⟩
          rw [show mixV [7] [.int .i64 ((putAll' D at_ l (headOf (gen + 1) sn l)).1)] 0 [.pointer (some ⟨q, 0, none⟩), .agg #[.int .i64 (sn : Int), .slice a l.length cap], .pointer (some ⟨q, 0, none⟩), .pointer (some ⟨q, 0, none⟩), .pointer (some ⟨q, 3, none⟩), .int .i64 (gen : Int), .int .i64 ((gen + 1 : Nat) : Int), undef, .int .i64 ((putAll' D at_ l (headOf (gen + 1) sn l)).1)] = [.pointer (some ⟨q, 0, none⟩), .agg #[.int .i64 (sn : Int), .slice a l.length cap], .pointer (some ⟨q, 0, none⟩), .pointer (some ⟨q, 0, none⟩), .pointer (some ⟨q, 3, none⟩), .int .i64 (gen : Int), .int .i64 ((gen + 1 : Nat) : Int), .int .i64 ((putAll' D at_ l (headOf (gen + 1) sn l)).1), .int .i64 ((putAll' D at_ l (headOf (gen + 1) sn l)).1)] from rfl]
          simp only [putAll, Act.put, List.setIfInBounds_toArray, List.set_cons_succ, List.set_cons_zero]
          refine then_normal (hK22 _ _ ?_)
          clear hK22 K22
          refine wpIn_seq_k (fun K26 hK26 => ?_)
          refine wpIn_region_lit ?_
          refine wpi_exG (v := .int .i64 ((putAll' D at_ l (headOf (gen + 1) sn l)).1)) (fun _ => trivial) (wn rfl) rfl (ex_move rfl rfl) ?_
          by_cases hb27 : ((putAll' D at_ l (headOf (gen + 1) sn l)).1) ≠ 0
          · refine wpi_exG (v := .bool true) (fun _ => trivial) (wn rfl) rfl (ex_neq (k := .i64) (m := ((putAll' D at_ l (headOf (gen + 1) sn l)).1)) (n := 0) rfl rfl rfl (decide_eq_true hb27)) ?_
            refine wpListIn_nil ?_
            simp only [Act.put, List.setIfInBounds_toArray, List.set_cons_succ, List.set_cons_zero]
            refine then_normal (hK26 _ _ ?_)
            clear hK26 K26
            refine wpIn_cond_true rfl ?_
            refine wpIn_seq_k (fun K28 hK28 => ?_)
            refine wpIn_region_lit ?_
            refine wpi_exG (v := .pointer (some ⟨q, 0, none⟩)) (fun _ => trivial) (wn rfl) rfl (ex_move rfl rfl) ?_
            refine wpi_exG (v := .pointer (some ⟨q, 0, none⟩)) (fun _ => trivial) (wn rfl) rfl (ex_nil rfl rfl) ?_
            refine wpi_exG (v := .pointer (some ⟨q, 4, none⟩)) (fun _ => trivial) (wn rfl) rfl (ex_field rfl rfl (s4fa102_4 _ _ _)) ?_
            simp only [Act.put, List.setIfInBounds_toArray, List.set_cons_succ, List.set_cons_zero]
            refine sl_storeAt 0 (v := .bool true) (L' := [.pointer (some ⟨p, 0, none⟩), .int .i64 (from_ : Int), .int .i64 (each : Int), .int .i64 (gen : Int), .bool true]) (fun _ => trivial) (wn rfl) rfl rfl rfl hv rfl s4sz4 (by simp) rfl rfl rfl (fun w29 hv => ?_)
            simp only [List.set_cons_succ, List.set_cons_zero] at hv
            refine wpListIn_nil ?_
            simp only [Act.put, List.setIfInBounds_toArray, List.set_cons_succ, List.set_cons_zero]
            refine then_normal (hK28 _ _ ?_)
            clear hK28 K28
            refine wpIn_seq_k (fun K30 hK30 => ?_)
            refine wpIn_region_lit ?_
            refine wpi_exG (v := .int .i64 ((putAll' D at_ l (headOf (gen + 1) sn l)).1)) (fun _ => trivial) (wn rfl) rfl (ex_move rfl rfl) ?_
            refine wpi_exG (v := .int .i64 ((putAll' D at_ l (headOf (gen + 1) sn l)).1)) (fun _ => trivial) (wn rfl) rfl (ex_assign rfl rfl) ?_
            refine wpListIn_nil ?_
            simp only [Act.put, List.setIfInBounds_toArray, List.set_cons_succ, List.set_cons_zero]
            refine then_normal (hK30 _ _ ?_)
            clear hK30 K30
            refine wpIn_ret ?_
            refine then_ret ?_
            clear hK21 K21
            refine bodyPost_ret (results_tmp rfl _ _ _) rfl ?_
            have hres : saveOf D from_ each gen failed (sn : Int) l = ⟨(putAll' D at_ l (headOf (gen + 1) sn l)).1, gen, true, (putAll' D at_ l (headOf (gen + 1) sn l)).2⟩ := by
              unfold saveOf
              rw [if_neg (by rw [hc6]; decide), if_neg (by omega), if_neg (by omega), Int.toNat_natCast, hat, if_pos hb27]
            rw [hres]
            exact ⟨_, rfl, (((hv.front 1 rfl).front 1 rfl).sub (List.Sublist.cons_cons _ (List.Sublist.cons_cons _ (List.Sublist.cons _ (List.Sublist.refl _)))))⟩
          · refine wpi_exG (v := .bool false) (fun _ => trivial) (wn rfl) rfl (ex_neq (k := .i64) (m := ((putAll' D at_ l (headOf (gen + 1) sn l)).1)) (n := 0) rfl rfl rfl (decide_eq_false hb27)) ?_
            refine wpListIn_nil ?_
            simp only [Act.put, List.setIfInBounds_toArray, List.set_cons_succ, List.set_cons_zero]
            refine then_normal (hK26 _ _ ?_)
            clear hK26 K26
            refine wpIn_cond_false rfl ?_
            refine wpIn_skip ?_
            refine then_normal (hK21 _ _ ?_)
            clear hK21 K21
            refine wpIn_seq_k (fun K31 hK31 => ?_)
            refine wpIn_region_lit ?_
            refine wpi_exG (v := .pointer (some ⟨q, 0, none⟩)) (fun _ => trivial) (wn rfl) rfl (ex_move rfl rfl) ?_
            refine wpi_exG (v := .pointer (some ⟨q, 0, none⟩)) (fun _ => trivial) (wn rfl) rfl (ex_nil rfl rfl) ?_
            refine wpi_exG (v := .pointer (some ⟨q, 3, none⟩)) (fun _ => trivial) (wn rfl) rfl (ex_field rfl rfl (s4fa102_3 _ _ _)) ?_
            simp only [Act.put, List.setIfInBounds_toArray, List.set_cons_succ, List.set_cons_zero]
            refine wpi_exG (v := .int .i64 (gen : Int)) (fun _ => trivial) (wn rfl) rfl (ex_load rfl rfl (run_load1 s4na3 (hv.load 0 3 rfl rfl))) ?_
            refine wpi_exG (v := .int .i64 ((gen + 1 : Nat) : Int)) (fun _ => trivial) (wn rfl) rfl (ex_add (m := (gen : Int)) (n := 1) rfl rfl rfl (by rw [i64_in (by omega)]; omega)) ?_
            refine wpi_exG (v := .pointer (some ⟨q, 0, none⟩)) (fun _ => trivial) (wn rfl) rfl (ex_nil rfl rfl) ?_
            simp only [Act.put, List.setIfInBounds_toArray, List.set_cons_succ, List.set_cons_zero]
            refine wpi_exG (v := .pointer (some ⟨q, 3, none⟩)) (fun _ => trivial) (wn rfl) rfl (ex_field rfl rfl (s4fa102_3 _ _ _)) ?_
            refine sl_storeAt 0 (v := .int .i64 ((gen + 1 : Nat) : Int)) (L' := [.pointer (some ⟨p, 0, none⟩), .int .i64 (from_ : Int), .int .i64 (each : Int), .int .i64 ((gen + 1 : Nat) : Int), .bool failed]) (fun _ => trivial) (wn rfl) rfl rfl rfl hv rfl s4sz3 (by simp) rfl rfl rfl (fun w32 hv => ?_)
            simp only [List.set_cons_succ, List.set_cons_zero] at hv
            refine wpListIn_nil ?_
            simp only [Act.put, List.setIfInBounds_toArray, List.set_cons_succ, List.set_cons_zero]
            refine then_normal (hK31 _ _ ?_)
            clear hK31 K31
            refine wpIn_seq_k (fun K33 hK33 => ?_)
            refine wpIn_region_lit ?_
            refine wpi_exG (v := .int .i64 0) (fun _ => trivial) (wn rfl) rfl (ex_assign rfl rfl) ?_
            refine wpListIn_nil ?_
            simp only [Act.put, List.setIfInBounds_toArray, List.set_cons_succ, List.set_cons_zero]
            refine then_normal (hK33 _ _ ?_)
            clear hK33 K33
            refine wpIn_ret ?_
            refine bodyPost_ret (results_tmp rfl _ _ _) rfl ?_
            have hres : saveOf D from_ each gen failed (sn : Int) l = ⟨0, (gen + 1 : Nat), failed, (putAll' D at_ l (headOf (gen + 1) sn l)).2⟩ := by
              unfold saveOf
              rw [if_neg (by rw [hc6]; decide), if_neg (by omega), if_neg (by omega), Int.toNat_natCast, hat, if_neg hb27]
            rw [hres]
            exact ⟨_, rfl, (((hv.front 1 rfl).front 1 rfl).sub (List.Sublist.cons_cons _ (List.Sublist.cons_cons _ (List.Sublist.cons _ (List.Sublist.refl _)))))⟩
end Go.Proofs.Ytkannfkjnohdlaa
