/- slots.Save -/
import Derived.Test.YtkannfkjnohdlaaSlots3
namespace Go.Proofs.Ytkannfkjnohdlaa
open Go.RowKit Go.Pm
structure SaveRes where
  err : Int
  gen : Nat
  failed : Bool
  disk : Disk
def saveOf (D : Disk) (from_ each gen : Nat) (failed : Bool) (st : Int) (l : List UInt8) : SaveRes :=
  if failed = true then ⟨20, gen, failed, D⟩ else if st < 0 ∨ st > 1152921504606846975 then ⟨2, gen, failed, D⟩ else if l.length > roomOf each then ⟨22, gen, failed, D⟩ else
  if (putAll' D (from_ + ((gen + 1) % 2) * each) l (headOf (gen + 1) st.toNat l)).1 ≠ 0 then ⟨(putAll' D (from_ + ((gen + 1) % 2) * each) l (headOf (gen + 1) st.toNat l)).1, gen, true, (putAll' D (from_ + ((gen + 1) % 2) * each) l (headOf (gen + 1) st.toNat l)).2⟩
  else ⟨0, gen + 1, failed, (putAll' D (from_ + ((gen + 1) % 2) * each) l (headOf (gen + 1) st.toNat l)).2⟩
theorem room_le (each : Nat) : roomOf each ≤ 64 * (each - 1) ∧ roomOf each ≤ 1048576 := by unfold roomOf; split <;> omega

theorem s4fa102_4 (w : World) (b o : Nat) : (Instr.fieldAt 102 (.pointer (some ⟨b, o, none⟩)) 4).run Try.prog w = .ok (.pointer (some ⟨b, o + 4, none⟩)) w := by kernel_rfl
theorem s4na4 (w : World) : (isAgg 4).run Try.prog w = .ok false w := by kernel_rfl
theorem s4fa55_0 (w : World) (b o : Nat) : (Instr.fieldAt 55 (.pointer (some ⟨b, o, none⟩)) 0).run Try.prog w = .ok (.pointer (some ⟨b, o + 0, none⟩)) w := by kernel_rfl
theorem s4na3 (w : World) : (isAgg 3).run Try.prog w = .ok false w := by kernel_rfl
theorem s4fa55_1 (w : World) (b o : Nat) : (Instr.fieldAt 55 (.pointer (some ⟨b, o, none⟩)) 1).run Try.prog w = .ok (.pointer (some ⟨b, o + 1, none⟩)) w := by kernel_rfl
theorem s4na24 (w : World) : (isAgg 24).run Try.prog w = .ok false w := by kernel_rfl
theorem s4callable34 : Callable Try.prog 34 := ⟨_, Try.func34, by kernel_rfl, by kernel_rfl⟩
theorem s4wd55 : Wide Try.prog 55 2 := wide_of (fun w => by kernel_rfl) (by kernel_rfl)
theorem s4fa102_3 (w : World) (b o : Nat) : (Instr.fieldAt 102 (.pointer (some ⟨b, o, none⟩)) 3).run Try.prog w = .ok (.pointer (some ⟨b, o + 3, none⟩)) w := by kernel_rfl
theorem s4callable53 : Callable Try.prog 53 := ⟨_, Try.func53, by kernel_rfl, by kernel_rfl⟩
theorem s4sz4 : (Try.prog.info? 4).map (·.size) = some 1 := by kernel_rfl
theorem s4sz3 : (Try.prog.info? 3).map (·.size) = some 1 := by kernel_rfl
set_option maxRecDepth 100000 in
set_option maxHeartbeats 1000000 in
theorem slotsSave (B : Base) (H : List Res) (w : World) (q p from_ each gen : Nat) (failed : Bool) (D : Disk) (F : List Nat) (st : Int) (a : Option Addr) (n cap : Nat) (l : List UInt8) (at_ : Nat) (hat : from_ + ((gen + 1) % 2) * each = at_) (hg : gen < 4611686018427387904) (he1 : 1 ≤ each) (he2 : each ≤ 65536) (hfit : at_ + each ≤ D.dur.length) (hdm : D.dur.length ≤ 65536) (hpl : D.pend.length ≤ 1000000) (hn : l.length = n) (hok : SliceOk a n cap) (hr : RdV B H a (l.map B8)) (hv : Inv B (Res.cell q [.pointer (some ⟨p, 0, none⟩), .int .i64 (from_ : Int), .int .i64 (each : Int), .int .i64 (gen : Int), .bool failed] 102 :: diskR p D F :: H) w) :
    Calls Try.prog 36 #[.pointer (some ⟨q, 0, none⟩), .agg #[.int .i64 st, .slice a n cap]] w fun e w' => ∃ F', e = .returned (.int .i64 (saveOf D from_ each gen failed st l).err) ∧ Inv B (Res.cell q [.pointer (some ⟨p, 0, none⟩), .int .i64 (from_ : Int), .int .i64 (each : Int), .int .i64 ((saveOf D from_ each gen failed st l).gen : Int), .bool (saveOf D from_ each gen failed st l).failed] 102 :: diskR p (saveOf D from_ each gen failed st l).disk F' :: H) w' := by
  subst hn
  refine (callsIn_wide (n := 5)).1 ?_
  refine callsIn_of_wp Try.func36 rfl trivial ?_
  simp only [Try.ntmps36, List.size_toArray, List.length_cons, List.length_nil, Nat.reduceAdd, Nat.reduceSub, Array.replicate_succ, Array.replicate_zero, List.push_toArray, List.append_toArray, List.nil_append, List.cons_append]
  refine wpIn_seq_k (fun K1 hK1 => ?_)
  refine wpIn_region_lit ?_
  refine sl_box (L := [.int .i64 st, .slice a l.length cap]) (fun _ => trivial) (wn rfl) rfl (p := .agg #[.int .i64 st, .slice a l.length cap]) rfl hv (fun w => by kernel_rfl) (fun b2 w3 hv => ?_)
  refine wpi_exG (v := .int .i64 0) (fun _ => trivial) (wn rfl) rfl (ex_assign rfl rfl) ?_
  refine wpListIn_nil ?_
  simp only [Act.put, List.setIfInBounds_toArray, List.set_cons_succ, List.set_cons_zero]
  refine then_normal (hK1 _ _ ?_)
  clear hK1 K1
  refine wpIn_seq_k (fun K4 hK4 => ?_)
  refine wpIn_block ?_
  refine wpIn_seq_k (fun K5 hK5 => ?_)
  refine wpIn_region_lit ?_
  refine wpi_exG (v := .pointer (some ⟨q, 0, none⟩)) (fun _ => trivial) (wn rfl) rfl (ex_move rfl rfl) ?_
  refine wpi_exG (v := .pointer (some ⟨q, 0, none⟩)) (fun _ => trivial) (wn rfl) rfl (ex_nil rfl rfl) ?_
  refine wpi_exG (v := .pointer (some ⟨q, 4, none⟩)) (fun _ => trivial) (wn rfl) rfl (ex_field rfl rfl (s4fa102_4 _ _ _)) ?_
  simp only [Act.put, List.setIfInBounds_toArray, List.set_cons_succ, List.set_cons_zero]
  refine wpi_exG (v := .bool failed) (fun _ => trivial) (wn rfl) rfl (ex_load rfl rfl (run_load1 s4na4 (hv.load 1 4 rfl rfl))) ?_
  refine wpi_exG (v := .bool failed) (fun _ => trivial) (wn rfl) rfl (ex_assign rfl rfl) ?_
  refine wpListIn_nil ?_
  simp only [Act.put, List.setIfInBounds_toArray, List.set_cons_succ, List.set_cons_zero]
  refine then_normal (hK5 _ _ ?_)
  clear hK5 K5
  refine wpIn_cond_split (t := failed) rfl (fun hc6 => ?_) (fun hc6 => ?_)
  · refine wpIn_seq_k (fun K7 hK7 => ?_)
    refine wpIn_region_lit ?_
    refine wpi_exG (v := .int .i64 20) (fun _ => trivial) (wn rfl) rfl (ex_assign rfl rfl) ?_
    refine wpListIn_nil ?_
    simp only [Act.put, List.setIfInBounds_toArray, List.set_cons_succ, List.set_cons_zero]
    refine then_normal (hK7 _ _ ?_)
    clear hK7 K7
    refine wpIn_ret ?_
    refine blk_ret ?_
    refine then_ret ?_
    clear hK4 K4
    refine bodyPost_ret (results_tmp rfl _ _ _) rfl ?_
    have hres : saveOf D from_ each gen failed st l = ⟨20, gen, failed, D⟩ := by
      unfold saveOf
      rw [if_pos hc6]
    rw [hres]
    exact ⟨_, rfl, (((hv.front 2 rfl).front 2 rfl).sub (List.Sublist.cons_cons _ (List.Sublist.cons_cons _ (List.Sublist.cons _ (List.Sublist.refl _)))))⟩
  · refine wpIn_seq_k (fun K8 hK8 => ?_)
    refine wpIn_region_lit ?_
    refine wpi_exG (v := .pointer (some ⟨b2, 0, none⟩)) (fun _ => trivial) (wn rfl) rfl (ex_field rfl rfl (s4fa55_0 _ _ _)) ?_
    refine wpi_exG (v := .int .i64 st) (fun _ => trivial) (wn rfl) rfl (ex_load rfl rfl (run_load1 s4na3 (hv.load 0 0 rfl rfl))) ?_
    by_cases hb9 : st < 0
    · refine wpi_exG (v := .bool true) (fun _ => trivial) (wn rfl) rfl (ex_lss (k := .i64) (m := st) (n := 0) rfl rfl rfl (decide_eq_true hb9)) ?_
      simp only [Act.put, List.setIfInBounds_toArray, List.set_cons_succ, List.set_cons_zero]
      refine wpi_exG (v := .bool true) (fun _ => trivial) (wn rfl) rfl (ex_move rfl rfl) ?_
      refine wpi_not (fun _ => trivial) (wanted_not (j := 3) (d := 15) (b := false) (b' := true) rfl rfl rfl (by decide)) ?_
      refine wpi_not (fun _ => trivial) (wanted_not (j := 3) (d := 15) (b := false) (b' := true) rfl rfl rfl (by decide)) ?_
      simp only [Act.put, List.setIfInBounds_toArray, List.set_cons_succ, List.set_cons_zero]
      refine wpi_not (fun _ => trivial) (wanted_not (j := 3) (d := 15) (b := false) (b' := true) rfl rfl rfl (by decide)) ?_
      refine wpi_exG (v := .bool true) (fun _ => trivial) (wn rfl) rfl (ex_pick (b := true) rfl rfl rfl) ?_
      refine wpi_exG (v := .bool true) (fun _ => trivial) (wn rfl) rfl (ex_assign rfl rfl) ?_
      refine wpListIn_nil ?_
      simp only [Act.put, List.setIfInBounds_toArray, List.set_cons_succ, List.set_cons_zero]
      refine then_normal (hK8 _ _ ?_)
      clear hK8 K8
      refine wpIn_cond_true rfl ?_
      refine wpIn_seq_k (fun K10 hK10 => ?_)
      refine wpIn_region_lit ?_
      refine wpi_exG (v := .int .i64 2) (fun _ => trivial) (wn rfl) rfl (ex_assign rfl rfl) ?_
      refine wpListIn_nil ?_
      simp only [Act.put, List.setIfInBounds_toArray, List.set_cons_succ, List.set_cons_zero]
      refine then_normal (hK10 _ _ ?_)
      clear hK10 K10
      refine wpIn_ret ?_
      refine blk_ret ?_
      refine then_ret ?_
      clear hK4 K4
      refine bodyPost_ret (results_tmp rfl _ _ _) rfl ?_
      have hres : saveOf D from_ each gen failed st l = ⟨2, gen, failed, D⟩ := by
        unfold saveOf
        rw [if_neg (by rw [hc6]; decide), if_pos (.inl hb9)]
      rw [hres]
      exact ⟨_, rfl, (((hv.front 2 rfl).front 2 rfl).sub (List.Sublist.cons_cons _ (List.Sublist.cons_cons _ (List.Sublist.cons _ (List.Sublist.refl _)))))⟩
    · refine wpi_exG (v := .bool false) (fun _ => trivial) (wn rfl) rfl (ex_lss (k := .i64) (m := st) (n := 0) rfl rfl rfl (decide_eq_false hb9)) ?_
      simp only [Act.put, List.setIfInBounds_toArray, List.set_cons_succ, List.set_cons_zero]
      refine wpi_exG (v := .bool false) (fun _ => trivial) (wn rfl) rfl (ex_move rfl rfl) ?_
      refine wpi_exG (v := .pointer (some ⟨b2, 0, none⟩)) (fun _ => trivial) (wanted_of (j := 3) (d := 15) (b := false) rfl rfl rfl) rfl (ex_field rfl rfl (s4fa55_0 _ _ _)) ?_
      refine wpi_exG (v := .int .i64 st) (fun _ => trivial) (wanted_of (j := 3) (d := 15) (b := false) rfl rfl rfl) rfl (ex_load rfl rfl (run_load1 s4na3 (hv.load 0 0 rfl rfl))) ?_
      simp only [Act.put, List.setIfInBounds_toArray, List.set_cons_succ, List.set_cons_zero]
      by_cases hb11 : st > 1152921504606846975
      · refine wpi_exG (v := .bool true) (fun _ => trivial) (wanted_of (j := 3) (d := 15) (b := false) rfl rfl rfl) rfl (ex_gtr (k := .i64) (m := st) (n := 1152921504606846975) rfl rfl rfl (decide_eq_true hb11)) ?_
        refine wpi_exG (v := .bool true) (fun _ => trivial) (wn rfl) rfl (ex_pick (b := false) rfl rfl rfl) ?_
        refine wpi_exG (v := .bool true) (fun _ => trivial) (wn rfl) rfl (ex_assign rfl rfl) ?_
        refine wpListIn_nil ?_
        simp only [Act.put, List.setIfInBounds_toArray, List.set_cons_succ, List.set_cons_zero]
        refine then_normal (hK8 _ _ ?_)
        clear hK8 K8
        refine wpIn_cond_true rfl ?_
        refine wpIn_seq_k (fun K12 hK12 => ?_)
        refine wpIn_region_lit ?_
        refine wpi_exG (v := .int .i64 2) (fun _ => trivial) (wn rfl) rfl (ex_assign rfl rfl) ?_
        refine wpListIn_nil ?_
        simp only [Act.put, List.setIfInBounds_toArray, List.set_cons_succ, List.set_cons_zero]
        refine then_normal (hK12 _ _ ?_)
        clear hK12 K12
        refine wpIn_ret ?_
        refine blk_ret ?_
        refine then_ret ?_
        clear hK4 K4
        refine bodyPost_ret (results_tmp rfl _ _ _) rfl ?_
        have hres : saveOf D from_ each gen failed st l = ⟨2, gen, failed, D⟩ := by
          unfold saveOf
          rw [if_neg (by rw [hc6]; decide), if_pos (.inr hb11)]
        rw [hres]
        exact ⟨_, rfl, (((hv.front 2 rfl).front 2 rfl).sub (List.Sublist.cons_cons _ (List.Sublist.cons_cons _ (List.Sublist.cons _ (List.Sublist.refl _)))))⟩
      · refine wpi_exG (v := .bool false) (fun _ => trivial) (wanted_of (j := 3) (d := 15) (b := false) rfl rfl rfl) rfl (ex_gtr (k := .i64) (m := st) (n := 1152921504606846975) rfl rfl rfl (decide_eq_false hb11)) ?_
        obtain ⟨sn, rfl⟩ : ∃ sn : Nat, st = (sn : Int) := ⟨st.toNat, by omega⟩
        have hrm := room_le each
        refine wpi_exG (v := .bool false) (fun _ => trivial) (wn rfl) rfl (ex_pick (b := false) rfl rfl rfl) ?_
        refine wpi_exG (v := .bool false) (fun _ => trivial) (wn rfl) rfl (ex_assign rfl rfl) ?_
        refine wpListIn_nil ?_
        simp only [Act.put, List.setIfInBounds_toArray, List.set_cons_succ, List.set_cons_zero]
        refine then_normal (hK8 _ _ ?_)
        clear hK8 K8
        refine wpIn_cond_false rfl ?_
        refine wpIn_seq_k (fun K13 hK13 => ?_)
        by_cases hb15 : (l.length : Int) > (roomOf each : Int)
        · refine region_st mixed [.pointer (some ⟨b2, 1, none⟩), .slice a l.length cap, .int .i64 (l.length : Int), .pointer (some ⟨q, 0, none⟩), undef, .bool true, .bool true] [4] [⟨fun vals w => vals = [] ∧ Inv B (Res.cell b2 [.int .i64 (sn : Int), .slice a l.length cap] 55 :: Res.cell q [.pointer (some ⟨p, 0, none⟩), .int .i64 (from_ : Int), .int .i64 (each : Int), .int .i64 (gen : Int), .bool failed] 102 :: diskR p D F :: H) w, fun _ _ _ ⟨h, hi⟩ he => ⟨h, hi.ext he⟩⟩, ⟨fun vals w => vals = [.int .i64 (roomOf each : Int)] ∧ Inv B (Res.cell b2 [.int .i64 (sn : Int), .slice a l.length cap] 55 :: Res.cell q [.pointer (some ⟨p, 0, none⟩), .int .i64 (from_ : Int), .int .i64 (each : Int), .int .i64 (gen : Int), .bool failed] 102 :: diskR p D F :: H) w, fun _ _ _ ⟨h, hi⟩ he => ⟨h, hi.ext he⟩⟩] 48 rfl (by kernel_rfl) ⟨rfl, hv⟩ ⟨?_, ?_, ?_, ?_, ?_, ?_, ?_, trivial⟩ ?_
          · intro aa ww vals hJ hR
            exact add_step' rfl (Ex.adds' (ex_field rfl (show aa.eval (.tmp 3) = _ from hR.keep 3 rfl) (s4fa55_1 _ _ _)) (wn rfl) rfl)
          · intro aa ww vals hJ hR
            have h2 : vals.length ≤ 1 := JS.le (by rfl) hJ
            rcases (show vals.length = 0 ∨ vals.length = 1 by omega) with hl | hl
            · obtain ⟨hvals, hv⟩ := hJ.at0 hl
              exact add_step' rfl (Ex.adds' (ex_load rfl (show aa.eval (.tmp 21) = _ from hR.v 0 21 rfl rfl rfl rfl) (run_load1 s4na24 (hv.load 0 1 rfl rfl))) (wn rfl) rfl)
            · obtain ⟨hvals, hv⟩ := hJ.at0 hl
              exact add_step' rfl (Ex.adds' (ex_load rfl (show aa.eval (.tmp 21) = _ from hR.v 0 21 rfl rfl rfl rfl) (run_load1 s4na24 (hv.load 0 1 rfl rfl))) (wn rfl) rfl)
          · intro aa ww vals hJ hR
            exact add_step' rfl (Ex.adds' (ex_len0 Try.underlying24 rfl (show aa.eval (.tmp 22) = _ from hR.v 1 22 rfl rfl rfl rfl)) (wn rfl) rfl)
          · intro aa ww vals hJ hR
            exact add_step' rfl (Ex.adds' (ex_move rfl (show aa.eval (.tmp 0) = _ from hR.keep 0 rfl)) (wn rfl) rfl)
          · intro aa ww vals hJ hR
            refine mem_step' rfl fun hvl => ?_
            have hl : vals.length = 0 := hvl
            obtain ⟨hvals, hv⟩ := hJ.at0 hl
            refine stepMem_calls s4callable34 (wn rfl) rfl (args := #[.pointer (some ⟨q, 0, none⟩)]) (by simp only [List.map_toArray, List.map_cons, List.map_nil]; rw [show aa.eval (.tmp 24) = .pointer (some ⟨q, 0, none⟩) from hR.v 3 24 rfl rfl rfl rfl] <;> rfl) ((slotsRoom _ _ _ q p from_ each gen failed he1 he2 (hv.front 1 rfl)).mono ?_)
            rintro e w16 ⟨rfl, rfl⟩
            refine ⟨_, rfl, JS.next hl ⟨by rw [hvals]; rfl, hv⟩⟩
          · intro aa ww vals hJ hR
            have h1 : 0 < vals.length := hR.lo 4 (by simp) rfl
            have hl : vals.length = 1 := by have := JS.le (n := 1) (by rfl) hJ; omega
            obtain ⟨hvals, hv⟩ := hJ.at0 hl
            exact add_step' rfl (Ex.adds' (ex_gtr (k := .i64) (m := (l.length : Int)) (n := (roomOf each : Int)) rfl (show aa.eval (.tmp 23) = _ from hR.v 2 23 rfl rfl rfl rfl) (show aa.eval (.tmp 25) = _ from (hR.val 4 25 rfl rfl rfl).trans (by rw [hvals]; rfl)) (decide_eq_true hb15)) (wn rfl) rfl)
          · intro aa ww vals hJ hR
            exact add_step' rfl (Ex.adds' (ex_assign rfl (show aa.eval (.tmp 26) = _ from hR.v 5 26 rfl rfl rfl rfl)) (wn rfl) rfl)
          rintro w17 vals ⟨rfl, hv⟩
          rw [show mixV [4] [.int .i64 (roomOf each : Int)] 0 [.pointer (some ⟨b2, 1, none⟩), .slice a l.length cap, .int .i64 (l.length : Int), .pointer (some ⟨q, 0, none⟩), undef, .bool true, .bool true] = [.pointer (some ⟨b2, 1, none⟩), .slice a l.length cap, .int .i64 (l.length : Int), .pointer (some ⟨q, 0, none⟩), .int .i64 (roomOf each : Int), .bool true, .bool true] from rfl]
          simp only [putAll, Act.put, List.setIfInBounds_toArray, List.set_cons_succ, List.set_cons_zero]
          refine then_normal (hK13 _ _ ?_)
          clear hK13 K13
          refine wpIn_cond_true rfl ?_
          refine wpIn_seq_k (fun K18 hK18 => ?_)
          refine wpIn_region_lit ?_
          refine wpi_exG (v := .int .i64 22) (fun _ => trivial) (wn rfl) rfl (ex_assign rfl rfl) ?_
          refine wpListIn_nil ?_
          simp only [Act.put, List.setIfInBounds_toArray, List.set_cons_succ, List.set_cons_zero]
          refine then_normal (hK18 _ _ ?_)
          clear hK18 K18
          refine wpIn_ret ?_
          refine blk_ret ?_
          refine then_ret ?_
          clear hK4 K4
          refine bodyPost_ret (results_tmp rfl _ _ _) rfl ?_
          have hres : saveOf D from_ each gen failed (sn : Int) l = ⟨22, gen, failed, D⟩ := by
            unfold saveOf
            rw [if_neg (by rw [hc6]; decide), if_neg (by omega), if_pos (by omega)]
          rw [hres]
          exact ⟨_, rfl, (((hv.front 2 rfl).front 2 rfl).sub (List.Sublist.cons_cons _ (List.Sublist.cons_cons _ (List.Sublist.cons _ (List.Sublist.refl _)))))⟩
        · refine region_st mixed [.pointer (some ⟨b2, 1, none⟩), .slice a l.length cap, .int .i64 (l.length : Int), .pointer (some ⟨q, 0, none⟩), undef, .bool false, .bool false] [4] [⟨fun vals w => vals = [] ∧ Inv B (Res.cell b2 [.int .i64 (sn : Int), .slice a l.length cap] 55 :: Res.cell q [.pointer (some ⟨p, 0, none⟩), .int .i64 (from_ : Int), .int .i64 (each : Int), .int .i64 (gen : Int), .bool failed] 102 :: diskR p D F :: H) w, fun _ _ _ ⟨h, hi⟩ he => ⟨h, hi.ext he⟩⟩, ⟨fun vals w => vals = [.int .i64 (roomOf each : Int)] ∧ Inv B (Res.cell b2 [.int .i64 (sn : Int), .slice a l.length cap] 55 :: Res.cell q [.pointer (some ⟨p, 0, none⟩), .int .i64 (from_ : Int), .int .i64 (each : Int), .int .i64 (gen : Int), .bool failed] 102 :: diskR p D F :: H) w, fun _ _ _ ⟨h, hi⟩ he => ⟨h, hi.ext he⟩⟩] 48 rfl (by kernel_rfl) ⟨rfl, hv⟩ ⟨?_, ?_, ?_, ?_, ?_, ?_, ?_, trivial⟩ ?_
          · intro aa ww vals hJ hR
            exact add_step' rfl (Ex.adds' (ex_field rfl (show aa.eval (.tmp 3) = _ from hR.keep 3 rfl) (s4fa55_1 _ _ _)) (wn rfl) rfl)
          · intro aa ww vals hJ hR
            have h2 : vals.length ≤ 1 := JS.le (by rfl) hJ
            rcases (show vals.length = 0 ∨ vals.length = 1 by omega) with hl | hl
            · obtain ⟨hvals, hv⟩ := hJ.at0 hl
              exact add_step' rfl (Ex.adds' (ex_load rfl (show aa.eval (.tmp 21) = _ from hR.v 0 21 rfl rfl rfl rfl) (run_load1 s4na24 (hv.load 0 1 rfl rfl))) (wn rfl) rfl)
            · obtain ⟨hvals, hv⟩ := hJ.at0 hl
              exact add_step' rfl (Ex.adds' (ex_load rfl (show aa.eval (.tmp 21) = _ from hR.v 0 21 rfl rfl rfl rfl) (run_load1 s4na24 (hv.load 0 1 rfl rfl))) (wn rfl) rfl)
          · intro aa ww vals hJ hR
            exact add_step' rfl (Ex.adds' (ex_len0 Try.underlying24 rfl (show aa.eval (.tmp 22) = _ from hR.v 1 22 rfl rfl rfl rfl)) (wn rfl) rfl)
          · intro aa ww vals hJ hR
            exact add_step' rfl (Ex.adds' (ex_move rfl (show aa.eval (.tmp 0) = _ from hR.keep 0 rfl)) (wn rfl) rfl)
          · intro aa ww vals hJ hR
            refine mem_step' rfl fun hvl => ?_
            have hl : vals.length = 0 := hvl
            obtain ⟨hvals, hv⟩ := hJ.at0 hl
            refine stepMem_calls s4callable34 (wn rfl) rfl (args := #[.pointer (some ⟨q, 0, none⟩)]) (by simp only [List.map_toArray, List.map_cons, List.map_nil]; rw [show aa.eval (.tmp 24) = .pointer (some ⟨q, 0, none⟩) from hR.v 3 24 rfl rfl rfl rfl] <;> rfl) ((slotsRoom _ _ _ q p from_ each gen failed he1 he2 (hv.front 1 rfl)).mono ?_)
            rintro e w19 ⟨rfl, rfl⟩
            refine ⟨_, rfl, JS.next hl ⟨by rw [hvals]; rfl, hv⟩⟩
          · intro aa ww vals hJ hR
            have h1 : 0 < vals.length := hR.lo 4 (by simp) rfl
            have hl : vals.length = 1 := by have := JS.le (n := 1) (by rfl) hJ; omega
            obtain ⟨hvals, hv⟩ := hJ.at0 hl
            exact add_step' rfl (Ex.adds' (ex_gtr (k := .i64) (m := (l.length : Int)) (n := (roomOf each : Int)) rfl (show aa.eval (.tmp 23) = _ from hR.v 2 23 rfl rfl rfl rfl) (show aa.eval (.tmp 25) = _ from (hR.val 4 25 rfl rfl rfl).trans (by rw [hvals]; rfl)) (decide_eq_false hb15)) (wn rfl) rfl)
          · intro aa ww vals hJ hR
            exact add_step' rfl (Ex.adds' (ex_assign rfl (show aa.eval (.tmp 26) = _ from hR.v 5 26 rfl rfl rfl rfl)) (wn rfl) rfl)
          rintro w20 vals ⟨rfl, hv⟩
          rw [show mixV [4] [.int .i64 (roomOf each : Int)] 0 [.pointer (some ⟨b2, 1, none⟩), .slice a l.length cap, .int .i64 (l.length : Int), .pointer (some ⟨q, 0, none⟩), undef, .bool false, .bool false] = [.pointer (some ⟨b2, 1, none⟩), .slice a l.length cap, .int .i64 (l.length : Int), .pointer (some ⟨q, 0, none⟩), .int .i64 (roomOf each : Int), .bool false, .bool false] from rfl]
          simp only [putAll, Act.put, List.setIfInBounds_toArray, List.set_cons_succ, List.set_cons_zero]
          refine then_normal (hK13 _ _ ?_)
          clear hK13 K13
          refine wpIn_cond_false rfl ?_
          refine wpIn_skip ?_
          refine blk_normal ?_
          refine then_normal (hK4 _ _ ?_)
          clear hK4 K4
          refine wpIn_seq_k (fun K21 hK21 => ?_)
          refine wpIn_seq_k (fun K22 hK22 => ?_)
          refine region_st mixed [.pointer (some ⟨q, 0, none⟩), .agg #[.int .i64 (sn : Int), .slice a l.length cap], .pointer (some ⟨q, 0, none⟩), .pointer (some ⟨q, 0, none⟩), .pointer (some ⟨q, 3, none⟩), .int .i64 (gen : Int), .int .i64 ((gen + 1 : Nat) : Int), undef, .int .i64 ((putAll' D at_ l (headOf (gen + 1) sn l)).1)] [7] [⟨fun vals w => vals = [] ∧ Inv B (Res.cell b2 [.int .i64 (sn : Int), .slice a l.length cap] 55 :: Res.cell q [.pointer (some ⟨p, 0, none⟩), .int .i64 (from_ : Int), .int .i64 (each : Int), .int .i64 (gen : Int), .bool failed] 102 :: diskR p D F :: H) w, fun _ _ _ ⟨h, hi⟩ he => ⟨h, hi.ext he⟩⟩, ⟨fun vals w => ∃ F23, vals = [.int .i64 ((putAll' D at_ l (headOf (gen + 1) sn l)).1)] ∧ Inv B (Res.cell q [.pointer (some ⟨p, 0, none⟩), .int .i64 (from_ : Int), .int .i64 (each : Int), .int .i64 (gen : Int), .bool failed] 102 :: diskR p ((putAll' D at_ l (headOf (gen + 1) sn l)).2) F23 :: Res.cell b2 [.int .i64 (sn : Int), .slice a l.length cap] 55 :: H) w, fun _ _ _ ⟨F23, h, hi⟩ he => ⟨F23, h, hi.ext he⟩⟩] 48 rfl (by kernel_rfl) ⟨rfl, hv⟩ ⟨?_, ?_, ?_, ?_, ?_, ?_, ?_, ?_, ?_, trivial⟩ ?_
          · intro aa ww vals hJ hR
            exact add_step' rfl (Ex.adds' (ex_move rfl (show aa.eval (.tmp 0) = _ from hR.keep 0 rfl)) (wn rfl) rfl)
          · intro aa ww vals hJ hR
            have h2 : vals.length ≤ 0 := hR.hi 7 (by simp) rfl
            have hl : vals.length = 0 := by omega
            obtain ⟨hvals, hv⟩ := hJ.at0 hl
            exact add_step' rfl (Ex.adds' (ex_load rfl (show aa.eval (.tmp 3) = _ from hR.keep 3 rfl) (run_load_mid (pre := []) (mid := [.int .i64 (sn : Int), .slice a l.length cap]) (post := []) s4wd55 (show Blk _ b2 ([] ++ [.int .i64 (sn : Int), .slice a l.length cap] ++ []) _ from hv.get 0 rfl) rfl)) (wn rfl) rfl)
          · intro aa ww vals hJ hR
            exact add_step' rfl (Ex.adds' (ex_move rfl (show aa.eval (.tmp 0) = _ from hR.keep 0 rfl)) (wn rfl) rfl)
          · intro aa ww vals hJ hR
            exact add_step' rfl (Ex.adds' (ex_nil rfl (show aa.eval (.tmp 29) = _ from hR.v 2 29 rfl rfl rfl rfl)) (wn rfl) rfl)
          · intro aa ww vals hJ hR
            exact add_step' rfl (Ex.adds' (ex_field rfl (show aa.eval (.tmp 30) = _ from hR.v 3 30 rfl rfl rfl rfl) (s4fa102_3 _ _ _)) (wn rfl) rfl)
          · intro aa ww vals hJ hR
            have h2 : vals.length ≤ 0 := hR.hi 7 (by simp) rfl
            have hl : vals.length = 0 := by omega
            obtain ⟨hvals, hv⟩ := hJ.at0 hl
            exact add_step' rfl (Ex.adds' (ex_load rfl (show aa.eval (.tmp 31) = _ from hR.v 4 31 rfl rfl rfl rfl) (run_load1 s4na3 (hv.load 1 3 rfl rfl))) (wn rfl) rfl)
          · intro aa ww vals hJ hR
            exact add_step' rfl (Ex.adds' (ex_add (m := (gen : Int)) (n := 1) rfl (show aa.eval (.tmp 32) = _ from hR.v 5 32 rfl rfl rfl rfl) rfl (by rw [i64_in (by omega)]; omega)) (wn rfl) rfl)
          · intro aa ww vals hJ hR
            refine mem_step' rfl fun hvl => ?_
            have hl : vals.length = 0 := hvl
            obtain ⟨hvals, hv⟩ := hJ.at0 hl
            replace hv := hv.front 2 rfl
            simp only [List.eraseIdx_cons_succ, List.eraseIdx_cons_zero] at hv
            replace hv := hv.front 2 rfl
            simp only [List.eraseIdx_cons_succ, List.eraseIdx_cons_zero] at hv
            refine stepMem_calls s4callable53 (wn rfl) rfl (args := #[.pointer (some ⟨q, 0, none⟩), .agg #[.int .i64 (sn : Int), .slice a l.length cap], .int .i64 ((gen + 1 : Nat) : Int)]) (by simp only [List.map_toArray, List.map_cons, List.map_nil]; rw [show aa.eval (.tmp 27) = .pointer (some ⟨q, 0, none⟩) from hR.v 0 27 rfl rfl rfl rfl, show aa.eval (.tmp 28) = .agg #[.int .i64 (sn : Int), .slice a l.length cap] from hR.v 1 28 rfl rfl rfl rfl, show aa.eval (.tmp 33) = .int .i64 ((gen + 1 : Nat) : Int) from hR.v 6 33 rfl rfl rfl rfl] <;> rfl) ((slotsWrite _ _ _ q p from_ each gen failed D _ sn a _ cap l (gen + 1) at_ hat (by omega) (by omega) he1 he2 hfit hdm hpl rfl (by omega) (by omega) hok (hr.more (Base.Le.refl _) (fun r hr => List.mem_cons_of_mem _ (hr))) hv).mono ?_)
            rintro e w24 ⟨F23, rfl, hv⟩
            refine ⟨_, rfl, JS.next hl ⟨F23, by rw [hvals]; rfl, hv⟩⟩
          · intro aa ww vals hJ hR
            have h1 : 0 < vals.length := hR.lo 7 (by simp) rfl
            have hl : vals.length = 1 := by have := JS.le (n := 1) (by rfl) hJ; omega
            obtain ⟨F23, hvals, hv⟩ := hJ.at0 hl
            exact add_step' rfl (Ex.adds' (ex_assign rfl (show aa.eval (.tmp 34) = _ from (hR.val 7 34 rfl rfl rfl).trans (by rw [hvals]; rfl))) (wn rfl) rfl)
          rintro w25 vals ⟨F23, rfl, hv⟩
          rw [show mixV [7] [.int .i64 ((putAll' D at_ l (headOf (gen + 1) sn l)).1)] 0 [.pointer (some ⟨q, 0, none⟩), .agg #[.int .i64 (sn : Int), .slice a l.length cap], .pointer (some ⟨q, 0, none⟩), .pointer (some ⟨q, 0, none⟩), .pointer (some ⟨q, 3, none⟩), .int .i64 (gen : Int), .int .i64 ((gen + 1 : Nat) : Int), undef, .int .i64 ((putAll' D at_ l (headOf (gen + 1) sn l)).1)] = [.pointer (some ⟨q, 0, none⟩), .agg #[.int .i64 (sn : Int), .slice a l.length cap], .pointer (some ⟨q, 0, none⟩), .pointer (some ⟨q, 0, none⟩), .pointer (some ⟨q, 3, none⟩), .int .i64 (gen : Int), .int .i64 ((gen + 1 : Nat) : Int), .int .i64 ((putAll' D at_ l (headOf (gen + 1) sn l)).1), .int .i64 ((putAll' D at_ l (headOf (gen + 1) sn l)).1)] from rfl]
          simp only [putAll, Act.put, List.setIfInBounds_toArray, List.set_cons_succ, List.set_cons_zero]
          refine then_normal (hK22 _ _ ?_)
          clear hK22 K22
          refine wpIn_seq_k (fun K26 hK26 => ?_)
          refine wpIn_region_lit ?_
          refine wpi_exG (v := .int .i64 ((putAll' D at_ l (headOf (gen + 1) sn l)).1)) (fun _ => trivial) (wn rfl) rfl (ex_move rfl rfl) ?_
          by_cases hb27 : ((putAll' D at_ l (headOf (gen + 1) sn l)).1) ≠ 0
          · refine wpi_exG (v := .bool true) (fun _ => trivial) (wn rfl) rfl (ex_neq (k := .i64) (m := ((putAll' D at_ l (headOf (gen + 1) sn l)).1)) (n := 0) rfl rfl rfl (decide_eq_true hb27)) ?_
            refine wpListIn_nil ?_
            simp only [Act.put, List.setIfInBounds_toArray, List.set_cons_succ, List.set_cons_zero]
            refine then_normal (hK26 _ _ ?_)
            clear hK26 K26
            refine wpIn_cond_true rfl ?_
            refine wpIn_seq_k (fun K28 hK28 => ?_)
            refine wpIn_region_lit ?_
            refine wpi_exG (v := .pointer (some ⟨q, 0, none⟩)) (fun _ => trivial) (wn rfl) rfl (ex_move rfl rfl) ?_
            refine wpi_exG (v := .pointer (some ⟨q, 0, none⟩)) (fun _ => trivial) (wn rfl) rfl (ex_nil rfl rfl) ?_
            refine wpi_exG (v := .pointer (some ⟨q, 4, none⟩)) (fun _ => trivial) (wn rfl) rfl (ex_field rfl rfl (s4fa102_4 _ _ _)) ?_
            simp only [Act.put, List.setIfInBounds_toArray, List.set_cons_succ, List.set_cons_zero]
            refine sl_storeAt 0 (v := .bool true) (L' := [.pointer (some ⟨p, 0, none⟩), .int .i64 (from_ : Int), .int .i64 (each : Int), .int .i64 (gen : Int), .bool true]) (fun _ => trivial) (wn rfl) rfl rfl rfl hv rfl s4sz4 (by simp) rfl rfl rfl (fun w29 hv => ?_)
            simp only [List.set_cons_succ, List.set_cons_zero] at hv
            refine wpListIn_nil ?_
            simp only [Act.put, List.setIfInBounds_toArray, List.set_cons_succ, List.set_cons_zero]
            refine then_normal (hK28 _ _ ?_)
            clear hK28 K28
            refine wpIn_seq_k (fun K30 hK30 => ?_)
            refine wpIn_region_lit ?_
            refine wpi_exG (v := .int .i64 ((putAll' D at_ l (headOf (gen + 1) sn l)).1)) (fun _ => trivial) (wn rfl) rfl (ex_move rfl rfl) ?_
            refine wpi_exG (v := .int .i64 ((putAll' D at_ l (headOf (gen + 1) sn l)).1)) (fun _ => trivial) (wn rfl) rfl (ex_assign rfl rfl) ?_
            refine wpListIn_nil ?_
            simp only [Act.put, List.setIfInBounds_toArray, List.set_cons_succ, List.set_cons_zero]
            refine then_normal (hK30 _ _ ?_)
            clear hK30 K30
            refine wpIn_ret ?_
            refine then_ret ?_
            clear hK21 K21
            refine bodyPost_ret (results_tmp rfl _ _ _) rfl ?_
            have hres : saveOf D from_ each gen failed (sn : Int) l = ⟨(putAll' D at_ l (headOf (gen + 1) sn l)).1, gen, true, (putAll' D at_ l (headOf (gen + 1) sn l)).2⟩ := by
              unfold saveOf
              rw [if_neg (by rw [hc6]; decide), if_neg (by omega), if_neg (by omega), Int.toNat_natCast, hat, if_pos hb27]
            rw [hres]
            exact ⟨_, rfl, (((hv.front 1 rfl).front 1 rfl).sub (List.Sublist.cons_cons _ (List.Sublist.cons_cons _ (List.Sublist.cons _ (List.Sublist.refl _)))))⟩
          · refine wpi_exG (v := .bool false) (fun _ => trivial) (wn rfl) rfl (ex_neq (k := .i64) (m := ((putAll' D at_ l (headOf (gen + 1) sn l)).1)) (n := 0) rfl rfl rfl (decide_eq_false hb27)) ?_
            refine wpListIn_nil ?_
            simp only [Act.put, List.setIfInBounds_toArray, List.set_cons_succ, List.set_cons_zero]
            refine then_normal (hK26 _ _ ?_)
            clear hK26 K26
            refine wpIn_cond_false rfl ?_
            refine wpIn_skip ?_
            refine then_normal (hK21 _ _ ?_)
            clear hK21 K21
            refine wpIn_seq_k (fun K31 hK31 => ?_)
            refine wpIn_region_lit ?_
            refine wpi_exG (v := .pointer (some ⟨q, 0, none⟩)) (fun _ => trivial) (wn rfl) rfl (ex_move rfl rfl) ?_
            refine wpi_exG (v := .pointer (some ⟨q, 0, none⟩)) (fun _ => trivial) (wn rfl) rfl (ex_nil rfl rfl) ?_
            refine wpi_exG (v := .pointer (some ⟨q, 3, none⟩)) (fun _ => trivial) (wn rfl) rfl (ex_field rfl rfl (s4fa102_3 _ _ _)) ?_
            simp only [Act.put, List.setIfInBounds_toArray, List.set_cons_succ, List.set_cons_zero]
            refine wpi_exG (v := .int .i64 (gen : Int)) (fun _ => trivial) (wn rfl) rfl (ex_load rfl rfl (run_load1 s4na3 (hv.load 0 3 rfl rfl))) ?_
            refine wpi_exG (v := .int .i64 ((gen + 1 : Nat) : Int)) (fun _ => trivial) (wn rfl) rfl (ex_add (m := (gen : Int)) (n := 1) rfl rfl rfl (by rw [i64_in (by omega)]; omega)) ?_
            refine wpi_exG (v := .pointer (some ⟨q, 0, none⟩)) (fun _ => trivial) (wn rfl) rfl (ex_nil rfl rfl) ?_
            simp only [Act.put, List.setIfInBounds_toArray, List.set_cons_succ, List.set_cons_zero]
            refine wpi_exG (v := .pointer (some ⟨q, 3, none⟩)) (fun _ => trivial) (wn rfl) rfl (ex_field rfl rfl (s4fa102_3 _ _ _)) ?_
            refine sl_storeAt 0 (v := .int .i64 ((gen + 1 : Nat) : Int)) (L' := [.pointer (some ⟨p, 0, none⟩), .int .i64 (from_ : Int), .int .i64 (each : Int), .int .i64 ((gen + 1 : Nat) : Int), .bool failed]) (fun _ => trivial) (wn rfl) rfl rfl rfl hv rfl s4sz3 (by simp) rfl rfl rfl (fun w32 hv => ?_)
            simp only [List.set_cons_succ, List.set_cons_zero] at hv
            refine wpListIn_nil ?_
            simp only [Act.put, List.setIfInBounds_toArray, List.set_cons_succ, List.set_cons_zero]
            refine then_normal (hK31 _ _ ?_)
            clear hK31 K31
            refine wpIn_seq_k (fun K33 hK33 => ?_)
            refine wpIn_region_lit ?_
            refine wpi_exG (v := .int .i64 0) (fun _ => trivial) (wn rfl) rfl (ex_assign rfl rfl) ?_
            refine wpListIn_nil ?_
            simp only [Act.put, List.setIfInBounds_toArray, List.set_cons_succ, List.set_cons_zero]
            refine then_normal (hK33 _ _ ?_)
            clear hK33 K33
            refine wpIn_ret ?_
            refine bodyPost_ret (results_tmp rfl _ _ _) rfl ?_
            have hres : saveOf D from_ each gen failed (sn : Int) l = ⟨0, (gen + 1 : Nat), failed, (putAll' D at_ l (headOf (gen + 1) sn l)).2⟩ := by
              unfold saveOf
              rw [if_neg (by rw [hc6]; decide), if_neg (by omega), if_neg (by omega), Int.toNat_natCast, hat, if_neg hb27]
            rw [hres]
            exact ⟨_, rfl, (((hv.front 1 rfl).front 1 rfl).sub (List.Sublist.cons_cons _ (List.Sublist.cons_cons _ (List.Sublist.cons _ (List.Sublist.refl _)))))⟩
end Go.Proofs.Ytkannfkjnohdlaa
