/- awake, of the disk's laws -/
import Derived.Test.YtkannfkjnohdlaaDiskApi
import Derived.Test.YtkannfkjnohdlaaLawFilled
namespace Go.Proofs.Ytkannfkjnohdlaa
open Go.RowKit Go.Pm
theorem view_bytes (v : List (List UInt8)) : durCells v = v.flatten.map B8 := by
  unfold durCells
  rw [List.map_flatten]

theorem sl_row1 {F : Fence} {n : Nat} {P : Program} {ops : Array Oper} {Q : Exit → Act → World → Prop} {a : Act} {w : World} {rest : List Oper} {o : Oper} {v zv : Value} {B : Base} {H : List Res} {t e : TypeId} {x : Operand} {bytes : Nat} (hF : ∀ f, F.fn f) (hg : Region.wanted o (yielded ops a.tmps) = true) (ho : o.op = .buildSlice t 1 #[(0, x)]) (hx : a.eval x = v) (hv : Inv B H w) (E : Elem P t e zv 1 bytes) (h1 : v.cells = #[v])
    (h : ∀ b w', Inv B (Res.cell b [v] e :: H) w' → wpListIn F n P ops Q rest (a.put o.dst (.slice (some ⟨b, 0, none⟩) 1 1)) w') : wpListIn F n P ops Q (o :: rest) a w :=
  wpi_exG hF hg (by unfold isDefer; rw [ho]) (ex_row1 ho hx (run_buildSlice1 E w v h1)) (h _ _ (hv.alloc [v] e))
theorem elemI : Elem Try.prog 44 3 (.int .i64 0) 1 8 := by
  refine ⟨Try.underlying44, ?_, rfl, by omega⟩
  obtain ⟨i, hi, h⟩ := Option.map_eq_some_iff.1 (show (Try.prog.info? 3).map (fun i => (i.zero, i.size, i.bytes)) = some (some (.int .i64 0), 1, 8) by kernel_rfl)
  simp only [Prod.mk.injEq] at h
  exact ⟨i, hi, h⟩
/-- the example's disk, before and behind the crash -/
def AWD : Disk := (((Disk.zero 3).write 0 (List.replicate 64 1)).sync).write 0 (List.replicate 128 2)
def AWB : List UInt8 := (((AWD.crash [1]).tick).view ((AWD.crash [1]).tick).pend 0 3).flatten
theorem aw_n : ((AWD.kept [1]).length : Int) = 1 := by kernel_rfl
theorem aw_eq : AWB = (List.replicate 64 1 ++ List.replicate 64 2) ++ List.replicate 64 0 := by kernel_rfl

theorem awcallable21 : Callable Try.prog 21 := ⟨_, Try.func21, by kernel_rfl, by kernel_rfl⟩
theorem awcallable23 : Callable Try.prog 23 := ⟨_, Try.func23, by kernel_rfl, by kernel_rfl⟩
theorem awcallable22 : Callable Try.prog 22 := ⟨_, Try.func22, by kernel_rfl, by kernel_rfl⟩
theorem awcallable24 : Callable Try.prog 24 := ⟨_, Try.func24, by kernel_rfl, by kernel_rfl⟩
theorem awcallable25 : Callable Try.prog 25 := ⟨_, Try.func25, by kernel_rfl, by kernel_rfl⟩
theorem awcallable26 : Callable Try.prog 26 := ⟨_, Try.func26, by kernel_rfl, by kernel_rfl⟩
theorem awmk5 : (Try.prog.info? 5).map (fun i => (i.zero, i.size, i.bytes)) = some (some (.int .u8 0), 1, 1) := by kernel_rfl
set_option maxRecDepth 100000 in
set_option maxHeartbeats 2000000 in
theorem lawAwake06 (B : Base) (H : List Res) (w : World) (hv : Inv B H w) :
    Calls Try.prog 20 #[] w fun e w' => e = .returned (.bool true) ∧ Inv B H w' := by
  refine (callsIn_wide (n := 5)).1 ?_
  refine callsIn_of_wp Try.func20 rfl trivial ?_
  simp only [Try.ntmps20, List.size_toArray, List.length_cons, List.length_nil, Nat.reduceAdd, Nat.reduceSub, Array.replicate_succ, Array.replicate_zero, List.push_toArray, List.append_toArray, List.nil_append, List.cons_append]
  refine wpIn_seq_k (fun K1 hK1 => ?_)
  refine wpIn_region_lit ?_
  refine wpi_exG (v := .bool false) (fun _ => trivial) (wn rfl) rfl (ex_assign rfl rfl) ?_
  refine wpListIn_nil ?_
  simp only [Act.put, List.setIfInBounds_toArray, List.set_cons_succ, List.set_cons_zero]
  refine then_normal (hK1 _ _ ?_)
  clear hK1 K1
  refine wpIn_seq_k (fun K2 hK2 => ?_)
  refine wpIn_region_lit ?_
  refine wpi_callG awcallable21 (fun _ => trivial) wideC rfl (wn rfl) rfl (args := #[.int .i64 3]) (by simp only [List.map_toArray, List.map_cons, List.map_nil]; rfl) ((diskNewSl _ _ _ 3 (by omega) (by omega) hv).mono ?_)
  rintro e w5 ⟨p3, F4, rfl, hv⟩
  refine ⟨_, rfl, ?_⟩
  refine wpi_exG (v := .tuple #[.pointer (some ⟨p3, 0, none⟩), .int .i64 0]) (fun _ => trivial) (wn rfl) rfl (ex_move rfl rfl) ?_
  refine wpi_exG (v := .pointer (some ⟨p3, 0, none⟩)) (fun _ => trivial) (wn rfl) rfl (ex_extract rfl rfl rfl) ?_
  simp only [Act.put, List.setIfInBounds_toArray, List.set_cons_succ, List.set_cons_zero]
  refine wpi_exG (v := .int .i64 0) (fun _ => trivial) (wn rfl) rfl (ex_extract rfl rfl rfl) ?_
  refine wpi_exG (v := .pointer (some ⟨p3, 0, none⟩)) (fun _ => trivial) (wn rfl) rfl (ex_assign rfl rfl) ?_
  refine wpi_exG (v := .int .i64 0) (fun _ => trivial) (wn rfl) rfl (ex_assign rfl rfl) ?_
  refine wpListIn_nil ?_
  simp only [Act.put, List.setIfInBounds_toArray, List.set_cons_succ, List.set_cons_zero]
  refine then_normal (hK2 _ _ ?_)
  clear hK2 K2
  refine wpIn_seq_k (fun K6 hK6 => ?_)
  refine wpIn_seq_k (fun K7 hK7 => ?_)
  refine wpIn_region_lit ?_
  refine wpi_exG (v := .pointer (some ⟨p3, 0, none⟩)) (fun _ => trivial) (wn rfl) rfl (ex_move rfl rfl) ?_
  refine wpi_exG (v := .bool false) (fun _ => trivial) (wn rfl) rfl (ex_pisnil Try.underlying36 rfl rfl rfl rfl) ?_
  refine wpi_exG (v := .bool false) (fun _ => trivial) (wn rfl) rfl (ex_move rfl rfl) ?_
  simp only [Act.put, List.setIfInBounds_toArray, List.set_cons_succ, List.set_cons_zero]
  refine wpi_exG (v := .int .i64 0) (fun _ => trivial) (wanted_of (j := 2) (d := 12) (b := false) rfl rfl rfl) rfl (ex_move rfl rfl) ?_
  refine wpi_exG (v := .bool false) (fun _ => trivial) (wanted_of (j := 2) (d := 12) (b := false) rfl rfl rfl) rfl (ex_neq (k := .i64) (m := 0) (n := 0) rfl rfl rfl (by decide)) ?_
  refine wpi_exG (v := .bool false) (fun _ => trivial) (wn rfl) rfl (ex_pick (b := false) rfl rfl rfl) ?_
  simp only [Act.put, List.setIfInBounds_toArray, List.set_cons_succ, List.set_cons_zero]
  refine wpi_exG (v := .bool false) (fun _ => trivial) (wn rfl) rfl (ex_move rfl rfl) ?_
  refine wpi_exG (v := .pointer (some ⟨p3, 0, none⟩)) (fun _ => trivial) (wanted_of (j := 6) (d := 16) (b := false) rfl rfl rfl) rfl (ex_move rfl rfl) ?_
  refine wpi_callG awcallable23 (fun _ => trivial) wideC rfl (wanted_of (j := 6) (d := 16) (b := false) rfl rfl rfl) rfl (args := #[.int .u8 1, .int .i64 1, .int .i64 0]) (by simp only [List.map_toArray, List.map_cons, List.map_nil]; rfl) ((lawFilled _ _ _ 1 1 (rfl) 1 0 64 (by omega) (by omega) hv).mono ?_)
  rintro e w9 ⟨b8, rfl, hv⟩
  refine ⟨_, rfl, ?_⟩
  simp only [Act.put, List.setIfInBounds_toArray, List.set_cons_succ, List.set_cons_zero]
  replace hv := hv.front 1 rfl
  simp only [List.eraseIdx_cons_succ, List.eraseIdx_cons_zero] at hv
  refine wpi_callG awcallable22 (fun _ => trivial) wideC rfl (wanted_of (j := 6) (d := 16) (b := false) rfl rfl rfl) rfl (args := #[.pointer (some ⟨p3, 0, none⟩), .int .i64 0, .slice (some ⟨b8, 0, none⟩) 64 64]) (by simp only [List.map_toArray, List.map_cons, List.map_nil]; rfl) ((diskWriteSl _ _ _ p3 _ _ 0 _ _ _ (List.replicate 64 (1 : UInt8)) hv List.length_replicate (ok_full (by omega)) (rd_repAt 0 rfl) (by kernel_rfl) (by decide) (by decide)).mono ?_)
  rintro e w11 ⟨F10, rfl, hv⟩
  refine ⟨_, rfl, ?_⟩
  refine wpi_exG (v := .bool false) (fun _ => trivial) (wanted_of (j := 6) (d := 16) (b := false) rfl rfl rfl) rfl (ex_neq (k := .i64) (m := 0) (n := 0) rfl rfl rfl (by decide)) ?_
  refine wpi_exG (v := .bool false) (fun _ => trivial) (wn rfl) rfl (ex_pick (b := false) rfl rfl rfl) ?_
  simp only [Act.put, List.setIfInBounds_toArray, List.set_cons_succ, List.set_cons_zero]
  refine wpi_exG (v := .bool false) (fun _ => trivial) (wn rfl) rfl (ex_move rfl rfl) ?_
  refine wpi_exG (v := .pointer (some ⟨p3, 0, none⟩)) (fun _ => trivial) (wanted_of (j := 12) (d := 22) (b := false) rfl rfl rfl) rfl (ex_move rfl rfl) ?_
  refine wpi_callG awcallable24 (fun _ => trivial) wideC rfl (wanted_of (j := 12) (d := 22) (b := false) rfl rfl rfl) rfl (args := #[.pointer (some ⟨p3, 0, none⟩)]) (by simp only [List.map_toArray, List.map_cons, List.map_nil]; rfl) ((diskSyncSl _ _ _ p3 _ _ hv (by decide) (by decide)).mono ?_)
  rintro e w13 ⟨F12, rfl, hv⟩
  refine ⟨_, rfl, ?_⟩
  simp only [Act.put, List.setIfInBounds_toArray, List.set_cons_succ, List.set_cons_zero]
  refine wpi_exG (v := .bool false) (fun _ => trivial) (wanted_of (j := 12) (d := 22) (b := false) rfl rfl rfl) rfl (ex_neq (k := .i64) (m := 0) (n := 0) rfl rfl rfl (by decide)) ?_
  refine wpi_exG (v := .bool false) (fun _ => trivial) (wn rfl) rfl (ex_pick (b := false) rfl rfl rfl) ?_
  refine wpi_exG (v := .bool false) (fun _ => trivial) (wn rfl) rfl (ex_move rfl rfl) ?_
  simp only [Act.put, List.setIfInBounds_toArray, List.set_cons_succ, List.set_cons_zero]
  refine wpi_exG (v := .pointer (some ⟨p3, 0, none⟩)) (fun _ => trivial) (wanted_of (j := 17) (d := 27) (b := false) rfl rfl rfl) rfl (ex_move rfl rfl) ?_
  refine wpi_callG awcallable23 (fun _ => trivial) wideC rfl (wanted_of (j := 17) (d := 27) (b := false) rfl rfl rfl) rfl (args := #[.int .u8 2, .int .i64 2, .int .i64 0]) (by simp only [List.map_toArray, List.map_cons, List.map_nil]; rfl) ((lawFilled _ _ _ 2 2 (rfl) 2 0 128 (by omega) (by omega) hv).mono ?_)
  rintro e w15 ⟨b14, rfl, hv⟩
  refine ⟨_, rfl, ?_⟩
  replace hv := hv.front 1 rfl
  simp only [List.eraseIdx_cons_succ, List.eraseIdx_cons_zero] at hv
  refine wpi_callG awcallable22 (fun _ => trivial) wideC rfl (wanted_of (j := 17) (d := 27) (b := false) rfl rfl rfl) rfl (args := #[.pointer (some ⟨p3, 0, none⟩), .int .i64 0, .slice (some ⟨b14, 0, none⟩) 128 128]) (by simp only [List.map_toArray, List.map_cons, List.map_nil]; rfl) ((diskWriteSl _ _ _ p3 _ _ 0 _ _ _ (List.replicate 128 (2 : UInt8)) hv List.length_replicate (ok_full (by omega)) (rd_repAt 0 rfl) (by kernel_rfl) (by decide) (by decide)).mono ?_)
  rintro e w17 ⟨F16, rfl, hv⟩
  refine ⟨_, rfl, ?_⟩
  simp only [Act.put, List.setIfInBounds_toArray, List.set_cons_succ, List.set_cons_zero]
  refine wpi_exG (v := .bool false) (fun _ => trivial) (wanted_of (j := 17) (d := 27) (b := false) rfl rfl rfl) rfl (ex_neq (k := .i64) (m := 0) (n := 0) rfl rfl rfl (by decide)) ?_
  refine wpi_exG (v := .bool false) (fun _ => trivial) (wn rfl) rfl (ex_pick (b := false) rfl rfl rfl) ?_
  refine wpListIn_nil ?_
  simp only [Act.put, List.setIfInBounds_toArray, List.set_cons_succ, List.set_cons_zero]
  refine then_normal (hK7 _ _ ?_)
  clear hK7 K7
  refine wpIn_cond_false rfl ?_
  refine wpIn_skip ?_
  refine then_normal (hK6 _ _ ?_)
  clear hK6 K6
  refine wpIn_seq_k (fun K18 hK18 => ?_)
  refine wpIn_region_lit ?_
  refine wpi_exG (v := .pointer (some ⟨p3, 0, none⟩)) (fun _ => trivial) (wn rfl) rfl (ex_move rfl rfl) ?_
  refine sl_row1 (e := 3) (fun _ => trivial) (wn rfl) rfl (v := .int .i64 1) rfl hv elemI rfl (fun b19 w20 hv => ?_)
  replace hv := hv.front 1 rfl
  simp only [List.eraseIdx_cons_succ, List.eraseIdx_cons_zero] at hv
  refine wpi_callG awcallable25 (fun _ => trivial) wideC rfl (wn rfl) rfl (args := #[.pointer (some ⟨p3, 0, none⟩), .slice (some ⟨b19, 0, none⟩) 1 1]) (by simp only [List.map_toArray, List.map_cons, List.map_nil]; rfl) ((diskCrashSl _ _ _ p3 _ _ _ _ _ ([1]) hv (by decide) rfl (by decide) (rdV_cell (L := [.int .i64 1]) (t := 3) 0 (by simp) (fun i hi => by simp at hi; subst hi; rfl)) (by decide)).mono ?_)
  rintro e w22 ⟨F21, rfl, hv⟩
  refine ⟨_, rfl, ?_⟩
  simp only [Act.put, List.setIfInBounds_toArray, List.set_cons_succ, List.set_cons_zero]
  refine wpi_exG (v := .int .i64 ((((((Disk.zero 3).write 0 (List.replicate 64 (1 : UInt8))).sync).write 0 (List.replicate 128 (2 : UInt8))).kept [1]).length : Int)) (fun _ => trivial) (wn rfl) rfl (ex_assign rfl rfl) ?_
  refine wpListIn_nil ?_
  simp only [Act.put, List.setIfInBounds_toArray, List.set_cons_succ, List.set_cons_zero]
  refine then_normal (hK18 _ _ ?_)
  clear hK18 K18
  refine wpIn_seq_k (fun K23 hK23 => ?_)
  refine wpIn_region_lit ?_
  refine wpi_exG (v := .pointer (some ⟨p3, 0, none⟩)) (fun _ => trivial) (wn rfl) rfl (ex_move rfl rfl) ?_
  refine wpi_callG awcallable26 (fun _ => trivial) wideC rfl (wn rfl) rfl (args := #[.pointer (some ⟨p3, 0, none⟩), .int .i64 0, .int .i64 3]) (by simp only [List.map_toArray, List.map_cons, List.map_nil]; rfl) ((diskReadOk _ _ _ p3 _ _ 0 3 hv ((((((Disk.zero 3).write 0 (List.replicate 64 (1 : UInt8))).sync).write 0 (List.replicate 128 (2 : UInt8))).crash [1]).tick) rfl (by decide) (by kernel_rfl) (by decide) (by decide) (by decide) (by decide)).mono ?_)
  rintro e w26 ⟨b25, rfl, F24, hv⟩
  refine ⟨_, rfl, ?_⟩
  refine wpi_exG (v := .tuple #[.slice (some ⟨b25, 0, none⟩) 192 192, .int .i64 0]) (fun _ => trivial) (wn rfl) rfl (ex_move rfl rfl) ?_
  simp only [Act.put, List.setIfInBounds_toArray, List.set_cons_succ, List.set_cons_zero]
  refine wpi_exG (v := .slice (some ⟨b25, 0, none⟩) 192 192) (fun _ => trivial) (wn rfl) rfl (ex_extract rfl rfl rfl) ?_
  refine wpi_exG (v := .int .i64 0) (fun _ => trivial) (wn rfl) rfl (ex_extract rfl rfl rfl) ?_
  refine wpi_exG (v := .slice (some ⟨b25, 0, none⟩) 192 192) (fun _ => trivial) (wn rfl) rfl (ex_assign rfl rfl) ?_
  simp only [Act.put, List.setIfInBounds_toArray, List.set_cons_succ, List.set_cons_zero]
  refine wpi_exG (v := .int .i64 0) (fun _ => trivial) (wn rfl) rfl (ex_assign rfl rfl) ?_
  refine wpListIn_nil ?_
  simp only [Act.put, List.setIfInBounds_toArray, List.set_cons_succ, List.set_cons_zero]
  refine then_normal (hK23 _ _ ?_)
  clear hK23 K23
  refine wpIn_seq_k (fun K27 hK27 => ?_)
  refine region_mono mixed [SP.eq (.int .i64 ((((((Disk.zero 3).write 0 (List.replicate 64 (1 : UInt8))).sync).write 0 (List.replicate 128 (2 : UInt8))).kept [1]).length : Int)), SP.eq (.bool true), SP.eq (.bool true), SP.eq (.int .i64 0), SP.eq (.bool true), SP.eq (.bool true), SP.eq (.bool true), SP.eq (.slice (some ⟨b25, 0, none⟩) 192 192), SP.eq (.string ⟨AWB.toArray⟩), SP.slc (List.replicate 64 (B8 1)) 64 5, SP.eq (.string ⟨(List.replicate 64 (1 : UInt8)).toArray⟩), SP.slc (List.replicate 64 (B8 2)) 64 5, SP.eq (.string ⟨(List.replicate 64 (2 : UInt8)).toArray⟩), SP.eq (.string ⟨((List.replicate 64 (1 : UInt8)) ++ (List.replicate 64 (2 : UInt8))).toArray⟩), SP.slc (List.replicate 64 (Value.int .u8 0)) 64 5, SP.eq (.string ⟨(List.replicate 64 (0 : UInt8)).toArray⟩), SP.eq (.string ⟨(((List.replicate 64 (1 : UInt8)) ++ (List.replicate 64 (2 : UInt8))) ++ (List.replicate 64 (0 : UInt8))).toArray⟩), SP.eq (.bool true), SP.eq (.bool true), SP.eq (.bool true)] 60 rfl (by kernel_rfl) hv ⟨?_, ?_, ?_, ?_, ?_, ?_, ?_, ?_, ?_, ?_, ?_, ?_, ?_, ?_, ?_, ?_, ?_, ?_, ?_, ?_, trivial⟩ (fun i o w h => ?_) ?_
  · intro a w hv hR
    exact Ex.ok' (ex_move rfl (show a.eval (.tmp 3) = _ from hR.keep 3 rfl)) (wn rfl) rfl
  · intro a w hv hR
    exact Ex.ok' (ex_eql (k := .i64) (m := ((((((Disk.zero 3).write 0 (List.replicate 64 (1 : UInt8))).sync).write 0 (List.replicate 128 (2 : UInt8))).kept [1]).length : Int)) (n := 1) rfl (show a.eval (.tmp 41) = _ from hR.pred 0 41 rfl rfl) rfl (decide_eq_true (aw_n))) (wn rfl) rfl
  · intro a w hv hR
    exact Ex.ok' (ex_move rfl (show a.eval (.tmp 42) = _ from hR.pred 1 42 rfl rfl)) (wn rfl) rfl
  · intro a w hv hR
    exact Ex.ok' (ex_move rfl (show a.eval (.tmp 5) = _ from hR.keep 5 rfl)) (wanted_of (j := 2) (d := 43) (b := true) rfl rfl (hR.pred 2 43 rfl rfl)) rfl
  · intro a w hv hR
    exact Ex.ok' (ex_eql (k := .i64) (m := 0) (n := 0) rfl (show a.eval (.tmp 44) = _ from hR.pred 3 44 rfl rfl) rfl (by decide)) (wanted_of (j := 2) (d := 43) (b := true) rfl rfl (hR.pred 2 43 rfl rfl)) rfl
  · intro a w hv hR
    exact Ex.ok' (ex_pick (b := true) rfl (show a.eval (.tmp 43) = _ from hR.pred 2 43 rfl rfl) (show a.eval (.tmp 45) = _ from hR.pred 4 45 rfl rfl)) (wn rfl) rfl
  · intro a w hv hR
    exact Ex.ok' (ex_move rfl (show a.eval (.tmp 46) = _ from hR.pred 5 46 rfl rfl)) (wn rfl) rfl
  · intro a w hv hR
    exact Ex.ok' (ex_move rfl (show a.eval (.tmp 4) = _ from hR.keep 4 rfl)) (wanted_of (j := 6) (d := 47) (b := true) rfl rfl (hR.pred 6 47 rfl rfl)) rfl
  · intro a w hv hR
    exact Ex.ok' (ex_str Try.underlying24 Try.underlying5 Try.underlying9 rfl (show a.eval (.tmp 48) = _ from hR.pred 7 48 rfl rfl) (bytes_all (l := AWB) (by have := (hv.get 0 rfl : Blk _ _ (durCells (((((((Disk.zero 3).write 0 (List.replicate 64 (1 : UInt8))).sync).write 0 (List.replicate 128 (2 : UInt8))).crash [1]).tick).view ((((((Disk.zero 3).write 0 (List.replicate 64 (1 : UInt8))).sync).write 0 (List.replicate 128 (2 : UInt8))).crash [1]).tick).pend 0 3)) _); rw [view_bytes] at this; exact this)) (by kernel_rfl)) (wanted_of (j := 6) (d := 47) (b := true) rfl rfl (hR.pred 6 47 rfl rfl)) rfl
  · intro a w hv hR
    exact stepOk_calls awcallable23 (wanted_of (j := 6) (d := 47) (b := true) rfl rfl (hR.pred 6 47 rfl rfl)) rfl (args := #[.int .u8 1, .int .i64 1, .int .i64 0]) (by simp only [List.map_toArray, List.map_cons, List.map_nil]; rfl) ((lawFilled (Base.of w) _ w 1 1 (rfl) 1 0 64 (by omega) (by omega) (Inv.start w)).mono fun e w' ⟨b, he, hi⟩ => ⟨_, he, ext_of hi, b, rfl, hi.head⟩)
  · intro a w hv hR
    obtain ⟨b, hve, hblk⟩ := hR.pred 9 50 rfl rfl
    exact Ex.ok' (ex_str Try.underlying24 Try.underlying5 Try.underlying9 rfl (show a.eval (.tmp 50) = _ from hve) (bytes_rep (c := 1) hblk) List.length_replicate) (wanted_of (j := 6) (d := 47) (b := true) rfl rfl (hR.pred 6 47 rfl rfl)) rfl
  · intro a w hv hR
    exact stepOk_calls awcallable23 (wanted_of (j := 6) (d := 47) (b := true) rfl rfl (hR.pred 6 47 rfl rfl)) rfl (args := #[.int .u8 2, .int .i64 1, .int .i64 0]) (by simp only [List.map_toArray, List.map_cons, List.map_nil]; rfl) ((lawFilled (Base.of w) _ w 2 2 (rfl) 1 0 64 (by omega) (by omega) (Inv.start w)).mono fun e w' ⟨b, he, hi⟩ => ⟨_, he, ext_of hi, b, rfl, hi.head⟩)
  · intro a w hv hR
    obtain ⟨b, hve, hblk⟩ := hR.pred 11 52 rfl rfl
    exact Ex.ok' (ex_str Try.underlying24 Try.underlying5 Try.underlying9 rfl (show a.eval (.tmp 52) = _ from hve) (bytes_rep (c := 2) hblk) List.length_replicate) (wanted_of (j := 6) (d := 47) (b := true) rfl rfl (hR.pred 6 47 rfl rfl)) rfl
  · intro a w hv hR
    exact Ex.ok' (ex_cat (s := (List.replicate 64 (1 : UInt8))) (s' := (List.replicate 64 (2 : UInt8))) rfl (show a.eval (.tmp 51) = _ from hR.pred 10 51 rfl rfl) (show a.eval (.tmp 53) = _ from hR.pred 12 53 rfl rfl) (by simp only [List.length_append, List.length_replicate]; omega)) (wanted_of (j := 6) (d := 47) (b := true) rfl rfl (hR.pred 6 47 rfl rfl)) rfl
  · intro a w hv hR
    exact mono_make (n := 64) (wanted_of (j := 6) (d := 47) (b := true) rfl rfl (hR.pred 6 47 rfl rfl)) rfl rfl rfl Try.underlying24 awmk5 rfl (by unfold maxLen; omega) (by omega) rfl
  · intro a w hv hR
    obtain ⟨b, hve, hblk⟩ := hR.pred 14 55 rfl rfl
    exact Ex.ok' (ex_str Try.underlying24 Try.underlying5 Try.underlying9 rfl (show a.eval (.tmp 55) = _ from hve) (bytes_rep (c := 0) hblk) List.length_replicate) (wanted_of (j := 6) (d := 47) (b := true) rfl rfl (hR.pred 6 47 rfl rfl)) rfl
  · intro a w hv hR
    exact Ex.ok' (ex_cat (s := ((List.replicate 64 (1 : UInt8)) ++ (List.replicate 64 (2 : UInt8)))) (s' := (List.replicate 64 (0 : UInt8))) rfl (show a.eval (.tmp 54) = _ from hR.pred 13 54 rfl rfl) (show a.eval (.tmp 56) = _ from hR.pred 15 56 rfl rfl) (by simp only [List.length_append, List.length_replicate]; omega)) (wanted_of (j := 6) (d := 47) (b := true) rfl rfl (hR.pred 6 47 rfl rfl)) rfl
  · intro a w hv hR
    exact Ex.ok' (ex_seql (s := AWB) (s' := (((List.replicate 64 (1 : UInt8)) ++ (List.replicate 64 (2 : UInt8))) ++ (List.replicate 64 (0 : UInt8)))) rfl (show a.eval (.tmp 49) = _ from hR.pred 8 49 rfl rfl) (show a.eval (.tmp 57) = _ from hR.pred 16 57 rfl rfl) (decide_eq_true (aw_eq))) (wanted_of (j := 6) (d := 47) (b := true) rfl rfl (hR.pred 6 47 rfl rfl)) rfl
  · intro a w hv hR
    exact Ex.ok' (ex_pick (b := true) rfl (show a.eval (.tmp 47) = _ from hR.pred 6 47 rfl rfl) (show a.eval (.tmp 58) = _ from hR.pred 17 58 rfl rfl)) (wn rfl) rfl
  · intro a w hv hR
    exact Ex.ok' (ex_assign rfl (show a.eval (.tmp 59) = _ from hR.pred 18 59 rfl rfl)) (wn rfl) rfl
  · exact (no_none (by kernel_rfl) i o h).elim
  rintro _ w32 ⟨_, _, rfl, rfl, ⟨_, _, rfl, rfl, ⟨_, _, rfl, rfl, ⟨_, _, rfl, rfl, ⟨_, _, rfl, rfl, ⟨_, _, rfl, rfl, ⟨_, _, rfl, rfl, ⟨_, _, rfl, rfl, ⟨_, _, rfl, rfl, ⟨_, _, rfl, ⟨b28, rfl, hblkb28⟩, ⟨_, _, rfl, rfl, ⟨_, _, rfl, ⟨b29, rfl, hblkb29⟩, ⟨_, _, rfl, rfl, ⟨_, _, rfl, rfl, ⟨_, _, rfl, ⟨b30, rfl, hblkb30⟩, ⟨_, _, rfl, rfl, ⟨_, _, rfl, rfl, ⟨_, _, rfl, rfl, ⟨_, _, rfl, rfl, ⟨_, _, rfl, rfl, rfl⟩⟩⟩⟩⟩⟩⟩⟩⟩⟩⟩⟩⟩⟩⟩⟩⟩⟩⟩⟩ hv
  simp only [putAll, Act.put, List.setIfInBounds_toArray, List.set_cons_succ, List.set_cons_zero]
  refine then_normal (hK27 _ _ ?_)
  clear hK27 K27
  refine wpIn_ret ?_
  refine bodyPost_ret (results_tmp rfl _ _ _) rfl ?_
  exact ⟨rfl, hv.tail 5⟩
end Go.Proofs.Ytkannfkjnohdlaa
