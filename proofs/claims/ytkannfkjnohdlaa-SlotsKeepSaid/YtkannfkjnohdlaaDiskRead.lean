/- disk.Read -/
import Derived.Test.YtkannfkjnohdlaaDiskCrash
namespace Go.Proofs.Ytkannfkjnohdlaa
open Go.RowKit Go.Pm
theorem Disk.view_len (E : Disk) (l : List (Nat × List UInt8)) (at_ n : Nat) : (E.view l at_ n).length = n := by simp [Disk.view]
theorem Disk.over_len {l : List (Nat × List UInt8)} {s : List UInt8} (hl : ∀ p ∈ l, p.2.length = 64) (hs : s.length = 64) (i : Nat) : (Disk.over l i s).length = 64 := by
  unfold Disk.over
  induction l generalizing s with
  | nil => exact hs
  | cons p l ih =>
    rw [List.foldl_cons]
    refine ih (fun q hq => hl q (by simp [hq])) ?_
    split
    · exact hl p (by simp)
    · exact hs
theorem Disk.view_64 {E : Disk} (hok : E.Ok) {l : List (Nat × List UInt8)} (hl : ∀ p ∈ l, p.2.length = 64) {at_ n : Nat} (h : at_ + n ≤ E.dur.length) : ∀ s ∈ E.view l at_ n, s.length = 64 := by
  intro s hs
  obtain ⟨k, hk, rfl⟩ := List.mem_map.1 hs
  have hk := List.mem_range.1 hk
  refine Disk.over_len hl ?_ _
  rw [List.getD_eq_getElem?_getD, List.getElem?_eq_getElem (by omega)]
  exact hok.dur _ (List.getElem_mem _)
theorem Disk.view_succ (E : Disk) (at_ i : Nat) (h : at_ + i < E.dur.length) : E.view [] at_ (i + 1) = E.view [] at_ i ++ [E.dur[at_ + i]] := by
  unfold Disk.view Disk.over
  rw [List.range_succ, List.map_append]
  simp [List.getD_eq_getElem?_getD, List.getElem?_eq_getElem h]
theorem Disk.over_snoc (l : List (Nat × List UInt8)) (x : Nat × List UInt8) (i : Nat) (s : List UInt8) : Disk.over (l ++ [x]) i s = if x.1 = i then x.2 else Disk.over l i s := by
  unfold Disk.over
  rw [List.foldl_append]
  rfl
theorem Disk.view_in (E : Disk) (l : List (Nat × List UInt8)) (x : Nat × List UInt8) (at_ n : Nat) (h1 : at_ ≤ x.1) : (E.view l at_ n).set (x.1 - at_) x.2 = E.view (l ++ [x]) at_ n := by
  apply List.ext_getElem
  · simp [Disk.view]
  · intro i h2 h3
    rw [List.getElem_set]
    simp only [Disk.view, List.getElem_map, List.getElem_range, Disk.over_snoc]
    by_cases hi : x.1 - at_ = i
    · rw [if_pos hi, if_pos (by omega)]
    · rw [if_neg hi, if_neg (by omega)]
theorem Disk.view_out (E : Disk) (l : List (Nat × List UInt8)) (x : Nat × List UInt8) (at_ n : Nat) (h : x.1 < at_ ∨ at_ + n ≤ x.1) : E.view (l ++ [x]) at_ n = E.view l at_ n := by
  unfold Disk.view
  apply List.map_congr_left
  intro k hk
  have hk := List.mem_range.1 hk
  rw [Disk.over_snoc, if_neg (by omega)]
theorem durCells_app (a b : List (List UInt8)) : durCells (a ++ b) = durCells a ++ durCells b := by simp [durCells]
theorem elem8 : Elem Try.prog 24 5 (.int .u8 0) 1 1 := by
  refine ⟨Try.underlying24, ?_, rfl, by omega⟩
  obtain ⟨i, hi, h⟩ := Option.map_eq_some_iff.1 (show (Try.prog.info? 5).map (fun i => (i.zero, i.size, i.bytes)) = some (some (.int .u8 0), 1, 1) by kernel_rfl)
  simp only [Prod.mk.injEq] at h
  exact ⟨i, hi, h⟩
theorem durSrc {w : World} {gd : Nat} {d : List (List UInt8)} (hb : Blk w gd (durCells d) 90) (hd : ∀ s ∈ d, s.length = 64) (k : Nat) (hk : k < d.length) : Src w (some ⟨gd, 0 + k * 64, none⟩) (d[k].map B8) := by
  rw [durCells_split d k hk] at hb
  refine src_mid hb ?_
  rw [durCells_length (fun s hs => hd s (List.mem_of_mem_take hs)), List.length_take, Nat.min_eq_left (Nat.le_of_lt hk)]
  omega
section
variable {a : Act} {o : Oper} {x y : Operand} {w : World}
theorem rdAppend {bb gd at_ i n : Nat} {E : Disk} (hok : E.Ok) (hin : i < n) (hat : at_ + n ≤ E.dur.length) (ho : o.op = .call { callee := .builtin .append, args := #[x, y], argTypes := #[24, 24] })
    (hx : a.eval x = .slice (some ⟨bb, 0, none⟩) (i * 64) (n * 64)) (hy : a.eval y = .slice (some ⟨gd, 0 + (at_ + i) * 64, none⟩) 64 64) (hb : Blk w bb (durCells (E.view [] at_ i) ++ List.replicate (64 * (n - i)) (.int .u8 0)) 5) (hg : Blk w gd (durCells E.dur) 90) :
    Ex Try.prog a o w (.slice (some ⟨bb, 0, none⟩) (i * 64 + 64) (n * 64)) (setBlk w bb (durCells (E.view [] at_ (i + 1)) ++ List.replicate (64 * (n - (i + 1))) (Value.int .u8 0))) := by
  have hl : (E.dur[at_ + i]).length = 64 := hok.dur _ (List.getElem_mem _)
  have e1 : List.replicate (64 * (n - i)) (Value.int .u8 0) = List.replicate 64 (.int .u8 0) ++ List.replicate (64 * (n - (i + 1))) (Value.int .u8 0) := by rw [List.replicate_append_replicate]; congr 1; omega
  rw [e1, ← List.append_assoc] at hb
  have := ex_appendRoom (P := Try.prog) (l := i * 64) (c := n * 64) (m := 64) (news := (E.dur[at_ + i]).map B8) elem8 ho hx hy hb (by rw [durCells_length (Disk.view_64 hok (by simp) (by omega)), Disk.view_len]) (by simp) (by simp [hl]) (by omega) (durSrc hg hok.dur (at_ + i) (by omega)) (oneCell_bytes _)
  rw [Disk.view_succ E at_ i (by omega), durCells_app]
  simpa [durCells] using this
theorem rdCopy {bb b at_ n : Nat} {E : Disk} (hok : E.Ok) {l : List (Nat × List UInt8)} (hl : ∀ p ∈ l, p.2.length = 64) {q : Nat × List UInt8} (hq : q.2.length = 64) (h1 : at_ ≤ q.1) (h2 : q.1 < at_ + n) (hat : at_ + n ≤ E.dur.length) (ho : o.op = .call { callee := .builtin .copy, args := #[x, y], argTypes := #[24, 24] })
    (hx : a.eval x = .slice (some ⟨bb, 0 + (q.1 - at_) * 64, none⟩) (n * 64 - (q.1 - at_) * 64) (n * 64 - (q.1 - at_) * 64)) (hy : a.eval y = .slice (some ⟨b, 1, none⟩) 64 64) (hb : Blk w bb (durCells (E.view l at_ n)) 5) (hg : Blk w b (wrCells q) 92) :
    Ex Try.prog a o w (.int .i64 64) (setBlk w bb (durCells (E.view (l ++ [q]) at_ n))) := by
  have hv64 := Disk.view_64 hok hl hat
  have hlen := Disk.view_len E l at_ n
  have hk : q.1 - at_ < (E.view l at_ n).length := by omega
  rw [durCells_split _ (q.1 - at_) hk] at hb
  rw [← Disk.view_in E l q at_ n h1, durCells_set _ (q.1 - at_) hk]
  have hs : Src w (some ⟨b, 1, none⟩) (q.2.map B8) := src_mid (pre := [.int .i64 (q.1 : Int)]) (post := []) (t := 92) (by simpa [wrCells] using hg) rfl
  have hc := run_copy_mid (P := Try.prog) (dT := 24) (el := 5) (ty := o.type) (dLen := n * 64 - (q.1 - at_) * 64) (dCap := n * 64 - (q.1 - at_) * 64) (sLen := 64) (sCap := 64) (cs := q.2.map B8) Try.underlying24 (by kernel_rfl) hb (0 + (q.1 - at_) * 64)
    (by rw [durCells_length (fun s hs => hv64 s (List.mem_of_mem_take hs)), List.length_take, Nat.min_eq_left (Nat.le_of_lt hk)]; omega) (by rw [List.length_map, List.length_map, hq]; exact hv64 _ (List.getElem_mem hk)) (by rw [List.length_map, hq]; exact (Nat.min_eq_left (by omega)).symm) ⟨Nat.le_refl _, by unfold maxLen; omega, fun h => by cases h⟩ hs (oneCell_bytes _)
  rw [show goInt (q.2.map B8).length = .int .i64 64 by rw [List.length_map, hq]; rfl] at hc
  exact ex_copy ho hx hy hc
end
theorem pre64 {D : Disk} (hok : D.Ok) (pre : List (PendEl D)) : ∀ p ∈ pre.map (·.1.2), p.2.length = 64 := by
  intro p hp
  obtain ⟨y, _, rfl⟩ := List.mem_map.1 hp
  exact (pendEl_len hok y).2
theorem map_snoc {D : Disk} (pre : List (PendEl D)) (x : PendEl D) : (pre ++ [x]).map (·.1.2) = pre.map (·.1.2) ++ [x.1.2] := by simp
theorem all_pend {D : Disk} {xs : List (PendEl D)} (h : xs.map (·.1) = numbered D) : xs.map (·.1.2) = D.pend := by
  have h1 := congrArg (List.map (·.2)) h
  rw [numbered_snd, List.map_map] at h1
  exact h1

theorem rdna3 (w : World) : (isAgg 3).run Try.prog w = .ok false w := by kernel_rfl
theorem rdcallable44 : Callable Try.prog 44 := ⟨_, Try.func44, by kernel_rfl, by kernel_rfl⟩
set_option maxRecDepth 100000 in
set_option maxHeartbeats 2000000 in
theorem diskReadBad (B : Base) (H : List Res) (w : World) (p : Nat) (D : Disk) (F : List Nat) (at_ n : Int) (hv : Inv B (diskR p D F :: H) w) (ha : -9223372036854775808 ≤ at_ ∧ at_ ≤ 9223372036854775807) (hh : D.has at_ n = false) :
    Calls Try.prog 26 #[.pointer (some ⟨p, 0, none⟩), .int .i64 at_, .int .i64 n] w fun e w' => e = .returned (.tuple #[.slice none 0 0, .int .i64 2]) ∧ Inv B (diskR p D F :: H) w' := by
  refine (callsIn_wide (n := 5)).1 ?_
  refine callsIn_of_wp_marks Try.func26 rfl trivial ?_ rfl
  simp only [Try.ntmps26, List.size_toArray, List.length_cons, List.length_nil, Nat.reduceAdd, Nat.reduceSub, Array.replicate_succ, Array.replicate_zero, List.push_toArray, List.append_toArray, List.nil_append, List.cons_append]
  refine wpIn_seq_k (fun K1 hK1 => ?_)
  refine wpIn_region_lit ?_
  refine sl_box (L := [.int .i64 at_]) (fun _ => trivial) (wn rfl) rfl (p := .int .i64 at_) rfl hv (fun w => by kernel_rfl) (fun b2 w3 hv => ?_)
  refine sl_box (L := [.int .i64 n]) (fun _ => trivial) (wn rfl) rfl (p := .int .i64 n) rfl hv (fun w => by kernel_rfl) (fun b4 w5 hv => ?_)
  refine wpi_exG (v := .slice none 0 0) (fun _ => trivial) (wn rfl) rfl (ex_assign rfl rfl) ?_
  simp only [Act.put, List.setIfInBounds_toArray, List.set_cons_succ, List.set_cons_zero]
  refine wpi_exG (v := .int .i64 0) (fun _ => trivial) (wn rfl) rfl (ex_assign rfl rfl) ?_
  refine wpListIn_nil ?_
  simp only [Act.put, List.setIfInBounds_toArray, List.set_cons_succ, List.set_cons_zero]
  refine then_normal (hK1 _ _ ?_)
  clear hK1 K1
  refine wpIn_seq_k (fun K6 hK6 => ?_)
  refine wpIn_seq_k (fun K7 hK7 => ?_)
  refine wpIn_region_lit ?_
  refine wpi_exG (v := .pointer (some ⟨p, 0, none⟩)) (fun _ => trivial) (wn rfl) rfl (ex_move rfl rfl) ?_
  refine wpi_exG (v := .int .i64 at_) (fun _ => trivial) (wn rfl) rfl (ex_load rfl rfl (run_load1 rdna3 (hv.load 1 0 rfl rfl))) ?_
  refine wpi_exG (v := .int .i64 n) (fun _ => trivial) (wn rfl) rfl (ex_load rfl rfl (run_load1 rdna3 (hv.load 0 0 rfl rfl))) ?_
  simp only [Act.put, List.setIfInBounds_toArray, List.set_cons_succ, List.set_cons_zero]
  refine wpi_callG rdcallable44 (fun _ => trivial) wideC rfl (wn rfl) rfl (args := #[.pointer (some ⟨p, 0, none⟩), .int .i64 at_, .int .i64 n]) (by simp only [List.map_toArray, List.map_cons, List.map_nil]; rfl) ((diskHasSl _ p D F _ _ (b := false) hh (hv.get 2 rfl) ha).mono ?_)
  rintro e w8 ⟨rfl, rfl⟩
  refine ⟨_, rfl, ?_⟩
  refine wpi_exG (v := .bool true) (fun _ => trivial) (wn rfl) rfl (ex_not rfl rfl rfl) ?_
  refine wpListIn_nil ?_
  simp only [Act.put, List.setIfInBounds_toArray, List.set_cons_succ, List.set_cons_zero]
  refine then_normal (hK7 _ _ ?_)
  clear hK7 K7
  refine wpIn_cond_true rfl ?_
  refine wpIn_seq_k (fun K9 hK9 => ?_)
  refine wpIn_region_lit ?_
  refine wpi_exG (v := .slice none 0 0) (fun _ => trivial) (wn rfl) rfl (ex_assign rfl rfl) ?_
  refine wpi_exG (v := .int .i64 2) (fun _ => trivial) (wn rfl) rfl (ex_assign rfl rfl) ?_
  refine wpListIn_nil ?_
  simp only [Act.put, List.setIfInBounds_toArray, List.set_cons_succ, List.set_cons_zero]
  refine then_normal (hK9 _ _ ?_)
  clear hK9 K9
  refine wpIn_ret ?_
  refine then_ret ?_
  clear hK6 K6
  refine sl_end0 (results_tmp2 rfl _ _ _) ?_
  exact ⟨rfl, hv.tail 2⟩
theorem rdcallable45 : Callable Try.prog 45 := ⟨_, Try.func45, by kernel_rfl, by kernel_rfl⟩
set_option maxRecDepth 100000 in
set_option maxHeartbeats 2000000 in
theorem diskReadOff (B : Base) (H : List Res) (w : World) (p : Nat) (D : Disk) (F : List Nat) (at_ n : Int) (hv : Inv B (diskR p D F :: H) w) (ha : -9223372036854775808 ≤ at_ ∧ at_ ≤ 9223372036854775807) (hh : D.has at_ n = true) (hl : D.left = 0) :
    Calls Try.prog 26 #[.pointer (some ⟨p, 0, none⟩), .int .i64 at_, .int .i64 n] w fun e w' => e = .returned (.tuple #[.slice none 0 0, .int .i64 20]) ∧ Inv B (diskR p D.tick F :: H) w' := by
  refine (callsIn_wide (n := 5)).1 ?_
  refine callsIn_of_wp_marks Try.func26 rfl trivial ?_ rfl
  simp only [Try.ntmps26, List.size_toArray, List.length_cons, List.length_nil, Nat.reduceAdd, Nat.reduceSub, Array.replicate_succ, Array.replicate_zero, List.push_toArray, List.append_toArray, List.nil_append, List.cons_append]
  refine wpIn_seq_k (fun K1 hK1 => ?_)
  refine wpIn_region_lit ?_
  refine sl_box (L := [.int .i64 at_]) (fun _ => trivial) (wn rfl) rfl (p := .int .i64 at_) rfl hv (fun w => by kernel_rfl) (fun b2 w3 hv => ?_)
  refine sl_box (L := [.int .i64 n]) (fun _ => trivial) (wn rfl) rfl (p := .int .i64 n) rfl hv (fun w => by kernel_rfl) (fun b4 w5 hv => ?_)
  refine wpi_exG (v := .slice none 0 0) (fun _ => trivial) (wn rfl) rfl (ex_assign rfl rfl) ?_
  simp only [Act.put, List.setIfInBounds_toArray, List.set_cons_succ, List.set_cons_zero]
  refine wpi_exG (v := .int .i64 0) (fun _ => trivial) (wn rfl) rfl (ex_assign rfl rfl) ?_
  refine wpListIn_nil ?_
  simp only [Act.put, List.setIfInBounds_toArray, List.set_cons_succ, List.set_cons_zero]
  refine then_normal (hK1 _ _ ?_)
  clear hK1 K1
  refine wpIn_seq_k (fun K6 hK6 => ?_)
  refine wpIn_seq_k (fun K7 hK7 => ?_)
  refine wpIn_region_lit ?_
  refine wpi_exG (v := .pointer (some ⟨p, 0, none⟩)) (fun _ => trivial) (wn rfl) rfl (ex_move rfl rfl) ?_
  refine wpi_exG (v := .int .i64 at_) (fun _ => trivial) (wn rfl) rfl (ex_load rfl rfl (run_load1 rdna3 (hv.load 1 0 rfl rfl))) ?_
  refine wpi_exG (v := .int .i64 n) (fun _ => trivial) (wn rfl) rfl (ex_load rfl rfl (run_load1 rdna3 (hv.load 0 0 rfl rfl))) ?_
  simp only [Act.put, List.setIfInBounds_toArray, List.set_cons_succ, List.set_cons_zero]
  refine wpi_callG rdcallable44 (fun _ => trivial) wideC rfl (wn rfl) rfl (args := #[.pointer (some ⟨p, 0, none⟩), .int .i64 at_, .int .i64 n]) (by simp only [List.map_toArray, List.map_cons, List.map_nil]; rfl) ((diskHasSl _ p D F _ _ (b := true) hh (hv.get 2 rfl) ha).mono ?_)
  rintro e w8 ⟨rfl, rfl⟩
  refine ⟨_, rfl, ?_⟩
  refine wpi_exG (v := .bool false) (fun _ => trivial) (wn rfl) rfl (ex_not rfl rfl rfl) ?_
  refine wpListIn_nil ?_
  simp only [Act.put, List.setIfInBounds_toArray, List.set_cons_succ, List.set_cons_zero]
  refine then_normal (hK7 _ _ ?_)
  clear hK7 K7
  refine wpIn_cond_false rfl ?_
  refine wpIn_skip ?_
  refine then_normal (hK6 _ _ ?_)
  clear hK6 K6
  refine wpIn_seq_k (fun K9 hK9 => ?_)
  refine wpIn_seq_k (fun K10 hK10 => ?_)
  refine wpIn_region_lit ?_
  refine wpi_exG (v := .pointer (some ⟨p, 0, none⟩)) (fun _ => trivial) (wn rfl) rfl (ex_move rfl rfl) ?_
  refine wpi_callG rdcallable45 (fun _ => trivial) wideC rfl (wn rfl) rfl (args := #[.pointer (some ⟨p, 0, none⟩)]) (by simp only [List.map_toArray, List.map_cons, List.map_nil]; rfl) ((diskCallSl _ _ _ p D F 2 hv rfl (b := false) (by simp [hl])).mono ?_)
  rintro e w11 ⟨rfl, hv⟩
  refine ⟨_, rfl, ?_⟩
  simp only [List.set_cons_succ, List.set_cons_zero] at hv
  refine wpi_exG (v := .bool true) (fun _ => trivial) (wn rfl) rfl (ex_not rfl rfl rfl) ?_
  refine wpListIn_nil ?_
  simp only [Act.put, List.setIfInBounds_toArray, List.set_cons_succ, List.set_cons_zero]
  refine then_normal (hK10 _ _ ?_)
  clear hK10 K10
  refine wpIn_cond_true rfl ?_
  refine wpIn_seq_k (fun K12 hK12 => ?_)
  refine wpIn_region_lit ?_
  refine wpi_exG (v := .slice none 0 0) (fun _ => trivial) (wn rfl) rfl (ex_assign rfl rfl) ?_
  refine wpi_exG (v := .int .i64 20) (fun _ => trivial) (wn rfl) rfl (ex_assign rfl rfl) ?_
  refine wpListIn_nil ?_
  simp only [Act.put, List.setIfInBounds_toArray, List.set_cons_succ, List.set_cons_zero]
  refine then_normal (hK12 _ _ ?_)
  clear hK12 K12
  refine wpIn_ret ?_
  refine then_ret ?_
  clear hK9 K9
  refine sl_end0 (results_tmp2 rfl _ _ _) ?_
  exact ⟨rfl, hv.tail 2⟩
theorem rdmk5 : (Try.prog.info? 5).map (fun i => (i.zero, i.size, i.bytes)) = some (some (.int .u8 0), 1, 1) := by kernel_rfl
theorem rdal24 (w : World) : (Instr.alloc 24 true (.tuple #[])).run Try.prog w = .ok (.pointer (some ⟨w.heap.size, 0, none⟩)) (w.alloc (.cells ([.slice none 0 0] : List Value).toArray 24)) := by kernel_rfl
theorem rdsz24 : (Try.prog.info? 24).map (·.size) = some 1 := by kernel_rfl
theorem rdna24 (w : World) : (isAgg 24).run Try.prog w = .ok false w := by kernel_rfl
theorem rdfa87_0 (w : World) (b o : Nat) : (Instr.fieldAt 87 (.pointer (some ⟨b, o, none⟩)) 0).run Try.prog w = .ok (.pointer (some ⟨b, o + 0, none⟩)) w := by kernel_rfl
theorem rdna84 (w : World) : (isAgg 84).run Try.prog w = .ok false w := by kernel_rfl
theorem rdes84 (w : World) : (sizeOf (Try.prog.elem 84)).run Try.prog w = .ok 64 w := by kernel_rfl
theorem rdsa90 (w : World) (b o : Nat) : (Instr.sliceAt 90 (.pointer (some ⟨b, o, none⟩)) none none none).run Try.prog w = .ok (.slice (some ⟨b, o, none⟩) 64 64) w := by kernel_rfl
theorem rdcallable46 : Callable Try.prog 46 := ⟨_, Try.func46, by kernel_rfl, by kernel_rfl⟩
theorem rdal92 (w : World) : (Instr.alloc 92 true (.tuple #[])).run Try.prog w = .ok (.pointer (some ⟨w.heap.size, 0, none⟩)) (w.alloc (.cells ([.int .i64 0, .int .u8 0, .int .u8 0, .int .u8 0, .int .u8 0, .int .u8 0, .int .u8 0, .int .u8 0, .int .u8 0, .int .u8 0, .int .u8 0, .int .u8 0, .int .u8 0, .int .u8 0, .int .u8 0, .int .u8 0, .int .u8 0, .int .u8 0, .int .u8 0, .int .u8 0, .int .u8 0, .int .u8 0, .int .u8 0, .int .u8 0, .int .u8 0, .int .u8 0, .int .u8 0, .int .u8 0, .int .u8 0, .int .u8 0, .int .u8 0, .int .u8 0, .int .u8 0, .int .u8 0, .int .u8 0, .int .u8 0, .int .u8 0, .int .u8 0, .int .u8 0, .int .u8 0, .int .u8 0, .int .u8 0, .int .u8 0, .int .u8 0, .int .u8 0, .int .u8 0, .int .u8 0, .int .u8 0, .int .u8 0, .int .u8 0, .int .u8 0, .int .u8 0, .int .u8 0, .int .u8 0, .int .u8 0, .int .u8 0, .int .u8 0, .int .u8 0, .int .u8 0, .int .u8 0, .int .u8 0, .int .u8 0, .int .u8 0, .int .u8 0, .int .u8 0] : List Value).toArray 92)) := by kernel_rfl
theorem rdfa92_0 (w : World) (b o : Nat) : (Instr.fieldAt 92 (.pointer (some ⟨b, o, none⟩)) 0).run Try.prog w = .ok (.pointer (some ⟨b, o + 0, none⟩)) w := by kernel_rfl
theorem rdes24 (w : World) : (sizeOf (Try.prog.elem 24)).run Try.prog w = .ok 1 w := by kernel_rfl
theorem rdfa92_1 (w : World) (b o : Nat) : (Instr.fieldAt 92 (.pointer (some ⟨b, o, none⟩)) 1).run Try.prog w = .ok (.pointer (some ⟨b, o + 1, none⟩)) w := by kernel_rfl
set_option maxRecDepth 100000 in
set_option maxHeartbeats 2000000 in
theorem diskReadOk (B : Base) (H : List Res) (w : World) (p : Nat) (D : Disk) (F : List Nat) (at_ n : Nat) (hv : Inv B (diskR p D F :: H) w) (E : Disk) (hE : D.tick = E) (hpl : E.pend.length ≤ 1000000000) (hh : D.has at_ n = true) (hl : D.left ≠ 0) (hn1 : n ≤ 65536) (ha1 : at_ ≤ 65536) (hat : at_ + n ≤ E.dur.length) :
    Calls Try.prog 26 #[.pointer (some ⟨p, 0, none⟩), .int .i64 (at_ : Int), .int .i64 (n : Int)] w fun e w' => ∃ b, e = .returned (.tuple #[.slice (some ⟨b, 0, none⟩) (n * 64) (n * 64), .int .i64 0]) ∧ ∃ F', Inv B (Res.cell b (durCells (E.view E.pend at_ n)) 5 :: diskR p E F' :: H) w' := by
  refine (callsIn_wide (n := 5)).1 ?_
  refine callsIn_of_wp_marks Try.func26 rfl trivial ?_ rfl
  simp only [Try.ntmps26, List.size_toArray, List.length_cons, List.length_nil, Nat.reduceAdd, Nat.reduceSub, Array.replicate_succ, Array.replicate_zero, List.push_toArray, List.append_toArray, List.nil_append, List.cons_append]
  refine wpIn_seq_k (fun K1 hK1 => ?_)
  refine wpIn_region_lit ?_
  refine sl_box (L := [.int .i64 (at_ : Int)]) (fun _ => trivial) (wn rfl) rfl (p := .int .i64 (at_ : Int)) rfl hv (fun w => by kernel_rfl) (fun b2 w3 hv => ?_)
  refine sl_box (L := [.int .i64 (n : Int)]) (fun _ => trivial) (wn rfl) rfl (p := .int .i64 (n : Int)) rfl hv (fun w => by kernel_rfl) (fun b4 w5 hv => ?_)
  refine wpi_exG (v := .slice none 0 0) (fun _ => trivial) (wn rfl) rfl (ex_assign rfl rfl) ?_
  simp only [Act.put, List.setIfInBounds_toArray, List.set_cons_succ, List.set_cons_zero]
  refine wpi_exG (v := .int .i64 0) (fun _ => trivial) (wn rfl) rfl (ex_assign rfl rfl) ?_
  refine wpListIn_nil ?_
  simp only [Act.put, List.setIfInBounds_toArray, List.set_cons_succ, List.set_cons_zero]
  refine then_normal (hK1 _ _ ?_)
  clear hK1 K1
  refine wpIn_seq_k (fun K6 hK6 => ?_)
  refine wpIn_seq_k (fun K7 hK7 => ?_)
  refine wpIn_region_lit ?_
  refine wpi_exG (v := .pointer (some ⟨p, 0, none⟩)) (fun _ => trivial) (wn rfl) rfl (ex_move rfl rfl) ?_
  refine wpi_exG (v := .int .i64 (at_ : Int)) (fun _ => trivial) (wn rfl) rfl (ex_load rfl rfl (run_load1 rdna3 (hv.load 1 0 rfl rfl))) ?_
  refine wpi_exG (v := .int .i64 (n : Int)) (fun _ => trivial) (wn rfl) rfl (ex_load rfl rfl (run_load1 rdna3 (hv.load 0 0 rfl rfl))) ?_
  simp only [Act.put, List.setIfInBounds_toArray, List.set_cons_succ, List.set_cons_zero]
  refine wpi_callG rdcallable44 (fun _ => trivial) wideC rfl (wn rfl) rfl (args := #[.pointer (some ⟨p, 0, none⟩), .int .i64 (at_ : Int), .int .i64 (n : Int)]) (by simp only [List.map_toArray, List.map_cons, List.map_nil]; rfl) ((diskHasSl _ p D F _ _ (b := true) hh (hv.get 2 rfl) (by omega)).mono ?_)
  rintro e w8 ⟨rfl, rfl⟩
  refine ⟨_, rfl, ?_⟩
  refine wpi_exG (v := .bool false) (fun _ => trivial) (wn rfl) rfl (ex_not rfl rfl rfl) ?_
  refine wpListIn_nil ?_
  simp only [Act.put, List.setIfInBounds_toArray, List.set_cons_succ, List.set_cons_zero]
  refine then_normal (hK7 _ _ ?_)
  clear hK7 K7
  refine wpIn_cond_false rfl ?_
  refine wpIn_skip ?_
  refine then_normal (hK6 _ _ ?_)
  clear hK6 K6
  refine wpIn_seq_k (fun K9 hK9 => ?_)
  refine wpIn_seq_k (fun K10 hK10 => ?_)
  refine wpIn_region_lit ?_
  refine wpi_exG (v := .pointer (some ⟨p, 0, none⟩)) (fun _ => trivial) (wn rfl) rfl (ex_move rfl rfl) ?_
  refine wpi_callG rdcallable45 (fun _ => trivial) wideC rfl (wn rfl) rfl (args := #[.pointer (some ⟨p, 0, none⟩)]) (by simp only [List.map_toArray, List.map_cons, List.map_nil]; rfl) ((diskCallSl _ _ _ p D F 2 hv rfl (b := true) (by simp [hl])).mono ?_)
  rintro e w11 ⟨rfl, hv⟩
  refine ⟨_, rfl, ?_⟩
  simp only [List.set_cons_succ, List.set_cons_zero] at hv
  refine wpi_exG (v := .bool false) (fun _ => trivial) (wn rfl) rfl (ex_not rfl rfl rfl) ?_
  refine wpListIn_nil ?_
  simp only [Act.put, List.setIfInBounds_toArray, List.set_cons_succ, List.set_cons_zero]
  refine then_normal (hK10 _ _ ?_)
  clear hK10 K10
  refine wpIn_cond_false rfl ?_
  refine wpIn_skip ?_
  refine then_normal (hK9 _ _ ?_)
  clear hK9 K9
  refine wpIn_seq_k (fun K12 hK12 => ?_)
  replace hv := hv.front 2 rfl
  simp only [List.eraseIdx_cons_succ, List.eraseIdx_cons_zero] at hv
  rw [hE] at hv
  obtain ⟨gd, vad, vc, hok, hv⟩ := Inv.diskOpen hv
  have hmax := hok.max
  replace hv := hv.front 4 rfl
  simp only [List.eraseIdx_cons_succ, List.eraseIdx_cons_zero] at hv
  replace hv := hv.front 4 rfl
  simp only [List.eraseIdx_cons_succ, List.eraseIdx_cons_zero] at hv
  refine wpIn_region_lit ?_
  refine wpi_exG (v := .int .i64 (n : Int)) (fun _ => trivial) (wn rfl) rfl (ex_load rfl rfl (run_load1 rdna3 (hv.load 0 0 rfl rfl))) ?_
  refine wpi_exG (v := .int .i64 ((n * 64 : Nat) : Int)) (fun _ => trivial) (wn rfl) rfl (ex_mul (m := (n : Int)) (n := 64) rfl rfl rfl (by rw [i64_in (by omega)]; omega)) ?_
  refine sl_make1 (len := 0) (cap := (n * 64 : Nat)) (fun _ => trivial) (wn rfl) rfl rfl rfl Try.underlying24 rdmk5 rfl (by omega) (by unfold maxLen; omega) (by omega) hv (fun b13 w14 hv => ?_)
  simp only [Act.put, List.setIfInBounds_toArray, List.set_cons_succ, List.set_cons_zero]
  refine sl_alloc (fun _ => trivial) (wn rfl) rfl hv rdal24 (fun b15 w16 hv => ?_)
  refine sl_storeAt 0 (v := .slice (some ⟨b13, 0, none⟩) 0 (n * 64 : Nat)) (L' := [.slice (some ⟨b13, 0, none⟩) 0 (n * 64 : Nat)]) (fun _ => trivial) (wn rfl) rfl rfl rfl hv rfl rdsz24 (by simp) rfl rfl rfl (fun w17 hv => ?_)
  simp only [List.set_cons_succ, List.set_cons_zero] at hv
  refine wpListIn_nil ?_
  simp only [Act.put, List.setIfInBounds_toArray, List.set_cons_succ, List.set_cons_zero]
  refine then_normal (hK12 _ _ ?_)
  clear hK12 K12
  refine wpIn_seq_k (fun K18 hK18 => ?_)
  refine wpIn_seq_k (fun K19 hK19 => ?_)
  refine wpIn_region_lit ?_
  refine wpi_exG (v := .int .i64 (n : Int)) (fun _ => trivial) (wn rfl) rfl (ex_load rfl rfl (run_load1 rdna3 (hv.load 2 0 rfl rfl))) ?_
  refine wpi_exG (v := .int .i64 0) (fun _ => trivial) (wn rfl) rfl (ex_move rfl rfl) ?_
  refine wpListIn_nil ?_
  simp only [Act.put, List.setIfInBounds_toArray, List.set_cons_succ, List.set_cons_zero]
  refine then_normal (hK19 _ _ ?_)
  clear hK19 K19
  refine wpIn_block ?_
  gi_loopw [24] (fun x24 wr => ∃ i : Nat, x24 = .int .i64 (i : Int) ∧ i ≤ n ∧ Inv B (Res.cell b15 [.slice (some ⟨b13, 0, none⟩) (i * 64) (n * 64)] 24 :: Res.cell b13 (durCells (E.view [] at_ i) ++ List.replicate (64 * (n - i)) (Value.int .u8 0)) 5 :: Res.cell b4 [.int .i64 (n : Int)] 3 :: Res.cell b2 [.int .i64 (at_ : Int)] 3 :: Res.cell p [.slice (some ⟨gd, 0, none⟩) E.dur.length E.dur.length, .slice vad E.pend.length vc, .int .i64 E.left] 87 :: Res.cell gd (durCells E.dur) 90 :: Res.row 92 65 (.slice vad E.pend.length vc) E.pend.length (pendCells E.pend) :: H) wr) (fun x24 _ => n - (intOf x24).toNat)
  case atStart => exact ⟨0, rfl, by omega, by simpa [Disk.view, durCells, Nat.mul_comm] using hv⟩
  case round =>
    obtain ⟨i, rfl, hi, hv⟩ := hrel
    refine wpIn_seq_k (fun K21 hK21 => ?_)
    refine wpIn_region_lit ?_
    by_cases hb22 : (i : Int) < (n : Int)
    · refine wpi_exG (v := .bool true) (fun _ => trivial) (wn rfl) rfl (ex_lss (k := .i64) (m := (i : Int)) (n := (n : Int)) rfl rfl rfl (decide_eq_true hb22)) ?_
      refine wpListIn_nil ?_
      simp only [Act.put, List.setIfInBounds_toArray, List.set_cons_succ, List.set_cons_zero]
      refine then_normal (hK21 _ _ ?_)
      clear hK21 K21
      refine wpIn_seq_k (fun K23 hK23 => ?_)
      refine wpIn_cond_true rfl ?_
      refine wpIn_skip ?_
      refine then_normal (hK23 _ _ ?_)
      clear hK23 K23
      refine wpIn_seq_k (fun K24 hK24 => ?_)
      refine wpIn_block ?_
      refine wpIn_seq_k (fun K25 hK25 => ?_)
      refine wpIn_region_lit ?_
      refine wpi_exG (v := .int .i64 (i : Int)) (fun _ => trivial) (wn rfl) rfl (ex_move rfl rfl) ?_
      refine wpi_exG (v := .int .i64 (i : Int)) (fun _ => trivial) (wn rfl) rfl (ex_assign rfl rfl) ?_
      refine wpListIn_nil ?_
      simp only [Act.put, List.setIfInBounds_toArray, List.set_cons_succ, List.set_cons_zero]
      refine then_normal (hK25 _ _ ?_)
      clear hK25 K25
      refine region_st mixed [.slice (some ⟨b13, 0, none⟩) (i * 64) (n * 64), .pointer (some ⟨p, 0, none⟩), .pointer (some ⟨p, 0, none⟩), .pointer (some ⟨p, 0, none⟩), .slice (some ⟨gd, 0, none⟩) E.dur.length E.dur.length, .int .i64 (at_ : Int), .int .i64 (i : Int), .int .i64 ((at_ + i : Nat) : Int), .pointer (some ⟨gd, 0 + (at_ + i : Nat) * 64, none⟩), .slice (some ⟨gd, 0 + (at_ + i : Nat) * 64, none⟩) 64 64, undef, undef] [10, 11] [⟨fun vals w => vals = [] ∧ Inv B (Res.cell b15 [.slice (some ⟨b13, 0, none⟩) (i * 64) (n * 64)] 24 :: Res.cell b13 (durCells (E.view [] at_ i) ++ List.replicate (64 * (n - i)) (Value.int .u8 0)) 5 :: Res.cell b4 [.int .i64 (n : Int)] 3 :: Res.cell b2 [.int .i64 (at_ : Int)] 3 :: Res.cell p [.slice (some ⟨gd, 0, none⟩) E.dur.length E.dur.length, .slice vad E.pend.length vc, .int .i64 E.left] 87 :: Res.cell gd (durCells E.dur) 90 :: Res.row 92 65 (.slice vad E.pend.length vc) E.pend.length (pendCells E.pend) :: H) w, fun _ _ _ ⟨h, hi⟩ he => ⟨h, hi.ext he⟩⟩, ⟨fun vals w => vals = [.slice (some ⟨b13, 0, none⟩) (i * 64 + 64) (n * 64)] ∧ Inv B (Res.cell b15 [.slice (some ⟨b13, 0, none⟩) (i * 64) (n * 64)] 24 :: Res.cell b13 (durCells (E.view [] at_ (i + 1)) ++ List.replicate (64 * (n - (i + 1))) (Value.int .u8 0)) 5 :: Res.cell b4 [.int .i64 (n : Int)] 3 :: Res.cell b2 [.int .i64 (at_ : Int)] 3 :: Res.cell p [.slice (some ⟨gd, 0, none⟩) E.dur.length E.dur.length, .slice vad E.pend.length vc, .int .i64 E.left] 87 :: Res.cell gd (durCells E.dur) 90 :: Res.row 92 65 (.slice vad E.pend.length vc) E.pend.length (pendCells E.pend) :: H) w, fun _ _ _ ⟨h, hi⟩ he => ⟨h, hi.ext he⟩⟩, ⟨fun vals w => vals = [.slice (some ⟨b13, 0, none⟩) (i * 64 + 64) (n * 64), undef] ∧ Inv B (Res.cell b15 [.slice (some ⟨b13, 0, none⟩) (i * 64 + 64) (n * 64)] 24 :: Res.cell b13 (durCells (E.view [] at_ (i + 1)) ++ List.replicate (64 * (n - (i + 1))) (Value.int .u8 0)) 5 :: Res.cell b4 [.int .i64 (n : Int)] 3 :: Res.cell b2 [.int .i64 (at_ : Int)] 3 :: Res.cell p [.slice (some ⟨gd, 0, none⟩) E.dur.length E.dur.length, .slice vad E.pend.length vc, .int .i64 E.left] 87 :: Res.cell gd (durCells E.dur) 90 :: Res.row 92 65 (.slice vad E.pend.length vc) E.pend.length (pendCells E.pend) :: H) w, fun _ _ _ ⟨h, hi⟩ he => ⟨h, hi.ext he⟩⟩] 66 rfl (by kernel_rfl) ⟨rfl, hv⟩ ⟨?_, ?_, ?_, ?_, ?_, ?_, ?_, ?_, ?_, ?_, ?_, ?_, trivial⟩ ?_
      · intro aa ww vals hJ hR
        have h2 : vals.length ≤ 0 := hR.hi 10 (by simp) rfl
        have hl : vals.length = 0 := by omega
        obtain ⟨hvals, hv⟩ := hJ.at0 hl
        exact add_step' rfl (Ex.adds' (ex_load rfl (show aa.eval (.tmp 8) = _ from hR.keep 8 rfl) (run_load1 rdna24 (hv.load 0 0 rfl rfl))) (wn rfl) rfl)
      · intro aa ww vals hJ hR
        exact add_step' rfl (Ex.adds' (ex_move rfl (show aa.eval (.tmp 0) = _ from hR.keep 0 rfl)) (wn rfl) rfl)
      · intro aa ww vals hJ hR
        exact add_step' rfl (Ex.adds' (ex_nil rfl (show aa.eval (.tmp 28) = _ from hR.v 1 28 rfl rfl rfl rfl)) (wn rfl) rfl)
      · intro aa ww vals hJ hR
        exact add_step' rfl (Ex.adds' (ex_field rfl (show aa.eval (.tmp 29) = _ from hR.v 2 29 rfl rfl rfl rfl) (rdfa87_0 _ _ _)) (wn rfl) rfl)
      · intro aa ww vals hJ hR
        have h2 : vals.length ≤ 0 := hR.hi 10 (by simp) rfl
        have hl : vals.length = 0 := by omega
        obtain ⟨hvals, hv⟩ := hJ.at0 hl
        exact add_step' rfl (Ex.adds' (ex_load rfl (show aa.eval (.tmp 30) = _ from hR.v 3 30 rfl rfl rfl rfl) (run_load1 rdna84 (hv.load 4 0 rfl rfl))) (wn rfl) rfl)
      · intro aa ww vals hJ hR
        have h2 : vals.length ≤ 0 := hR.hi 10 (by simp) rfl
        have hl : vals.length = 0 := by omega
        obtain ⟨hvals, hv⟩ := hJ.at0 hl
        exact add_step' rfl (Ex.adds' (ex_load rfl (show aa.eval (.tmp 4) = _ from hR.keep 4 rfl) (run_load1 rdna3 (hv.load 3 0 rfl rfl))) (wn rfl) rfl)
      · intro aa ww vals hJ hR
        exact add_step' rfl (Ex.adds' (ex_move rfl (show aa.eval (.tmp 9) = _ from hR.keep 9 rfl)) (wn rfl) rfl)
      · intro aa ww vals hJ hR
        exact add_step' rfl (Ex.adds' (ex_add (m := (at_ : Int)) (n := (i : Int)) rfl (show aa.eval (.tmp 32) = _ from hR.v 5 32 rfl rfl rfl rfl) (show aa.eval (.tmp 33) = _ from hR.v 6 33 rfl rfl rfl rfl) (by rw [i64_in (by omega)]; omega)) (wn rfl) rfl)
      · intro aa ww vals hJ hR
        exact add_step' rfl (Ex.adds' (ex_index rfl (show aa.eval (.tmp 31) = _ from hR.v 4 31 rfl rfl rfl rfl) (show aa.eval (.tmp 34) = _ from hR.v 7 34 rfl rfl rfl rfl) (run_idx (k := (at_ + i : Nat)) Try.underlying84 rdes84 (by omega))) (wn rfl) rfl)
      · intro aa ww vals hJ hR
        exact add_step' rfl (Ex.adds' (ex_slice rfl (show aa.eval (.tmp 35) = _ from hR.v 8 35 rfl rfl rfl rfl) rfl rfl rfl (rdsa90 _ _ _)) (wn rfl) rfl)
      · intro aa ww vals hJ hR
        refine mem_step' rfl fun hvl => ?_
        have hl : vals.length = 0 := hvl
        obtain ⟨hvals, hv⟩ := hJ.at0 hl
        exact Ex.mem (rdAppend hok (by omega) hat rfl (show aa.eval (.tmp 27) = _ from hR.v 0 27 rfl rfl rfl rfl) (show aa.eval (.tmp 36) = _ from hR.v 9 36 rfl rfl rfl rfl) (hv.get 1 rfl) (hv.get 5 rfl)) (wn rfl) (JS.next hl ⟨by rw [hvals]; rfl, (hv.putAt 1 rfl _)⟩)
      · intro aa ww vals hJ hR
        refine mem_step' rfl fun hvl => ?_
        have hl : vals.length = 1 := hvl
        obtain ⟨hvals, hv⟩ := hJ.at0 hl
        refine mem_storeAt 0 (v := .slice (some ⟨b13, 0, none⟩) (i * 64 + 64) (n * 64)) (L' := [.slice (some ⟨b13, 0, none⟩) (i * 64 + 64) (n * 64)]) (wn rfl) rfl (show aa.eval (.tmp 8) = _ from hR.keep 8 rfl) (show aa.eval (.tmp 37) = _ from (hR.val 10 37 rfl rfl rfl).trans (by rw [hvals]; rfl)) hv rfl rdsz24 (by simp) rfl rfl rfl (fun w26 hv => ?_)
        exact JS.next hl ⟨by rw [hvals]; rfl, hv⟩
      rintro w27 vals ⟨rfl, hv⟩
      rw [show mixV [10, 11] [.slice (some ⟨b13, 0, none⟩) (i * 64 + 64) (n * 64), undef] 0 [.slice (some ⟨b13, 0, none⟩) (i * 64) (n * 64), .pointer (some ⟨p, 0, none⟩), .pointer (some ⟨p, 0, none⟩), .pointer (some ⟨p, 0, none⟩), .slice (some ⟨gd, 0, none⟩) E.dur.length E.dur.length, .int .i64 (at_ : Int), .int .i64 (i : Int), .int .i64 ((at_ + i : Nat) : Int), .pointer (some ⟨gd, 0 + (at_ + i : Nat) * 64, none⟩), .slice (some ⟨gd, 0 + (at_ + i : Nat) * 64, none⟩) 64 64, undef, undef] = [.slice (some ⟨b13, 0, none⟩) (i * 64) (n * 64), .pointer (some ⟨p, 0, none⟩), .pointer (some ⟨p, 0, none⟩), .pointer (some ⟨p, 0, none⟩), .slice (some ⟨gd, 0, none⟩) E.dur.length E.dur.length, .int .i64 (at_ : Int), .int .i64 (i : Int), .int .i64 ((at_ + i : Nat) : Int), .pointer (some ⟨gd, 0 + (at_ + i : Nat) * 64, none⟩), .slice (some ⟨gd, 0 + (at_ + i : Nat) * 64, none⟩) 64 64, .slice (some ⟨b13, 0, none⟩) (i * 64 + 64) (n * 64), undef] from rfl]
      simp only [putAll, Act.put, List.setIfInBounds_toArray, List.set_cons_succ, List.set_cons_zero]
      refine blk_normal ?_
      refine then_normal (hK24 _ _ ?_)
      clear hK24 K24
      refine wpIn_region_lit ?_
      refine wpi_exG (v := .int .i64 ((i : Int) + 1)) (fun _ => trivial) (wn rfl) rfl (ex_add (m := (i : Int)) (n := 1) rfl rfl rfl (i64_in (by omega))) ?_
      refine wpi_exG (v := .int .i64 ((i : Int) + 1)) (fun _ => trivial) (wn rfl) rfl (ex_move rfl rfl) ?_
      refine wpListIn_nil ?_
      simp only [Act.put, List.setIfInBounds_toArray, List.set_cons_succ, List.set_cons_zero]
      refine then_normal ?_
      go_roundw
      case rel => exact ⟨i + 1, by simp, by omega, by rw [Nat.succ_mul]; exact hv⟩
      case measure => show n - ((i : Int) + 1).toNat < n - (i : Int).toNat; omega
    · have hni : i = n := by omega
      rw [hni, Nat.sub_self, Nat.mul_zero, List.replicate_zero, List.append_nil] at hv
      skip
      refine wpi_exG (v := .bool false) (fun _ => trivial) (wn rfl) rfl (ex_lss (k := .i64) (m := (i : Int)) (n := (n : Int)) rfl rfl rfl (decide_eq_false hb22)) ?_
      refine wpListIn_nil ?_
      simp only [Act.put, List.setIfInBounds_toArray, List.set_cons_succ, List.set_cons_zero]
      refine then_normal (hK21 _ _ ?_)
      clear hK21 K21
      refine wpIn_seq_k (fun K28 hK28 => ?_)
      refine wpIn_cond_false rfl ?_
      refine wpIn_exit ?_
      refine then_exit ?_
      clear hK28 K28
      refine then_exit ?_
      refine blk_hit ?_
      refine then_normal (hK18 _ _ ?_)
      clear hK18 K18
      refine wpIn_seq_k (fun K29 hK29 => ?_)
      refine wpIn_seq_k (fun K30 hK30 => ?_)
      refine wpIn_region_lit ?_
      refine wpi_exG (v := .pointer (some ⟨p, 0, none⟩)) (fun _ => trivial) (wn rfl) rfl (ex_move rfl rfl) ?_
      refine wpi_callG rdcallable46 (fun _ => trivial) wideC rfl (wn rfl) rfl (args := #[.pointer (some ⟨p, 0, none⟩)]) (by simp only [List.map_toArray, List.map_cons, List.map_nil]; rfl) ((diskWritesSl B _ _ _ hv).mono ?_)
      rintro e w32 ⟨b31, rfl, hv⟩
      refine ⟨_, rfl, ?_⟩
      refine wpListIn_nil ?_
      simp only [Act.put, List.setIfInBounds_toArray, List.set_cons_succ, List.set_cons_zero]
      refine then_normal (hK30 _ _ ?_)
      clear hK30 K30
      refine wpIn_block ?_
      have hP := Inv.diskParts hok (((hv.front 7 rfl).front 7 rfl).front 7 rfl)
      have hcB := hv.load 0 0 (b := b31) rfl rfl
      have hlts := fun (r : Res) (hr : r ∈ ([Res.cell b31 [.pointer (some ⟨p, 0, none⟩)] 36, Res.cell b15 [.slice (some ⟨b13, 0, none⟩) (n * 64) (n * 64)] 24, Res.cell b13 (durCells (E.view [] at_ n)) 5, Res.cell b4 [.int .i64 (n : Int)] 3, Res.cell b2 [.int .i64 (at_ : Int)] 3, Res.cell p [.slice (some ⟨gd, 0, none⟩) E.dur.length E.dur.length, .slice vad E.pend.length vc, .int .i64 E.left] 87, Res.cell gd (durCells E.dur) 90] : List Res)) => hv.lt r (List.mem_append_left (Res.row 92 65 (.slice vad E.pend.length vc) E.pend.length (pendCells E.pend) :: H) hr)
      refine sl_writes (by omega) (bw := b31) (p := p) (gd := gd) (D := E) rfl hP hcB (by omega) rfl (K := [Res.cell b31 [.pointer (some ⟨p, 0, none⟩)] 36, Res.cell b15 [.slice (some ⟨b13, 0, none⟩) (n * 64) (n * 64)] 24, Res.cell b13 (durCells (E.view [] at_ n)) 5, Res.cell b4 [.int .i64 (n : Int)] 3, Res.cell b2 [.int .i64 (at_ : Int)] 3, Res.cell p [.slice (some ⟨gd, 0, none⟩) E.dur.length E.dur.length, .slice vad E.pend.length vc, .int .i64 E.left] 87, Res.cell gd (durCells E.dur) 90]) (H := Res.row 92 65 (.slice vad E.pend.length vc) E.pend.length (pendCells E.pend) :: H) hv (fun g hg => by rw [List.flatMap_cons]; exact List.mem_append_left _ (by simp [hg])) (fun pre => [Res.cell b31 [.pointer (some ⟨p, 0, none⟩)] 36, Res.cell b15 [.slice (some ⟨b13, 0, none⟩) (n * 64) (n * 64)] 24, Res.cell b13 (durCells (E.view (pre.map (fun y : PendEl E => y.1.2)) at_ n)) 5, Res.cell b4 [.int .i64 (n : Int)] 3, Res.cell b2 [.int .i64 (at_ : Int)] 3, Res.cell p [.slice (some ⟨gd, 0, none⟩) E.dur.length E.dur.length, .slice vad E.pend.length vc, .int .i64 E.left] 87, Res.cell gd (durCells E.dur) 90]) rfl (fun x b => { tmps := #[.pointer (some ⟨p, 0, none⟩), .int .i64 (at_ : Int), .int .i64 (n : Int), undef, .pointer (some ⟨b2, 0, none⟩), .pointer (some ⟨b4, 0, none⟩), .slice none 0 0, .int .i64 0, .pointer (some ⟨b15, 0, none⟩), u9, undef, .pointer (some ⟨b, 0, none⟩), .pointer (some ⟨p, 0, none⟩), .int .i64 (at_ : Int), .int .i64 (n : Int), .bool true, .bool false, .pointer (some ⟨p, 0, none⟩), .bool true, .bool false, .int .i64 (n : Int), .int .i64 ((n * 64 : Nat) : Int), .slice (some ⟨b13, 0, none⟩) 0 (n * 64 : Nat), .int .i64 (n : Int), .int .i64 (i : Int), .bool false, u26, u27, u28, u29, u30, u31, u32, u33, u34, u35, u36, u37, u38, .pointer (some ⟨p, 0, none⟩), .func (.func 57) #[] #[.pointer (some ⟨b31, 0, none⟩)], .int .i64 (x.1.1 : Int), .agg (wrCells x.1.2).toArray, undef, undef, undef, undef, undef, undef, undef, undef, undef, undef, undef, undef, undef, undef, undef, undef, undef, undef, undef, undef, undef, undef, undef], defers := [] }) ?cel ?fp ?assign ?body ?done
      case cel =>
        intro pre r hr
        simp only [List.mem_cons, List.not_mem_nil, or_false] at hr
        rcases hr with rfl | rfl | rfl | rfl | rfl | rfl | rfl
        all_goals exact celled_cell _ _ _
      case fp =>
        intro pre r hr b hb
        simp only [List.mem_cons, List.not_mem_nil, or_false] at hr
        rcases hr with rfl | rfl | rfl | rfl | rfl | rfl | rfl
        · rw [show b = _ from List.mem_singleton.1 hb]; exact hlts (Res.cell b31 [.pointer (some ⟨p, 0, none⟩)] 36) (by simp) _ (by simp)
        · rw [show b = _ from List.mem_singleton.1 hb]; exact hlts (Res.cell b15 [.slice (some ⟨b13, 0, none⟩) (n * 64) (n * 64)] 24) (by simp) _ (by simp)
        · rw [show b = _ from List.mem_singleton.1 hb]; exact hlts (Res.cell b13 (durCells (E.view [] at_ n)) 5) (by simp) _ (by simp)
        · rw [show b = _ from List.mem_singleton.1 hb]; exact hlts (Res.cell b4 [.int .i64 (n : Int)] 3) (by simp) _ (by simp)
        · rw [show b = _ from List.mem_singleton.1 hb]; exact hlts (Res.cell b2 [.int .i64 (at_ : Int)] 3) (by simp) _ (by simp)
        · rw [show b = _ from List.mem_singleton.1 hb]; exact hlts (Res.cell p [.slice (some ⟨gd, 0, none⟩) E.dur.length E.dur.length, .slice vad E.pend.length vc, .int .i64 E.left] 87) (by simp) _ (by simp)
        · rw [show b = _ from List.mem_singleton.1 hb]; exact hlts (Res.cell gd (durCells E.dur) 90) (by simp) _ (by simp)
      case assign =>
        intro l pre x w B' hB' hv
        have hx := pendEl_len hok x
        simp only [pendEnc, List.zip_toArray, List.zip_cons_cons, List.zip_nil_left, List.zip_nil_right, List.foldl_toArray', List.foldl_cons, List.foldl_nil, List.setIfInBounds_toArray, List.set_cons_succ, List.set_cons_zero]
        refine wpIn_region_lit ?_
        refine sl_alloc (fun _ => trivial) (wn rfl) rfl hv rdal92 (fun b33 w34 hv => ?_)
        refine sl_storeNAt 0 (new := wrCells x.1.2) (pre := []) (mid := [.int .i64 0, .int .u8 0, .int .u8 0, .int .u8 0, .int .u8 0, .int .u8 0, .int .u8 0, .int .u8 0, .int .u8 0, .int .u8 0, .int .u8 0, .int .u8 0, .int .u8 0, .int .u8 0, .int .u8 0, .int .u8 0, .int .u8 0, .int .u8 0, .int .u8 0, .int .u8 0, .int .u8 0, .int .u8 0, .int .u8 0, .int .u8 0, .int .u8 0, .int .u8 0, .int .u8 0, .int .u8 0, .int .u8 0, .int .u8 0, .int .u8 0, .int .u8 0, .int .u8 0, .int .u8 0, .int .u8 0, .int .u8 0, .int .u8 0, .int .u8 0, .int .u8 0, .int .u8 0, .int .u8 0, .int .u8 0, .int .u8 0, .int .u8 0, .int .u8 0, .int .u8 0, .int .u8 0, .int .u8 0, .int .u8 0, .int .u8 0, .int .u8 0, .int .u8 0, .int .u8 0, .int .u8 0, .int .u8 0, .int .u8 0, .int .u8 0, .int .u8 0, .int .u8 0, .int .u8 0, .int .u8 0, .int .u8 0, .int .u8 0, .int .u8 0, .int .u8 0]) (post := []) (L' := wrCells x.1.2) (fun _ => trivial) (wn rfl) rfl rfl rfl hv rfl (szWrite _ (wrLen hx.2)) rfl rfl (by rw [wrLen hx.2]; rfl) (wrOne _) (by simp) (fun w35 hv => ?_)
        simp only [List.set_cons_succ, List.set_cons_zero] at hv
        refine wpListIn_nil ?_
        simp only [Act.put, List.setIfInBounds_toArray, List.set_cons_succ, List.set_cons_zero]
        exact ⟨by trivial, _, rfl, hv⟩
      case body =>
        intro l pre x b w B' hB' hv hN
        have hx := pendEl_len hok x
        refine wpIn_block ?_
        refine wpIn_seq_k (fun K36 hK36 => ?_)
        refine wpIn_region_lit ?_
        refine wpi_exG (v := .pointer (some ⟨b, 0, none⟩)) (fun _ => trivial) (wn rfl) rfl (ex_field rfl rfl (rdfa92_0 _ _ _)) ?_
        refine wpi_exG (v := .int .i64 (x.1.2.1 : Int)) (fun _ => trivial) (wn rfl) rfl (ex_load rfl rfl (run_load1 rdna3 (hv.load 0 0 rfl rfl))) ?_
        refine wpi_exG (v := .int .i64 (at_ : Int)) (fun _ => trivial) (wn rfl) rfl (ex_load rfl rfl (run_load1 rdna3 (hv.load 5 0 rfl rfl))) ?_
        simp only [Act.put, List.setIfInBounds_toArray, List.set_cons_succ, List.set_cons_zero]
        by_cases hb37 : (x.1.2.1 : Int) ≥ (at_ : Int)
        · refine wpi_exG (v := .bool true) (fun _ => trivial) (wn rfl) rfl (ex_geq (k := .i64) (m := (x.1.2.1 : Int)) (n := (at_ : Int)) rfl rfl rfl (decide_eq_true hb37)) ?_
          refine wpi_exG (v := .bool true) (fun _ => trivial) (wn rfl) rfl (ex_move rfl rfl) ?_
          refine wpi_exG (v := .pointer (some ⟨b, 0, none⟩)) (fun _ => trivial) (wanted_of (j := 4) (d := 47) (b := true) rfl rfl rfl) rfl (ex_field rfl rfl (rdfa92_0 _ _ _)) ?_
          simp only [Act.put, List.setIfInBounds_toArray, List.set_cons_succ, List.set_cons_zero]
          refine wpi_exG (v := .int .i64 (x.1.2.1 : Int)) (fun _ => trivial) (wanted_of (j := 4) (d := 47) (b := true) rfl rfl rfl) rfl (ex_load rfl rfl (run_load1 rdna3 (hv.load 0 0 rfl rfl))) ?_
          refine wpi_exG (v := .int .i64 (at_ : Int)) (fun _ => trivial) (wanted_of (j := 4) (d := 47) (b := true) rfl rfl rfl) rfl (ex_load rfl rfl (run_load1 rdna3 (hv.load 5 0 rfl rfl))) ?_
          refine wpi_exG (v := .int .i64 ((x.1.2.1 : Int) - (at_ : Int))) (fun _ => trivial) (wanted_of (j := 4) (d := 47) (b := true) rfl rfl rfl) rfl (ex_sub (m := (x.1.2.1 : Int)) (n := (at_ : Int)) rfl rfl rfl (i64_in (by omega))) ?_
          simp only [Act.put, List.setIfInBounds_toArray, List.set_cons_succ, List.set_cons_zero]
          refine wpi_exG (v := .int .i64 (n : Int)) (fun _ => trivial) (wanted_of (j := 4) (d := 47) (b := true) rfl rfl rfl) rfl (ex_load rfl rfl (run_load1 rdna3 (hv.load 4 0 rfl rfl))) ?_
          by_cases hb38 : ((x.1.2.1 : Int) - (at_ : Int)) < (n : Int)
          · refine wpi_exG (v := .bool true) (fun _ => trivial) (wanted_of (j := 4) (d := 47) (b := true) rfl rfl rfl) rfl (ex_lss (k := .i64) (m := ((x.1.2.1 : Int) - (at_ : Int))) (n := (n : Int)) rfl rfl rfl (decide_eq_true hb38)) ?_
            refine wpi_exG (v := .bool true) (fun _ => trivial) (wn rfl) rfl (ex_pick (b := true) rfl rfl rfl) ?_
            refine wpListIn_nil ?_
            simp only [Act.put, List.setIfInBounds_toArray, List.set_cons_succ, List.set_cons_zero]
            refine then_normal (hK36 _ _ ?_)
            clear hK36 K36
            refine wpIn_cond_true rfl ?_
            refine region_stR mixed (fun ⟨_, _, h⟩ => by simp [Exit.then, Exit.inBlock] at h) [.slice (some ⟨b13, 0, none⟩) (n * 64) (n * 64), .pointer (some ⟨b, 0, none⟩), .int .i64 (x.1.2.1 : Int), .int .i64 (at_ : Int), .int .i64 ((x.1.2.1 : Int) - (at_ : Int)), .int .i64 (((x.1.2.1 - at_) * 64 : Nat) : Int), .slice (some ⟨b13, 0 + ((x.1.2.1 - at_) * 64 : Nat), none⟩) (n * 64 - ((x.1.2.1 - at_) * 64 : Nat)) (n * 64 - ((x.1.2.1 - at_) * 64 : Nat)), .pointer (some ⟨b, 1, none⟩), .slice (some ⟨b, 1, none⟩) 64 64, undef] [9] [⟨fun vals w => vals = [] ∧ Inv B' (Res.cell b (wrCells x.1.2) 92 :: Res.cell b31 [.pointer (some ⟨p, 0, none⟩)] 36 :: Res.cell b15 [.slice (some ⟨b13, 0, none⟩) (n * 64) (n * 64)] 24 :: Res.cell b13 (durCells (E.view (pre.map (fun y : PendEl E => y.1.2)) at_ n)) 5 :: Res.cell b4 [.int .i64 (n : Int)] 3 :: Res.cell b2 [.int .i64 (at_ : Int)] 3 :: Res.cell p [.slice (some ⟨gd, 0, none⟩) E.dur.length E.dur.length, .slice vad E.pend.length vc, .int .i64 E.left] 87 :: Res.cell gd (durCells E.dur) 90 :: []) w, fun _ _ _ ⟨h, hi⟩ he => ⟨h, hi.ext he⟩⟩, ⟨fun vals w => vals = [.int .i64 64] ∧ Inv B' (Res.cell b (wrCells x.1.2) 92 :: Res.cell b31 [.pointer (some ⟨p, 0, none⟩)] 36 :: Res.cell b15 [.slice (some ⟨b13, 0, none⟩) (n * 64) (n * 64)] 24 :: Res.cell b13 (durCells (E.view (pre.map (fun y : PendEl E => y.1.2) ++ [x.1.2]) at_ n)) 5 :: Res.cell b4 [.int .i64 (n : Int)] 3 :: Res.cell b2 [.int .i64 (at_ : Int)] 3 :: Res.cell p [.slice (some ⟨gd, 0, none⟩) E.dur.length E.dur.length, .slice vad E.pend.length vc, .int .i64 E.left] 87 :: Res.cell gd (durCells E.dur) 90 :: []) w, fun _ _ _ ⟨h, hi⟩ he => ⟨h, hi.ext he⟩⟩] 66 rfl (by kernel_rfl) (by kernel_rfl) ⟨rfl, hv⟩ ⟨?_, ?_, ?_, ?_, ?_, ?_, ?_, ?_, ?_, ?_, trivial⟩ ?_
            · intro aa ww vals hJ hR
              have h2 : vals.length ≤ 0 := hR.hi 9 (by simp) rfl
              have hl : vals.length = 0 := by omega
              obtain ⟨hvals, hv⟩ := hJ.at0 hl
              exact add_step' rfl (Ex.adds' (ex_load rfl (show aa.eval (.tmp 8) = _ from hR.keep 8 rfl) (run_load1 rdna24 (hv.load 2 0 rfl rfl))) (wn rfl) rfl)
            · intro aa ww vals hJ hR
              exact add_step' rfl (Ex.adds' (ex_field rfl (show aa.eval (.tmp 11) = _ from hR.keep 11 rfl) (rdfa92_0 _ _ _)) (wn rfl) rfl)
            · intro aa ww vals hJ hR
              have h2 : vals.length ≤ 0 := hR.hi 9 (by simp) rfl
              have hl : vals.length = 0 := by omega
              obtain ⟨hvals, hv⟩ := hJ.at0 hl
              exact add_step' rfl (Ex.adds' (ex_load rfl (show aa.eval (.tmp 56) = _ from hR.v 1 56 rfl rfl rfl rfl) (run_load1 rdna3 (hv.load 0 0 rfl rfl))) (wn rfl) rfl)
            · intro aa ww vals hJ hR
              have h2 : vals.length ≤ 0 := hR.hi 9 (by simp) rfl
              have hl : vals.length = 0 := by omega
              obtain ⟨hvals, hv⟩ := hJ.at0 hl
              exact add_step' rfl (Ex.adds' (ex_load rfl (show aa.eval (.tmp 4) = _ from hR.keep 4 rfl) (run_load1 rdna3 (hv.load 5 0 rfl rfl))) (wn rfl) rfl)
            · intro aa ww vals hJ hR
              exact add_step' rfl (Ex.adds' (ex_sub (m := (x.1.2.1 : Int)) (n := (at_ : Int)) rfl (show aa.eval (.tmp 57) = _ from hR.v 2 57 rfl rfl rfl rfl) (show aa.eval (.tmp 58) = _ from hR.v 3 58 rfl rfl rfl rfl) (i64_in (by omega))) (wn rfl) rfl)
            · intro aa ww vals hJ hR
              exact add_step' rfl (Ex.adds' (ex_mul (m := ((x.1.2.1 : Int) - (at_ : Int))) (n := 64) rfl (show aa.eval (.tmp 59) = _ from hR.v 4 59 rfl rfl rfl rfl) rfl (by rw [i64_in (by omega)]; omega)) (wn rfl) rfl)
            · intro aa ww vals hJ hR
              exact add_step' rfl (Ex.adds' (ex_slice (lo' := some (.int .i64 (((x.1.2.1 - at_) * 64 : Nat) : Int))) rfl (show aa.eval (.tmp 55) = _ from hR.v 0 55 rfl rfl rfl rfl) (congrArg some (show aa.eval (.tmp 60) = _ from hR.v 5 60 rfl rfl rfl rfl)) rfl rfl (run_from1 Try.underlying24 rdes24 (by omega) (by omega))) (wn rfl) rfl)
            · intro aa ww vals hJ hR
              exact add_step' rfl (Ex.adds' (ex_field rfl (show aa.eval (.tmp 11) = _ from hR.keep 11 rfl) (rdfa92_1 _ _ _)) (wn rfl) rfl)
            · intro aa ww vals hJ hR
              exact add_step' rfl (Ex.adds' (ex_slice rfl (show aa.eval (.tmp 62) = _ from hR.v 7 62 rfl rfl rfl rfl) rfl rfl rfl (rdsa90 _ _ _)) (wn rfl) rfl)
            · intro aa ww vals hJ hR
              refine mem_step' rfl fun hvl => ?_
              have hl : vals.length = 0 := hvl
              obtain ⟨hvals, hv⟩ := hJ.at0 hl
              exact Ex.mem (rdCopy hok (pre64 hok pre) hx.2 (by omega) (by omega) hat rfl (show aa.eval (.tmp 61) = _ from hR.v 6 61 rfl rfl rfl rfl) (show aa.eval (.tmp 63) = _ from hR.v 8 63 rfl rfl rfl rfl) (hv.get 3 rfl) (hv.get 0 rfl)) (wn rfl) (JS.next hl ⟨by rw [hvals]; rfl, (hv.putAt 3 rfl _)⟩)
            rintro w39 vals ⟨rfl, hv⟩
            rw [show mixV [9] [.int .i64 64] 0 [.slice (some ⟨b13, 0, none⟩) (n * 64) (n * 64), .pointer (some ⟨b, 0, none⟩), .int .i64 (x.1.2.1 : Int), .int .i64 (at_ : Int), .int .i64 ((x.1.2.1 : Int) - (at_ : Int)), .int .i64 (((x.1.2.1 - at_) * 64 : Nat) : Int), .slice (some ⟨b13, 0 + ((x.1.2.1 - at_) * 64 : Nat), none⟩) (n * 64 - ((x.1.2.1 - at_) * 64 : Nat)) (n * 64 - ((x.1.2.1 - at_) * 64 : Nat)), .pointer (some ⟨b, 1, none⟩), .slice (some ⟨b, 1, none⟩) 64 64, undef] = [.slice (some ⟨b13, 0, none⟩) (n * 64) (n * 64), .pointer (some ⟨b, 0, none⟩), .int .i64 (x.1.2.1 : Int), .int .i64 (at_ : Int), .int .i64 ((x.1.2.1 : Int) - (at_ : Int)), .int .i64 (((x.1.2.1 - at_) * 64 : Nat) : Int), .slice (some ⟨b13, 0 + ((x.1.2.1 - at_) * 64 : Nat), none⟩) (n * 64 - ((x.1.2.1 - at_) * 64 : Nat)) (n * 64 - ((x.1.2.1 - at_) * 64 : Nat)), .pointer (some ⟨b, 1, none⟩), .slice (some ⟨b, 1, none⟩) 64 64, .int .i64 64] from rfl]
            simp only [putAll, Act.put, List.setIfInBounds_toArray, List.set_cons_succ, List.set_cons_zero]
            refine blk_normal ?_
            rw [map_snoc]
            exact ⟨by trivial, hv.drop⟩
          · refine wpi_exG (v := .bool false) (fun _ => trivial) (wanted_of (j := 4) (d := 47) (b := true) rfl rfl rfl) rfl (ex_lss (k := .i64) (m := ((x.1.2.1 : Int) - (at_ : Int))) (n := (n : Int)) rfl rfl rfl (decide_eq_false hb38)) ?_
            refine wpi_exG (v := .bool false) (fun _ => trivial) (wn rfl) rfl (ex_pick (b := true) rfl rfl rfl) ?_
            refine wpListIn_nil ?_
            simp only [Act.put, List.setIfInBounds_toArray, List.set_cons_succ, List.set_cons_zero]
            refine then_normal (hK36 _ _ ?_)
            clear hK36 K36
            refine wpIn_cond_false rfl ?_
            refine wpIn_skip ?_
            refine blk_normal ?_
            rw [map_snoc, Disk.view_out _ _ _ _ _ (by omega)]
            exact ⟨by trivial, hv.drop⟩
        · refine wpi_exG (v := .bool false) (fun _ => trivial) (wn rfl) rfl (ex_geq (k := .i64) (m := (x.1.2.1 : Int)) (n := (at_ : Int)) rfl rfl rfl (decide_eq_false hb37)) ?_
          refine wpi_exG (v := .bool false) (fun _ => trivial) (wn rfl) rfl (ex_move rfl rfl) ?_
          refine wpi_not (fun _ => trivial) (wanted_not (j := 4) (d := 47) (b := true) (b' := false) rfl rfl rfl (by decide)) ?_
          simp only [Act.put, List.setIfInBounds_toArray, List.set_cons_succ, List.set_cons_zero]
          refine wpi_not (fun _ => trivial) (wanted_not (j := 4) (d := 47) (b := true) (b' := false) rfl rfl rfl (by decide)) ?_
          refine wpi_not (fun _ => trivial) (wanted_not (j := 4) (d := 47) (b := true) (b' := false) rfl rfl rfl (by decide)) ?_
          refine wpi_not (fun _ => trivial) (wanted_not (j := 4) (d := 47) (b := true) (b' := false) rfl rfl rfl (by decide)) ?_
          simp only [Act.put, List.setIfInBounds_toArray, List.set_cons_succ, List.set_cons_zero]
          refine wpi_not (fun _ => trivial) (wanted_not (j := 4) (d := 47) (b := true) (b' := false) rfl rfl rfl (by decide)) ?_
          refine wpi_not (fun _ => trivial) (wanted_not (j := 4) (d := 47) (b := true) (b' := false) rfl rfl rfl (by decide)) ?_
          refine wpi_exG (v := .bool false) (fun _ => trivial) (wn rfl) rfl (ex_pick (b := false) rfl rfl rfl) ?_
          refine wpListIn_nil ?_
          simp only [Act.put, List.setIfInBounds_toArray, List.set_cons_succ, List.set_cons_zero]
          refine then_normal (hK36 _ _ ?_)
          clear hK36 K36
          refine wpIn_cond_false rfl ?_
          refine wpIn_skip ?_
          refine blk_normal ?_
          rw [map_snoc, Disk.view_out _ _ _ _ _ (by omega)]
          exact ⟨by trivial, hv.drop⟩
      case done =>
        intro d40 xs w41 hS hv
        simp only [List.cons_append, List.nil_append] at hv
        refine blk_normal ?_
        refine then_normal (hK29 _ _ ?_)
        clear hK29 K29
        refine wpIn_seq_k (fun K42 hK42 => ?_)
        refine wpIn_region_lit ?_
        refine wpi_exG (v := .slice (some ⟨b13, 0, none⟩) (n * 64) (n * 64)) (fun _ => trivial) (wn rfl) rfl (ex_load rfl rfl (run_load1 rdna24 (hv.load 2 0 rfl rfl))) ?_
        refine wpi_exG (v := .slice (some ⟨b13, 0, none⟩) (n * 64) (n * 64)) (fun _ => trivial) (wn rfl) rfl (ex_assign rfl rfl) ?_
        refine wpi_exG (v := .int .i64 0) (fun _ => trivial) (wn rfl) rfl (ex_assign rfl rfl) ?_
        refine wpListIn_nil ?_
        simp only [Act.put, List.setIfInBounds_toArray, List.set_cons_succ, List.set_cons_zero]
        refine then_normal (hK42 _ _ ?_)
        clear hK42 K42
        refine wpIn_ret ?_
        refine sl_end1 hv (fun w43 hv => ⟨_, results_tmp2 rfl _ _ _, ?_⟩)
        rw [all_pend hS] at hv
        obtain ⟨F', hv⟩ := Inv.diskClose (v := .slice vad E.pend.length vc) hok (((((hv.front 2 rfl).front 7 rfl).front 7 rfl).front 7 rfl).sub (List.Sublist.cons_cons _ (List.Sublist.cons_cons _ (List.Sublist.cons_cons _ (List.Sublist.cons_cons _ (List.Sublist.cons _ (List.Sublist.cons _ (List.Sublist.cons _ (List.Sublist.cons _ (List.Sublist.refl _))))))))))
        exact ⟨_, rfl, F', (hv.front 1 rfl)⟩
end Go.Proofs.Ytkannfkjnohdlaa
