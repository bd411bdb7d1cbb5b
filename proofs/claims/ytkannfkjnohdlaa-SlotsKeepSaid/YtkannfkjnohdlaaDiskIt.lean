/- the disk's iterator over its pending writes -/
import Derived.Test.YtkannfkjnohdlaaDiskW
import Derived.Test.YtkannfkjnohdlaaRound
namespace Go.Proofs.Ytkannfkjnohdlaa
open Go.RowKit Go.Pm

theorem run_index {P : Program} {t e : TypeId} {g off n c k size : Nat} {w : World} (ht : P.underlying t = some (.slice (P.elem t))) (hs : (sizeOf (P.elem t)).run P w = .ok size w) (hk : k < n) :
    (Instr.indexAt t (.slice (some ⟨g, off, none⟩) n c) (.int .i64 (k : Int))).run P w = .ok (.pointer (some ⟨g, off + k * size, none⟩)) w := by
  rw [run_indexAt_slice (h := ht), if_pos (by omega), hs]
  have : (⟨g, off, none⟩ : Addr).add (k * size) = ⟨g, off + k * size, none⟩ := by unfold Addr.add; split <;> simp_all
  simp [Result.andThen, this]

theorem pendCells_split (l : List (Nat × List UInt8)) (k : Nat) (hk : k < l.length) : pendCells l = pendCells (l.take k) ++ wrCells l[k] ++ pendCells (l.drop (k + 1)) := by
  have : l = l.take k ++ [l[k]] ++ l.drop (k + 1) := by simp
  conv => lhs; rw [this]
  simp only [pendCells, List.map_append, List.flatten_append, List.map_cons, List.map_nil, List.flatten_cons, List.flatten_nil, List.append_nil]
theorem pendCells_length {l : List (Nat × List UInt8)} (h : ∀ p ∈ l, p.2.length = 64) : (pendCells l).length = l.length * 65 := by
  induction l with
  | nil => rfl
  | cons p l ih =>
    have h1 := h p (by simp)
    have h2 := ih (fun q hq => h q (by simp [hq]))
    simp only [pendCells, List.map_cons, List.flatten_cons, List.length_append, List.length_cons] at h2 ⊢
    rw [h2]
    simp [wrCells, h1]
    omega

/-- a pending write and its number -/
abbrev PendEl (D : Disk) := { x : Nat × (Nat × List UInt8) // D.pend[x.1]? = some x.2 }
def pendEnc {D : Disk} (x : PendEl D) : Array Value := #[.int .i64 (x.1.1 : Int), .agg (wrCells x.1.2).toArray]
def numbered (D : Disk) : List (Nat × (Nat × List UInt8)) := D.pend.zipIdx.map (fun p => (p.2, p.1))
theorem numbered_length (D : Disk) : (numbered D).length = D.pend.length := by simp [numbered]
theorem numbered_get (D : Disk) (k : Nat) (hk : k < D.pend.length) : (numbered D)[k]? = some (k, D.pend[k]) := by
  simp [numbered, hk]
/-- what a round keeps: the block of the pending writes -/
def pendKept (vp : Value) (W W' : World) : Prop := W.heap.size ≤ W'.heap.size ∧ ∀ g, vp.ownBlock = some g → W'.heap[g]? = W.heap[g]?
theorem pendKept.tr {vp : Value} {A B C : World} (h : pendKept vp A B) (k : pendKept vp B C) : pendKept vp A C := ⟨Nat.le_trans h.1 k.1, fun g hg => (k.2 g hg).trans (h.2 g hg)⟩
theorem pendKept_owns {vp : Value} {W W' : World} {e : TypeId} {size n : Nat} {xs : List Value} (h : W.ownsRow 0 e size vp n xs) (k : pendKept vp W W') : W'.ownsRow 0 e size vp n xs := by
  refine ⟨h.1, ?_⟩
  rcases h.2 with h4 | ⟨g, cap, cur, rfl, hb, hg, h5⟩
  · exact .inl h4
  · exact .inr ⟨g, cap, cur, rfl, hb, (k.2 g rfl).trans hg, h5⟩
set_option maxRecDepth 100000 in
theorem sizeW (w : World) : (sizeOf (Try.prog.elem 85)).run Try.prog w = .ok 65 w := by kernel_rfl
theorem naD (w : World) : (isAgg 36).run Try.prog w = .ok false w := by kernel_rfl
set_option maxRecDepth 100000 in
/-- a pending write, where it lies -/
theorem pendLoad {w : World} {D : Disk} (hok : D.Ok) {vp : Value} (h : w.ownsRow 0 92 65 vp D.pend.length (pendCells D.pend)) (k : Nat) (hk : k < D.pend.length) :
    ∃ ad, (Instr.indexAt 85 vp (.int .i64 (k : Int))).run Try.prog w = .ok (.pointer (some ad)) w ∧ (Instr.loadAt 92 (.pointer (some ad))).run Try.prog w = .ok (.agg (wrCells D.pend[k]).toArray) w := by
  rcases h.2 with ⟨_, h0⟩ | ⟨g, cap, cur, rfl, _, hg, hnc, _, hcs, htake⟩
  · omega
  · refine ⟨_, run_index (e := 92) Try.underlying85 (sizeW w) hk, ?_⟩
    have hb : Blk w g (pendCells (D.pend.take k) ++ wrCells D.pend[k] ++ (pendCells (D.pend.drop (k + 1)) ++ cur.toList.drop (D.pend.length * 65))) 92 := by
      rw [← List.append_assoc, ← pendCells_split D.pend k hk, ← htake, List.take_append_drop]
      exact hg
    have hl : (wrCells D.pend[k]).length = 65 := by simp [wrCells, (hok.pend _ (List.getElem_mem hk)).2]
    refine run_load_mid (by rw [hl]; exact wideW) hb ?_
    rw [pendCells_length (fun p hp => (hok.pend p (List.mem_of_mem_take hp)).2), List.length_take, Nat.min_eq_left (Nat.le_of_lt hk)]
    omega
theorem wrCells_len {D : Disk} (hok : D.Ok) (k : Nat) (hk : k < D.pend.length) : (wrCells D.pend[k]).length = 65 := by simp [wrCells, (hok.pend _ (List.getElem_mem hk)).2]
/-- a variable for a write: laid, then filled -/
theorem storeNewW (w : World) (L : List Value) (hL : L.length = 65) (h1 : ∀ v ∈ L, v.oneCell' = true) :
    (Instr.storeAt 92 (.pointer (some ⟨w.heap.size, 0, none⟩)) (.agg L.toArray)).run Try.prog (w.alloc (.cells (.int .i64 0 :: z64).toArray 92)) = .ok () (w.alloc (.cells L.toArray 92)) := by
  have hst := run_store_mid (P := Try.prog) (t := 92) (b := w.heap.size) (off := 0) (pre := []) (mid := .int .i64 0 :: z64) (post := []) (new := L) (w := w.alloc (.cells (.int .i64 0 :: z64).toArray 92)) (e := 92)
    (by rw [hL]; exact wideW.size) (by simpa using blk_new w (.int .i64 0 :: z64) 92) rfl (by rw [hL, List.length_cons, z64_len]) h1
  have : setBlk (w.alloc (.cells (.int .i64 0 :: z64).toArray 92)) w.heap.size ([] ++ L ++ []) = w.alloc (.cells L.toArray 92) := by
    unfold setBlk
    rw [World.setRow_alloc_new]
    simp
  rw [this] at hst
  exact hst
theorem loadNewW (w : World) (L : List Value) (hL : L.length = 65) : (Instr.loadAt 92 (.pointer (some ⟨w.heap.size, 0, none⟩))).run Try.prog (w.alloc (.cells L.toArray 92)) = .ok (.agg L.toArray) (w.alloc (.cells L.toArray 92)) :=
  run_load_mid (pre := []) (post := []) (mid := L) (by rw [hL]; exact wideW) (by simpa using blk_new w L 92) rfl
theorem pendSlice {w : World} {e : TypeId} {size : Nat} {vp : Value} {n : Nat} {xs : List Value} (h : w.ownsRow 0 e size vp n xs) : ∃ ad c, vp = .slice ad n c := by
  rcases h.2 with ⟨rfl, rfl⟩ | ⟨g, cap, cur, rfl, _⟩
  · exact ⟨_, _, rfl⟩
  · exact ⟨_, _, rfl⟩
set_option maxRecDepth 100000 in
set_option maxHeartbeats 1000000 in
theorem diskWrites (w : World) (ad : Option Addr) :
    Calls Try.prog 46 #[.pointer ad] w fun e w' => e = .returned (.func (.func 57) #[] #[.pointer (some ⟨w.heap.size, 0, none⟩)]) ∧ w' = w.alloc (.cells #[.pointer ad] 36) := by
  go_enter Try.func46, Try.ntmps46
  go_wp2_with fail
  go_ret
  exact ⟨rfl, rfl⟩

set_option maxRecDepth 100000 in
set_option maxHeartbeats 400000 in
theorem diskIter (w : World) (p : Nat) (D : Disk) (F : List Nat) (gd : Nat) (vp : Value) (hD : DiskParts w p D F gd vp) (B m : Nat) (hB : w.cell? ⟨B, 0, none⟩ = some (.pointer (some ⟨p, 0, none⟩))) (hBl : B < w.heap.size) (hlen : D.pend.length ≤ 2000000000) :
    SeqStopsK Fence.wide m Try.prog 57 #[.pointer (some ⟨B, 0, none⟩)] pendEnc (pendKept vp) (fun xs : List (PendEl D) => xs.map (·.1) = numbered D) (fun _ => True) D.pend.length w := by
  intro l J Jx W hW hJ hJx hY h0
  have hsame : ∀ k, k < w.heap.size → W.heap[k]? = w.heap[k]? := hW.block
  have hcB : W.cell? ⟨B, 0, none⟩ = some (.pointer (some ⟨p, 0, none⟩)) := (World.cell?_of_block (hsame B hBl)).trans hB
  have hcp : W.cell? ⟨p, 0 + 1, none⟩ = some vp := by
    have : Blk W p _ 87 := (hsame p hD.blk.lt).trans hD.blk
    rw [this.cell]; rfl
  have hrow : W.ownsRow 0 92 65 vp D.pend.length (pendCells D.pend) := ownsRow_ext hD.pend hW
  obtain ⟨vad, vc, hvp⟩ := pendSlice hrow
  have hok := hD.ok
  refine callsIn_of_wp Try.func57 rfl trivial ?_ rfl
  simp only [Try.ntmps57, List.size_toArray, List.length_cons, List.length_nil, Nat.reduceAdd, Nat.reduceSub, Array.replicate_succ, Array.replicate_zero, List.push_toArray, List.append_toArray, List.nil_append, List.cons_append]
  (repeat ((fail_if_success refine wpIn_region_lit ?_); (fail_if_success refine wpIn_cond (t := true) ?_ ?_); gi_step))
  refine wpIn_region_lit ?_
  refine wpi_ex (fun _ => trivial) rfl rfl (ex_load rfl rfl (run_load1 naD hcB)) ?_
  refine wpi_ex (fun _ => trivial) rfl rfl (ex_nil rfl rfl) ?_
  refine wpi_ex (fun _ => trivial) rfl rfl (ex_field rfl rfl (faD1 _ _ _)) ?_
  refine wpi_ex (fun _ => trivial) rfl rfl (ex_load rfl rfl (run_load1 naP hcp)) ?_
  refine wpi_ex (fun _ => trivial) rfl rfl (ex_len Try.underlying85 rfl hvp) ?_
  refine wpi_ex (fun _ => trivial) rfl rfl (ex_move (v := .int .i64 0) rfl rfl) ?_
  refine wpListIn_nil ?_
  simp only [Act.put, List.setIfInBounds_toArray, List.set_cons_succ, List.set_cons_zero]
  (repeat ((fail_if_success refine wpIn_region_lit ?_); (fail_if_success refine wpIn_cond (t := true) ?_ ?_); gi_step))
  gi_loopw [10] (fun x wr => ∃ (k : Nat) (pre : List (PendEl D)), x = .int .i64 (k : Int) ∧ k ≤ D.pend.length ∧ pre.map (·.1) = (numbered D).take k ∧ J pre wr ∧ pendKept vp W wr) (fun x _ => D.pend.length - (intOf x).toNat)
  case atStart => exact ⟨0, [], rfl, by omega, by simp, h0, Nat.le_refl _, fun _ _ => rfl⟩
  case round =>
    obtain ⟨k, pre, rfl, hk, hpre, hJk, hkept⟩ := hrel
    have hpl : pre.length = k := by
      have := congrArg List.length hpre
      rw [List.length_map, List.length_take, numbered_length] at this
      omega
    by_cases hlt : k < D.pend.length
    · (repeat ((fail_if_success refine wpIn_region_lit ?_); (fail_if_success refine wpIn_cond (t := true) ?_ ?_); gi_step))
      refine wpIn_region_lit ?_
      refine wpi_ex (fun _ => trivial) rfl rfl (ex_bin (v := .bool true) rfl rfl rfl (by simp [go_sem]) (by simp [go_sem, hlt])) ?_
      refine wpListIn_nil ?_
      simp only [Act.put, List.setIfInBounds_toArray, List.set_cons_succ, List.set_cons_zero]
      (repeat ((fail_if_success refine wpIn_region_lit ?_); (fail_if_success refine wpIn_cond (t := true) ?_ ?_); gi_step))
      refine wpIn_cond_true rfl ?_
      (repeat ((fail_if_success refine wpIn_region_lit ?_); (fail_if_success refine wpIn_cond (t := true) ?_ ?_); gi_step))
      obtain ⟨ad, hidx, hld⟩ := pendLoad hok (pendKept_owns hrow hkept) k hlt
      have hwl := wrCells_len hok k hlt
      have hw1 := wrCells_one D.pend[k]
      have hx : D.pend[k]? = some D.pend[k] := List.getElem?_eq_getElem hlt
      have hnum : (numbered D)[k]? = some (k, D.pend[k]) := numbered_get D k hlt
      generalize D.pend[k] = x at *
      refine wpIn_region_lit ?_
      refine wpi_ex (fun _ => trivial) rfl rfl (ex_move (v := .int .i64 (k : Int)) rfl rfl) ?_
      refine wpi_ex (fun _ => trivial) rfl rfl (ex_index rfl rfl rfl hidx) ?_
      refine wpi_ex (fun _ => trivial) rfl rfl (ex_load rfl rfl hld) ?_
      refine wpi_ex (fun _ => trivial) rfl rfl (ex_alloc rfl (allocW _)) ?_
      refine wpi_ex (fun _ => trivial) rfl rfl (ex_assign (v := .int .i64 (k : Int)) rfl rfl) ?_
      refine wpi_exU (fun _ => trivial) rfl rfl (ex_store rfl rfl rfl (storeNewW wr (wrCells x) hwl hw1)) ?_
      refine wpListIn_nil ?_
      simp only [Act.put, List.setIfInBounds_toArray, List.set_cons_succ, List.set_cons_zero]
      (repeat ((fail_if_success refine wpIn_region_lit ?_); (fail_if_success refine wpIn_cond (t := true) ?_ ?_); gi_step))
      have hJ1 : J pre (wr.alloc (.cells (wrCells x).toArray 92)) := hJ pre wr _ none hJk (World.grownBy_alloc wr _ none) (fun r e => by cases e)
      have hk1 : pendKept vp W (wr.alloc (.cells (wrCells x).toArray 92)) := hkept.tr ⟨by simp, fun g hg => heap_old wr _ g (by
        rcases hrow.2 with ⟨rfl, _⟩ | ⟨g', cap, cur, rfl, _, hg', _⟩
        · cases hg
        · cases hg
          exact Nat.lt_of_lt_of_le (Array.getElem?_eq_some_iff.1 hg').1 hkept.1)⟩
      have hyl := hY pre ⟨(k, x), hx⟩ _ hJ1 (by omega)
      refine wpIn_region_lit ?_
      refine wpi_ex (fun _ => trivial) rfl rfl (ex_move (v := .func (.yield l) #[] #[]) rfl rfl) ?_
      refine wpi_ex (fun _ => trivial) rfl rfl (ex_move (v := .int .i64 (k : Int)) rfl rfl) ?_
      refine wpi_ex (fun _ => trivial) rfl rfl (ex_load rfl rfl (loadNewW wr (wrCells x) hwl)) ?_
      refine wpi_yield (args := #[.int .i64 (k : Int), .agg (wrCells x).toArray]) (fun _ => trivial) rfl rfl rfl rfl (by simp only [List.map_toArray, List.map_cons, List.map_nil]; rfl) hyl ?_
      rintro e W3 (⟨rfl, hJ3, hk3⟩ | ⟨rfl, hJx3⟩)
      · refine ⟨_, rfl, ?_⟩
        refine wpi_ex (fun _ => trivial) rfl rfl (ex_un (v := .bool false) rfl rfl (by simp [go_sem])) ?_
        refine wpListIn_nil ?_
        simp only [Act.put, List.setIfInBounds_toArray, List.set_cons_succ, List.set_cons_zero]
        (repeat ((fail_if_success refine wpIn_region_lit ?_); (fail_if_success refine wpIn_cond (t := true) ?_ ?_); gi_step))
        refine wpIn_cond_false rfl ?_
        (repeat ((fail_if_success refine wpIn_region_lit ?_); (fail_if_success refine wpIn_cond (t := true) ?_ ?_); gi_step))
        refine wpIn_region_lit ?_
        refine wpi_ex (fun _ => trivial) rfl rfl (ex_bin (v := .int .i64 ((k : Int) + 1)) rfl rfl rfl (by simp [go_sem]) (by simp [go_sem, IntKind.wrap_i64]; omega)) ?_
        refine wpi_ex (fun _ => trivial) rfl rfl (ex_move (v := .int .i64 ((k : Int) + 1)) rfl rfl) ?_
        refine wpListIn_nil ?_
        simp only [Act.put, List.setIfInBounds_toArray, List.set_cons_succ, List.set_cons_zero]
        (repeat ((fail_if_success refine wpIn_region_lit ?_); (fail_if_success refine wpIn_cond (t := true) ?_ ?_); gi_step))
        go_roundw
        case rel => exact ⟨k + 1, pre ++ [⟨(k, x), hx⟩], by simp, hlt, by rw [List.map_append, hpre, List.take_add_one, hnum]; rfl, hJ3, hk1.tr hk3⟩
        case measure => show D.pend.length - ((k : Int) + 1).toNat < D.pend.length - (k : Int).toNat; omega
      · refine ⟨_, rfl, ?_⟩
        refine wpi_ex (fun _ => trivial) rfl rfl (ex_un (v := .bool true) rfl rfl (by simp [go_sem])) ?_
        refine wpListIn_nil ?_
        simp only [Act.put, List.setIfInBounds_toArray, List.set_cons_succ, List.set_cons_zero]
        (repeat ((fail_if_success refine wpIn_region_lit ?_); (fail_if_success refine wpIn_cond (t := true) ?_ ?_); gi_step))
        refine wpIn_cond_true rfl ?_
        (repeat ((fail_if_success refine wpIn_region_lit ?_); (fail_if_success refine wpIn_cond (t := true) ?_ ?_); gi_step))
        refine bodyPost_ret (results_none rfl _ _ _) rfl ?_
        exact ⟨⟨_, rfl⟩, .inr ⟨_, trivial, hJx3⟩⟩
    · obtain rfl : k = D.pend.length := by omega
      (repeat ((fail_if_success refine wpIn_region_lit ?_); (fail_if_success refine wpIn_cond (t := true) ?_ ?_); gi_step))
      refine wpIn_region_lit ?_
      refine wpi_ex (fun _ => trivial) rfl rfl (ex_bin (v := .bool false) rfl rfl rfl (by simp [go_sem]) (by simp [go_sem])) ?_
      refine wpListIn_nil ?_
      simp only [Act.put, List.setIfInBounds_toArray, List.set_cons_succ, List.set_cons_zero]
      (repeat ((fail_if_success refine wpIn_region_lit ?_); (fail_if_success refine wpIn_cond (t := true) ?_ ?_); gi_step))
      refine wpIn_cond_false rfl ?_
      (repeat ((fail_if_success refine wpIn_region_lit ?_); (fail_if_success refine wpIn_cond (t := true) ?_ ?_); gi_step))
      go_end0
      exact ⟨⟨_, rfl⟩, .inl ⟨pre, by rw [hpre, List.take_of_length_le (by rw [numbered_length]; exact Nat.le_refl _)], hJk⟩⟩
end Go.Proofs.Ytkannfkjnohdlaa
